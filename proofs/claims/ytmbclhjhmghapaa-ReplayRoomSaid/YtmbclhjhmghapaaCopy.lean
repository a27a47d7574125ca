/- copy within a row of elements of several cells; an element taken out of an owned slice. No program in sight. -/
import Derived.Test.YtmbclhjhmghapaaOwn
import Derived.Laws.CopyRow
namespace Go.Proofs.Ytmbclhjhmghapaa
open Go.RowKit

theorem run_copy_cells {P : Program} (w : World) (dT sT ty elem : TypeId) (sz g o dLen dCap : Nat) (a : Option Addr) (sLen sCap : Nat) (cur : Array Value) (t : TypeId) (cs : List Value)
    (hu : P.underlying dT = some (.slice elem)) (hs : (P.info? elem).map (·.size) = some sz)
    (hg : w.heap[g]? = some (.cells cur t (0, 0))) (hn : cs.length = Nat.min sLen dLen * sz) (ha : a = none → sLen = 0)
    (hsrc : ∀ ad, a = some ad → ∀ j v, cs[j]? = some v → w.cell? (ad.add j) = some v) (hfit : o + cs.length ≤ cur.size) (h1 : ∀ v ∈ cs, v.oneCell' = true) :
    (Builtin.copy_ #[dT, sT] ty #[.slice (some ⟨g, o, none⟩) dLen dCap, .slice a sLen sCap]).run P w =
      .ok (goInt (Nat.min sLen dLen)) (w.setRow g (cur.toList.take o ++ cs ++ cur.toList.drop (o + cs.length)).toArray) := by
  have hst := run_storeCells_at P g o t cs 0 cur w hg (by simpa using hfit) h1
  cases hq : P.info? elem with
  | none => simp [hq] at hs
  | some i =>
    have hi : i.size = sz := by simpa [hq] using hs
    cases a with
    | none =>
      have h0 := ha rfl
      subst h0
      have hc : cs = [] := List.eq_nil_of_length_eq_zero (by rw [hn]; simp)
      subst hc
      simp only [List.append_nil, List.length_nil, Nat.add_zero, List.take_append_drop, Array.toArray_toList]
      rw [setRow_self w g cur t _ hg]
      simp [Builtin.copy_, run_underlying hu, Builtin.lenOf, Builtin.firstCells, sizeOf, typeInfo, hq, storeCells]
    | some ad =>
      have hl := run_loadCells_list (P := P) w ad cs (hsrc ad rfl)
      rw [hn] at hl
      simp [Builtin.copy_, run_underlying hu, Builtin.lenOf, Builtin.firstCells, sizeOf, typeInfo, hq, hi, hl, hst]

theorem step_copy_cells {P : Program} {ops : Array Oper} {o : Oper} {a : Act} {w : World} {K : Act → World → Prop} {Q : Exit → Act → World → Prop} {E : Prop} (hgd : o.guard = none) (d s : Operand) (dT sT : TypeId)
    (ho : o.op = .call { callee := .builtin .copy, args := #[d, s], argTypes := #[dT, sT] }) (elem : TypeId) (sz : Nat) (hu : P.underlying dT = some (.slice elem)) (hsz : (P.info? elem).map (·.size) = some sz)
    (g off : Nat) (sp : Option Addr) (dLen dCap sLen sCap : Nat) (hd : a.eval d = .slice (some ⟨g, off, none⟩) dLen dCap) (hs : a.eval s = .slice sp sLen sCap)
    (cur : Array Value) (t : TypeId) (hg : w.heap[g]? = some (.cells cur t (0, 0))) (cs : List Value) (hn : cs.length = Nat.min sLen dLen * sz) (ha : sp = none → sLen = 0)
    (hsrc : ∀ ad, sp = some ad → ∀ j v, cs[j]? = some v → w.cell? (ad.add j) = some v)
    (hfit : off + cs.length ≤ cur.size) (h1 : ∀ v ∈ cs, v.oneCell' = true)
    (h : K (a.put o.dst (goInt (Nat.min sLen dLen))) (w.setRow g (cur.toList.take off ++ cs ++ cur.toList.drop (off + cs.length)).toArray)) :
    if Region.wanted o (yielded ops a.tmps) = true then Oper.wp P o a w K Q else E := by
  have hw : Region.wanted o (yielded ops a.tmps) = true := by simp [Region.wanted, hgd]
  rw [if_pos hw]
  have hrun := run_copy_cells (P := P) w dT sT o.type elem sz g off dLen dCap sp sLen sCap cur t cs hu hsz hg hn ha hsrc hfit h1
  unfold Oper.wp
  simp only [List.append_assoc] at hrun h
  simp [execOp, ho, resolve, invoke, builtin, hd, hs, hrun, Result.andThen]
  exact h

theorem Only.setRow {F : Nat → Prop} {a w : World} (h : Only F a w) {g : Nat} (hg : F g ∨ a.heap.size ≤ g) (cs : Array Value) : Only F a (w.setRow g cs) :=
  ⟨h.os, h.tape, h.output, by rw [size_setRow]; exact h.size, fun b hb hf => (setRow_other w g b cs (by rintro rfl; rcases hg with hg | hg; exact hf hg; omega)).trans (h.block b hb hf)⟩

theorem take_flat (sz : Nat) : ∀ (css : List (List Value)) (k : Nat), (∀ cs ∈ css, cs.length = sz) → (css.take k).flatten = css.flatten.take (k * sz) := by
  intro css
  induction css with
  | nil => intro k _; simp
  | cons c css ih =>
    intro k h
    have hc : c.length = sz := h c (by simp)
    cases k with
    | zero => simp
    | succ k =>
      rw [List.take_succ_cons, List.flatten_cons, List.flatten_cons, ih k (fun cs hcs => h cs (by simp [hcs])), List.take_append, List.take_of_length_le (l := c) (by rw [hc, Nat.succ_mul]; omega), hc, Nat.succ_mul, Nat.add_sub_cancel]
theorem drop_flat (sz : Nat) : ∀ (css : List (List Value)) (k : Nat), (∀ cs ∈ css, cs.length = sz) → (css.drop k).flatten = css.flatten.drop (k * sz) := by
  intro css
  induction css with
  | nil => intro k _; simp
  | cons c css ih =>
    intro k h
    have hc : c.length = sz := h c (by simp)
    cases k with
    | zero => simp
    | succ k =>
      rw [List.drop_succ_cons, List.flatten_cons, ih k (fun cs hcs => h cs (by simp [hcs])), List.drop_append, List.drop_of_length_le (l := c) (by rw [hc, Nat.succ_mul]; omega), List.nil_append, hc, Nat.succ_mul, Nat.add_sub_cancel]

/-- the row of an owned slice, and what it is behind an element's being taken out by a copy of the rest, and the length's being one less -/
theorem OwnSl.del {α : Type} {w : World} {E sz : Nat} {R : List Value → α → Prop} {B n cap : Nat} {l : List α} (h : OwnSl w E sz R (.slice (some ⟨B, 0, none⟩) n cap) l) (k : Nat) (hk : k < l.length)
    (h1 : ∀ cs x, R cs x → ∀ u ∈ cs, u.oneCell' = true) :
    ∃ cur : Array Value, w.heap[B]? = some (.cells cur E (0, 0)) ∧ cur.size = cap * sz ∧ l.length ≤ cap ∧
      ∃ cs : List Value, cs.length = (l.length - k - 1) * sz ∧ (∀ u ∈ cs, u.oneCell' = true) ∧ (∀ j v, cs[j]? = some v → w.cell? ⟨B, (k + 1) * sz + j, none⟩ = some v) ∧
        ∀ w' : World, w'.heap[B]? = some (.cells (cur.toList.take (k * sz) ++ cs ++ cur.toList.drop (k * sz + cs.length)).toArray E (0, 0)) →
          ∀ R' : List Value → α → Prop, (∀ cs x, R cs x → R' cs x) → OwnSl w' E sz R' (.slice (some ⟨B, 0, none⟩) (l.length - 1) cap) (l.eraseIdx k) := by
  obtain ⟨css, ho, ha⟩ := h
  obtain ⟨hl, h2⟩ := ho
  rcases h2 with ⟨e, _⟩ | ⟨g, cap', cur, e, _, hcur, hn, hmax, hsize, htake⟩
  · cases e
  injection e with e1 e2 e3
  injection e1 with e1
  injection e1 with e1
  subst e1; subst e3
  have hle : l.length * sz ≤ cap * sz := Nat.mul_le_mul_right _ hn
  have hcl : cur.toList.length = cap * sz := by simpa using hsize
  have hks : (k + 1) * sz ≤ l.length * sz := Nat.mul_le_mul_right _ hk
  have e5 : (k + 1) * sz = k * sz + sz := Nat.succ_mul _ _
  have e6 : (l.length - k - 1) * sz + (k + 1) * sz = l.length * sz := by rw [← Nat.add_mul]; congr 1; omega
  have e7 : (l.length - 1) * sz + sz = l.length * sz := by
    rw [← Nat.succ_mul]; congr 1; omega
  refine ⟨cur, hcur, hsize, hn, (cur.toList.drop ((k + 1) * sz)).take ((l.length - k - 1) * sz), ?_, ?_, ?_, ?_⟩
  · rw [List.length_take, List.length_drop, hcl]; omega
  · have hm : (cur.toList.drop ((k + 1) * sz)).take ((l.length - k - 1) * sz) = css.flatten.drop ((k + 1) * sz) := by
      rw [← htake, List.drop_take]; congr 1; omega
    rw [hm, ← drop_flat sz css (k + 1) ha.sz]
    intro u hu
    obtain ⟨c, hc, huc⟩ := List.mem_flatten.1 hu
    obtain ⟨i, hi, rfl⟩ := List.getElem_of_mem (List.mem_of_mem_drop hc)
    exact h1 _ _ (ha.rel i hi (by rw [← ha.len]; exact hi)) u huc
  · intro j v hj
    have hj2 := (List.getElem?_eq_some_iff.1 hj).1
    rw [List.length_take] at hj2
    rw [List.getElem?_take, if_pos (by omega), List.getElem?_drop] at hj
    simp only [World.cell?, hcur, Option.isSome_none, Bool.false_eq_true, if_false]
    rw [← Array.getElem?_toList]
    exact hj
  · intro w' hw' R' hR
    refine ⟨css.eraseIdx k, ⟨?_, .inr ⟨B, cap, _, ?_, Nat.zero_le _, hw', ?_, hmax, ?_, ?_⟩⟩, (ha.erase k).mono hR⟩
    · rw [flat_len sz _ (ha.erase k).sz, (ha.erase k).len]
    · rw [List.length_eraseIdx, if_pos hk]
    · rw [List.length_eraseIdx, if_pos hk]; omega
    · simp only [List.size_toArray, List.length_append, List.length_take, List.length_drop, hcl]
      omega
    · rw [List.length_eraseIdx, if_pos hk]
      simp only
      have ec : css.eraseIdx k = css.take k ++ css.drop (k + 1) := List.eraseIdx_eq_take_drop_succ _ _
      have hcs : (cur.toList.drop ((k + 1) * sz)).take ((l.length - k - 1) * sz) = css.flatten.drop ((k + 1) * sz) := by
        rw [← htake, List.drop_take]; congr 1; omega
      rw [ec, List.flatten_append, take_flat sz css k ha.sz, drop_flat sz css (k + 1) ha.sz, hcs]
      have h3 : css.flatten.take (k * sz) = cur.toList.take (k * sz) := by
        rw [← htake, List.take_take, Nat.min_eq_left (by omega)]
      rw [h3]
      have h4 : css.flatten.length = l.length * sz := by rw [flat_len sz css ha.sz, ha.len]
      rw [List.append_assoc, ← List.append_assoc]
      rw [List.take_append, List.take_of_length_le (by simp only [List.length_append, List.length_take, List.length_drop, hcl, h4]; omega)]
      simp only [List.length_append, List.length_take, List.length_drop, hcl, h4]
      rw [show (l.length - 1) * sz - (min (k * sz) (cap * sz) + (l.length * sz - (k + 1) * sz)) = 0 from by omega]
      simp
end Go.Proofs.Ytmbclhjhmghapaa
