/- Package policy: set. -/
import Derived.Test.YtmbclhjhmghapaaPo6
import Derived.Test.YtmbclhjhmghapaaApp
namespace Go.Proofs.Ytmbclhjhmghapaa
open Go.RowKit Go.Maps Go.WideMaps

theorem idx_hit {l : List ByteArray} {x : ByteArray} (h : x ∈ l) : ∃ i : Nat, i < l.length ∧ Lib.idxOfS l x = i ∧ l[i]? = some x ∧ ∀ j, j < i → l[j]? ≠ some x := by
  have gen : ∀ (l : List ByteArray) (k : Nat), x ∈ l → ∃ i : Nat, i < l.length ∧ Lib.idxFromS l x k = ((k + i : Nat) : Int) ∧ l[i]? = some x ∧ ∀ j, j < i → l[j]? ≠ some x := by
    intro l
    induction l with
    | nil => intro k h; cases h
    | cons z l ih =>
      intro k h
      by_cases hz : z = x
      · exact ⟨0, by simp, by simp [Lib.idxFromS, hz], by simp [hz], fun j hj => absurd hj (Nat.not_lt_zero _)⟩
      · obtain ⟨i, h1, h2, h3, h4⟩ := ih (k + 1) (by rcases List.mem_cons.1 h with h | h; exact absurd h.symm hz; exact h)
        refine ⟨i + 1, by simp; omega, by rw [Lib.idxFromS, if_neg hz, h2]; congr 1; omega, by simpa using h3, fun j hj => ?_⟩
        cases j with
        | zero => simpa using hz
        | succ j => simpa using h4 j (by omega)
  obtain ⟨i, h1, h2, h3, h4⟩ := gen l 0 h
  exact ⟨i, h1, by rw [Lib.idxOfS, h2]; congr 1; omega, h3, h4⟩
theorem idx_miss {l : List ByteArray} {x : ByteArray} (h : x ∉ l) : Lib.idxOfS l x = -1 :=
  Lib.idxFromS_miss x l 0 fun j hj e => h (by
    rw [List.getD_eq_getElem?_getD, List.getElem?_eq_getElem hj] at e
    exact e ▸ List.getElem_mem hj)

/-- a name in a list, or not -/
def setF (l : List ByteArray) (x : ByteArray) (on : Bool) : List ByteArray × Int :=
  if on then (if Lib.containsS l x then (l, 0) else if 50 ≤ l.length then (l, 53) else (l ++ [x], 0)) else (if Lib.containsS l x then (l.eraseIdx (Lib.idxOfS l x).toNat, 0) else (l, 0))

theorem delete_own {w : World} {v : Value} {l : List ByteArray} (h : OwnSl w 9 1 isStr v l) (i : Nat) (hi : i < l.length) :
    Calls Try.prog 84 #[v, .int .i64 i, .int .i64 ((i : Int) + 1)] w fun e w' => ∃ v', e = .returned v' ∧ OwnSl w' 9 1 isStr v' (l.eraseIdx i) ∧ Only (FOwn v) w w' ∧ ∀ k, v'.ownBlock = some k → v.ownBlock = some k := by
  obtain ⟨css, ⟨hl, ho⟩, ha⟩ := h
  rcases ho with ⟨_, h0⟩ | ⟨g, cap, cur, rfl, _, hg, hcap, hmax, hsz, htake⟩
  · omega
  have hcss : css.length = l.length := ha.len
  have hval : ∀ j (hj : j < l.length), css.flatten[j]? = some (.string l[j]) := by
    intro j hj
    have h1 : css[j]'(by omega) = [.string l[j]] := (ha.rel j (by omega) hj).1
    have := flat_get 1 css j 0 ha.sz (by omega)
    rw [Nat.mul_one, Nat.add_zero] at this
    rw [this, List.getElem?_eq_getElem (by omega), h1]
    rfl
  have hin : ∀ j (hj : j < l.length), InS l[j] := fun j hj => (ha.rel j (by omega) hj).2
  have hcell : ∀ j, j < l.length → w.cell? ⟨g, 0 + j, none⟩ = some (.string (l.getD j ByteArray.empty)) := by
    intro j hj
    have h1 := hval j hj
    rw [← htake, List.getElem?_take, if_pos (by omega)] at h1
    simp only [World.cell?, hg, Option.isSome_none, Bool.false_eq_true, if_false, Nat.zero_add]
    rw [← Array.getElem?_toList, h1, List.getD_eq_getElem?_getD, List.getElem?_eq_getElem hj]
    rfl
  have := Try.slices_Delete_string_cells g 0 l.length cap i (i + 1) (fun j => l.getD j ByteArray.empty) w hcap (Nat.le_trans hmax (by decide)) (Nat.le_succ _) hi hcell (fun j hj => by simp [World.frozen?, hg])
  rw [show ((i + 1 : Nat) : Int) = (i : Int) + 1 from by omega] at this
  refine this.mono ?_
  rintro e w' ⟨rfl, q, rfl⟩
  refine ⟨_, rfl, ?_, Only.setCells (F := FOwn (.slice (some ⟨g, 0, none⟩) l.length cap)) g (.inl rfl) _ _ _ ((Only.refl _ _).drewN q), fun k hk => hk⟩
  have hstr : Lib.strsOf (fun j => l.getD j ByteArray.empty) l.length = l.map kOf := by
    unfold Lib.strsOf
    apply List.ext_getElem
    · simp
    · intro j h1 h2
      simp only [List.length_map] at h2
      simp [kOf, List.getElem?_eq_getElem h2]
  have hfl : ∀ l : List ByteArray, (l.map kOf).map encStr = l.map Value.string := by
    intro l
    rw [List.map_map]
    refine List.map_congr_left fun x _ => ?_
    show Value.string ⟨x.data.toList.toArray⟩ = Value.string x
    simp
  rw [hstr]
  have hvs : (((l.map kOf).take i ++ (l.map kOf).drop (i + 1) ++ List.replicate (i + 1 - i) []).map encStr).length = l.length := by
    simp; omega
  have hheap := heap_setCells g 9 (((l.map kOf).take i ++ (l.map kOf).drop (i + 1) ++ List.replicate (i + 1 - i) []).map encStr) 0 (w.drewN q) cur hg (by rw [hvs, hsz]; omega)
  have her : (l.eraseIdx i).length = l.length - 1 := by rw [List.length_eraseIdx, if_pos hi]
  refine ⟨(l.eraseIdx i).map fun x => [.string x], ⟨?_, .inr ⟨g, cap, _, ?_, Nat.zero_le _, hheap, ?_, hmax, ?_, ?_⟩⟩, ⟨by simp, ?_, ?_⟩⟩
  · rw [flat_one]; simp
  · rw [her, show i + 1 - i = 1 from by omega]
  · rw [her]; omega
  · simp only [List.size_toArray, List.length_append, List.take_zero, List.nil_append, List.length_drop, Array.length_toList, Nat.zero_add, hvs]
    rw [hsz]; omega
  · simp only [List.take_zero, List.nil_append]
    rw [flat_one, her, Nat.mul_one]
    rw [List.take_append_of_le_length (by rw [hvs]; omega)]
    rw [List.map_append, List.map_append, ← List.map_take, ← List.map_drop, hfl, hfl]
    rw [List.take_append_of_le_length (by simp; omega), List.take_of_length_le (by simp; omega)]
    rw [List.eraseIdx_eq_take_drop_succ, List.map_append]
  · intro cs hcs
    obtain ⟨x, _, rfl⟩ := List.mem_map.1 hcs
    rfl
  · intro j h1 h2
    simp only [List.getElem_map]
    refine ⟨rfl, ?_⟩
    have := List.getElem_mem h2
    obtain ⟨m, hm, e⟩ := List.getElem_of_mem (List.mem_of_mem_eraseIdx this)
    rw [← e]
    exact hin m hm

section
variable {R : List Asn} {I0 F0 : Nat → Prop} {w0 w : World}

theorem index_hit {v : Value} {l : List ByteArray} {x : ByteArray} {i : Nat} (h : Sta (strA v l :: R) I0 F0 w0 w) (hl : l.length ≤ 50) (e : Lib.idxOfS l x = i) : Calls Try.prog 71 #[v, .string x] w fun e w' => e = .returned (.int .i64 (i : Int)) ∧ w = w' := by
  refine (index_strs (h.strs (by omega)) x).mono ?_
  rintro _ _ ⟨rfl, rfl⟩
  exact ⟨by rw [e], rfl⟩
theorem index_miss {v : Value} {l : List ByteArray} {x : ByteArray} (h : Sta (strA v l :: R) I0 F0 w0 w) (hl : l.length ≤ 50) (e : Lib.idxOfS l x = -1) : Calls Try.prog 71 #[v, .string x] w fun e w' => e = .returned (.int .i64 (-1)) ∧ w = w' := by
  refine (index_strs (h.strs (by omega)) x).mono ?_
  rintro _ _ ⟨rfl, rfl⟩
  exact ⟨by rw [e], rfl⟩

theorem Sta.ownS {v : Value} {l : List ByteArray} (h : Sta (strA v l :: R) I0 F0 w0 w) : OwnSl w 9 1 isStr v l := by
  obtain ⟨I, _, _, h1⟩ := Sta.ownOf h
  exact h1

def SetPost (R : List Asn) (I0 F0 : Nat → Prop) (w0 : World) (b : Nat) (cs : List Value) (T j : Nat) (l : List ByteArray) (x : ByteArray) (on : Bool) (e : Ending) (w' : World) : Prop :=
  ∃ v', e = .returned (.int .i64 (setF l x on).2) ∧ Sta (.blk b (cs.set j v') T :: strA v' (setF l x on).1 :: R) I0 F0 w0 w'

theorem infoS : (Try.prog.info? 9).map (fun i => (i.zero, i.size, i.bytes)) = some (some (.string ⟨#[]⟩), 1, 16) := by kernel_rfl

theorem set_same {α : Type} {cs : List α} {j : Nat} {v : α} (hj : cs[j]? = some v) : cs.set j v = cs := by
  apply List.ext_getElem?
  intro i
  rw [List.getElem?_set]
  split
  · rename_i e; subst e
    have := (List.getElem?_eq_some_iff.1 hj).1
    rw [if_pos this, hj]
  · rfl

set_option maxHeartbeats 2000000 in
set_option maxRecDepth 100000 in
theorem set_any {b j T : Nat} {cs : List Value} {v : Value} {l : List ByteArray} (h : Sta (.blk b cs T :: strA v l :: R) I0 F0 w0 w) (hj : cs[j]? = some v) (hl : l.length ≤ 50) (x : ByteArray) (hx : InS x) (on : Bool) :
    Calls Try.prog 74 #[.pointer (some ⟨b, j, none⟩), .string x, .bool on] w (SetPost R I0 F0 w0 b cs T j l x on) := by
  have H := Lib.hid h
  have c0 := h.cell j v hj
  have f0 := h.frozen j
  have HJ := Lib.hid hj
  obtain ⟨ad, cp, rfl⟩ : ∃ a c, v = .slice a l.length c := by
    obtain ⟨I, _, _, h1⟩ := h.f1.ownOf
    exact h1.shape
  clear h hj
  cases hc : Lib.containsS l x with
  | true =>
    obtain ⟨i, hi, hidx, hget, _⟩ := idx_hit ((Lib.containsS_iff l x).1 hc)
    have HI := Lib.hid hidx
    cases on with
    | true =>
      have E : Hid (setF l x true = (l, 0)) := by show _ = _; simp [setF, hc]
      have d1 : decide ((i : Int) < 0) = false := by simp
      clear hidx hget hc
      go_enter Try.func74, Try.ntmps74
      go_wp2_with fail
      refine (index_hit H.out.f1 hl HI.out).mono ?_
      rintro e w1 ⟨rfl, rfl⟩
      go_wp2_with fail
      go_ret
      rw [SetPost, E.out]
      exact ⟨_, rfl, by rw [set_same HJ.out]; exact H.out⟩
    | false =>
      have E : Hid (setF l x false = (l.eraseIdx i, 0)) := by show _ = _; simp [setF, hc, hidx]
      have d1 : (0 : Int) ≤ (i : Int) := by omega
      have k1 : IntKind.i64.wrap ((i : Int) + 1) = (i : Int) + 1 := IntWalk.i64_in _ (by omega)
      have HL := Lib.hid hi
      clear hidx hget hc
      go_enter Try.func74, Try.ntmps74
      go_wp2_with fail
      refine (index_hit H.out.f1 hl HI.out).mono ?_
      rintro e w1 ⟨rfl, rfl⟩
      go_wp2_with fail
      refine (delete_own (Sta.ownS H.out.f1) i HL.out).mono ?_
      rintro e w1 ⟨v1, rfl, ho, hon, hat⟩
      obtain ⟨a1, y1, rfl⟩ := ho.shape
      have G := Lib.hid (Sta.f1 (Sta.ownTurn (v' := .slice a1 (l.eraseIdx i).length y1) (l' := l.eraseIdx i) H.out.f1 hon (fun k hk => .inl (hat k hk)) (fun _ _ _ _ => ho)))
      clear ho hon hat H c0 f0 k1 d1
      have c0 := G.out.cell j _ HJ.out
      have f0 := G.out.frozen j
      generalize (l.eraseIdx i).length = n1 at *
      go_wp2_with fail
      go_ret
      rw [SetPost, E.out]
      exact ⟨_, rfl, G.out.set j _⟩
  | false =>
    have hm : x ∉ l := fun hm => by rw [(Lib.containsS_iff l x).2 hm] at hc; cases hc
    have HI := Lib.hid (idx_miss hm)
    clear hm
    cases on with
    | true =>
      by_cases h50 : 50 ≤ l.length
      · have E : Hid (setF l x true = (l, 53)) := by show _ = _; simp [setF, hc, h50]
        have e50 : l.length = 50 := by omega
        have E50 := Lib.hid e50
        clear hc e50
        go_enter Try.func74, Try.ntmps74
        go_wp2_with fail
        refine (index_miss H.out.f1 hl HI.out).mono ?_
        rintro e w1 ⟨rfl, rfl⟩
        go_wp2_with fail
        go_ret
        rw [SetPost, E.out]
        exact ⟨_, rfl, by rw [set_same HJ.out]; exact H.out⟩
      · have E : Hid (setF l x true = (l ++ [x], 0)) := by show _ = _; simp [setF, hc, h50]
        have d50 : decide (50 ≤ l.length) = false := by simp; omega
        clear hc
        go_enter Try.func74, Try.ntmps74
        go_wp2_with fail
        refine (index_miss H.out.f1 hl HI.out).mono ?_
        rintro e w1 ⟨rfl, rfl⟩
        have H1 := Lib.hid (H.out.f1.alloc (.cells #[.string x] 9))
        have O1 := Lib.hid (Sta.ownS H1.out)
        go_wp2_with (at_builtin; refine wp_append_one (R := isStr) (v := .slice ad l.length cp) (l := l) rfl _ _ 46 rfl 9 infoS Try.underlying46 rfl (by decide) rfl O1.out ⟨w.heap.size, 0, none⟩ 1 [.string x] x rfl rfl (cell_one_new _ _ _) (by intro u hu; rw [List.mem_singleton.1 hu]; rfl) ⟨rfl, hx⟩ (by unfold maxLen; omega) (by omega) ?_; intro v1 w1 ho hon hat; obtain ⟨a1, y1, rfl⟩ := ho.shape; have G := Lib.hid (Sta.f1 (Sta.ownTurn (v' := .slice a1 (l ++ [x]).length y1) (l' := l ++ [x]) H1.out hon hat (fun _ _ _ _ => ho))); clear ho hon hat H H1 O1 c0 f0; have c0 := G.out.cell j _ HJ.out; have f0 := G.out.frozen j; generalize (l ++ [x]).length = n1 at *)
        go_ret
        rw [SetPost, E.out]
        exact ⟨_, rfl, G.out.set j _⟩
    | false =>
      have E : Hid (setF l x false = (l, 0)) := by show _ = _; simp [setF, hc]
      clear hc
      go_enter Try.func74, Try.ntmps74
      go_wp2_with fail
      refine (index_miss H.out.f1 hl HI.out).mono ?_
      rintro e w1 ⟨rfl, rfl⟩
      go_wp2_with fail
      go_ret
      rw [SetPost, E.out]
      exact ⟨_, rfl, by rw [set_same HJ.out]; exact H.out⟩
end
end Go.Proofs.Ytmbclhjhmghapaa
