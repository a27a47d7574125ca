/- legatelaw12: the laws' shared loop: acts done one by one; plain laws of the model. -/
import Derived.Test.YtmbclhjhmghapaaPoE
namespace Go.Proofs.Ytmbclhjhmghapaa
open Go.RowKit Go.Maps Go.WideMaps

def doAll (S : List Prin) (l : List PAct) : List Prin := l.foldl (fun S x => (doneF S x).1) S
theorem doAll_snoc (S : List Prin) {l : List PAct} {k : Nat} (h : k < l.length) : doAll S (l.take (k + 1)) = (doneF (doAll S (l.take k)) l[k]).1 := by
  unfold doAll
  rw [List.take_succ_eq_append_getElem h, List.foldl_append]
  rfl

/-! ### look-ups behind a turn -/
theorem kEq {s t : ByteArray} : (kOf s == kOf t) = true ↔ s = t := by
  rw [beq_iff_eq]
  exact ⟨kOf_inj, fun h => h ▸ rfl⟩
theorem kNe {s t : ByteArray} (h : s ≠ t) : (kOf s == kOf t) = false := by
  rw [Bool.eq_false_iff]
  exact fun e => h (kEq.1 e)
theorem find_map {S : List Prin} {s : ByteArray} {g : Prin → Prin} (hg : ∀ p, (g p).name = p.name) : findP (S.map g) s = (findP S s).map g := by
  unfold findP
  rw [List.find?_map]
  congr 1
  congr 1
  funext p
  simp [Function.comp, hg]
theorem find_name {S : List Prin} {s : ByteArray} {p : Prin} (h : findP S s = some p) : p.name = s := by
  have := List.find?_some h
  exact kEq.1 this
/-- a look-up behind an act on a principal -/
theorem find_with {S : List Prin} {s t : ByteArray} {f : Prin → Prin × Int} (hf : ∀ p, (f p).1.name = p.name) : findP (withF S s f).1 t = if t = s then (findP S s).map (fun p => (f p).1) else findP S t := by
  unfold withF
  cases h : findP S s with
  | none =>
    simp only [Option.map_none]
    by_cases e : t = s
    · rw [if_pos e, e, h]
    · rw [if_neg e]
  | some p =>
    have hp := find_name h
    have hg : ∀ q : Prin, (if kOf q.name == kOf s then (f p).1 else q).name = q.name := by
      intro q
      split
      · rename_i hk
        rw [hf, hp, kEq.1 hk]
      · rfl
    show findP (S.map fun q => if kOf q.name == kOf s then (f p).1 else q) t = _
    rw [find_map hg]
    by_cases e : t = s
    · subst e
      rw [if_pos rfl, h]
      simp [hp]
    · rw [if_neg e]
      cases h2 : findP S t with
      | none => rfl
      | some q =>
        have hq := find_name h2
        have hne : (kOf q.name == kOf s) = false := kNe (by rw [hq]; exact e)
        show some (if kOf q.name == kOf s then (f p).1 else q) = some q
        rw [hne]
        rfl
theorem with_code {S : List Prin} {s : ByteArray} {f : Prin → Prin × Int} : (withF S s f).2 = match findP S s with | some p => (f p).2 | none => 40 := by
  unfold withF
  cases findP S s <;> rfl
theorem getF_fst (S : List Prin) (s : ByteArray) : (getF S s).1 = (findP S s).getD zeroP := by
  unfold getF
  cases findP S s <;> rfl
theorem getF_snd (S : List Prin) (s : ByteArray) : (getF S s).2 = if (findP S s).isSome then 0 else 40 := by
  unfold getF
  cases findP S s <;> rfl
theorem keyF_eq (S : List Prin) (s : ByteArray) : keyF S s = match findP S s with | some p => (keyT s p.ver, 0) | none => (Tm.zero, 40) := rfl

/-! ### keys -/
theorem rekey_name (p : Prin) : (rekeyF p).1.name = p.name := by
  unfold rekeyF
  split <;> rfl
theorem keyF_congr {S S' : List Prin} {s : ByteArray} (h : findP S' s = findP S s) : keyF S' s = keyF S s := by rw [keyF_eq, keyF_eq, h]
structure KeysSame (S S' : List Prin) (a b : ByteArray) : Prop where
  ka : keyF S' a = keyF S a
  kb : keyF S' b = keyF S b
structure KeysNew (S S' : List Prin) (a b : ByteArray) (n : Int) : Prop where
  ka : (keyF S a).1 = keyT a n
  ka' : (keyF S' a).1 = keyT a (n + 1)
  code : (keyF S' b).2 = (keyF S b).2
  kb : a ≠ b → (keyF S' b).1 = (keyF S b).1
theorem keys_law (S : List Prin) (a b : ByteArray) : ((keyF S a).2 = 40 ∧ (withF S a rekeyF).2 = 40 ∧ KeysSame S (withF S a rekeyF).1 a b) ∨ ((keyF S a).2 = 0 ∧ (withF S a rekeyF).2 = 53 ∧ KeysSame S (withF S a rekeyF).1 a b) ∨
    ((keyF S a).2 = 0 ∧ (withF S a rekeyF).2 = 0 ∧ ∃ n, n < 1000 ∧ KeysNew S (withF S a rekeyF).1 a b n) := by
  have fa := find_with (S := S) (s := a) (t := a) (f := rekeyF) rekey_name
  have fb := find_with (S := S) (s := a) (t := b) (f := rekeyF) rekey_name
  rw [if_pos rfl] at fa
  cases h : findP S a with
  | none =>
    left
    rw [withF_none h]
    exact ⟨by rw [keyF_none h], rfl, ⟨rfl, rfl⟩⟩
  | some p =>
    rw [h] at fa fb
    have hc : (withF S a rekeyF).2 = (rekeyF p).2 := by rw [with_code, h]
    have hk : keyF S a = (keyT a p.ver, 0) := keyF_some h
    have hb : keyF (withF S a rekeyF).1 a = (keyT a (rekeyF p).1.ver, 0) := keyF_some fa
    by_cases hv : 1000 ≤ p.ver
    · right; left
      have hr : rekeyF p = (p, 53) := by rw [rekeyF, if_pos hv]
      rw [hr] at hc hb
      refine ⟨by rw [hk], hc, ⟨by rw [hb, hk], keyF_congr ?_⟩⟩
      by_cases e : b = a
      · rw [fb, if_pos e, e, h]
        simp [hr]
      · rw [fb, if_neg e]
    · right; right
      have hr : rekeyF p = ({ p with ver := p.ver + 1 }, 0) := by rw [rekeyF, if_neg hv]
      rw [hr] at hc hb
      refine ⟨by rw [hk], hc, p.ver, by omega, ⟨by rw [hk], by rw [hb], ?_, ?_⟩⟩
      · by_cases e : b = a
        · rw [e, hb, hk]
        · have := keyF_congr (S := S) (S' := (withF S a rekeyF).1) (s := b) (by rw [fb, if_neg e])
          rw [this]
      · intro e
        have := keyF_congr (S := S) (S' := (withF S a rekeyF).1) (s := b) (by rw [fb, if_neg (Ne.symm e)])
        rw [this]
/-- a key as it is told is a term -/
structure Flat (t : Tm) : Prop where
  k : InI t.k
  n : InI t.n
  s : InS t.s
  l : t.l = []
theorem Flat.rep {t : Tm} (h : Flat t) (I : Nat → Prop) (w : World) : Rep I w [.int .i64 t.k, .string t.s, .int .i64 t.n, .slice none 0 0] t := by
  obtain ⟨h1, h2, h3, h4⟩ := h
  cases t with
  | mk k s n l =>
    simp only [Tm.l] at h4
    subst h4
    exact Rep.of h1 h2 h3 (RSl.nil _ _ _ _)
theorem keyF_flat {S : List Prin} {s : ByteArray} (hs : InS s) (hS : ∀ p ∈ S, OkP p) : Flat (keyF S s).1 := by
  cases h : findP S s with
  | none =>
    rw [keyF_none h]
    exact ⟨by constructor <;> decide, by constructor <;> decide, by show _ ≤ _; decide, rfl⟩
  | some p =>
    rw [keyF_some h]
    have ho := hS p (List.mem_of_find?_eq_some h)
    have v1 := ho.v1
    have v2 := ho.v2
    exact ⟨(show InI 2 from by constructor <;> decide), (show InI p.ver from ⟨by omega, by omega⟩), hs, rfl⟩

section
variable {R : List Asn} {I0 F0 : Nat → Prop} {w0 w : World} {sb : Nat} {S : List Prin}
/-- Key, its answer by name -/
theorem pkey_is (h : Sta (storeA sb S :: R) I0 F0 w0 w) (s : ByteArray) (hs : InS s) {t : Tm} {c : Int} (e : keyF S s = (t, c)) : Calls Try.prog 33 #[PtrTo sb, .string s] w fun e w' => e = .returned (.tuple #[.agg #[.int .i64 t.k, .string t.s, .int .i64 t.n, .slice none 0 0], .int .i64 c]) ∧ Below w.heap.size w w' := by
  have := pkey_any h s hs
  rw [e] at this
  exact this
theorem rsame_flat (w : World) {t u : Tm} (h : t = u) (ht : Flat t) : Calls Try.prog 35 #[.agg #[.int .i64 t.k, .string t.s, .int .i64 t.n, .slice none 0 0], .agg #[.int .i64 u.k, .string u.s, .int .i64 u.n, .slice none 0 0]] w fun e w' => e = .returned (.bool true) ∧ Below w.heap.size w w' := by
  subst h
  have h := rsame_any t t (fun _ => False) w _ _ (fun _ h => h.elim) (ht.rep _ _) (ht.rep _ _)
  rw [(sameB_iff t t).2 rfl] at h
  exact h
/-- all that the laws begin with: what came, laid to nothing owned -/
theorem acts_start {W w2 : World} {v : Value} {l : List PAct} (h : RPActs (There W) W v l) (D : Below W.heap.size W w2) : Sta [actsA v l] (There W) FNone W w2 :=
  ((Sta.start W).go D).topers fun I hI hs => RSl.frame h (fun b hb => D.block b hb) hs fun _ _ r => r.frame (fun b hb => D.block b hb) hs
end

end Go.Proofs.Ytmbclhjhmghapaa
