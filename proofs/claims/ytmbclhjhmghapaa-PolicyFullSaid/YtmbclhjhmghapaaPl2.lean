/- slices.Clone at strings, at numbers: of what may be read: an owned slice. -/
import Derived.Test.YtmbclhjhmghapaaPl1
namespace Go.Proofs.Ytmbclhjhmghapaa
open Go.RowKit

theorem ownsRow_zero {w : World} {base : Nat} {E sz : Nat} {v : Value} {n : Nat} {xs : List Value} (h : w.ownsRow base E sz v n xs) : w.ownsRow 0 E sz v n xs ∧ ∀ k, v.ownBlock = some k → base ≤ k := by
  obtain ⟨h1, h2⟩ := h
  rcases h2 with ⟨rfl, h2⟩ | ⟨g, cap, cur, rfl, hg, r⟩
  · exact ⟨⟨h1, .inl ⟨rfl, h2⟩⟩, fun k hk => by simp [Value.ownBlock] at hk⟩
  · refine ⟨⟨h1, .inr ⟨g, cap, cur, rfl, Nat.zero_le _, r⟩⟩, fun k hk => ?_⟩
    simp [Value.ownBlock] at hk
    omega
theorem flat_one {α : Type} (f : α → Value) (l : List α) : (l.map fun x => [f x]).flatten = l.map f := by
  induction l with
  | nil => rfl
  | cons x l ih => simp [ih]
theorem own_one {α : Type} {w : World} {base E : Nat} {v : Value} {l : List α} {f : α → Value} {R : List Value → α → Prop} (h : w.ownsRow base E 1 v l.length (l.map f)) (hR : ∀ x ∈ l, R [f x] x) :
    OwnSl w E 1 R v l ∧ ∀ k, v.ownBlock = some k → base ≤ k := by
  obtain ⟨h1, h2⟩ := ownsRow_zero h
  refine ⟨⟨l.map fun x => [f x], by rw [flat_one]; exact h1, by simp, ?_, ?_⟩, h2⟩
  · intro cs hcs
    obtain ⟨x, _, rfl⟩ := List.mem_map.1 hcs
    rfl
  · intro i h1 h2
    simp only [List.getElem_map]
    exact hR _ (List.getElem_mem h2)

def ClonePost {α : Type} (w : World) (E : Nat) (R : List Value → α → Prop) (l : List α) (e : Ending) (w' : World) : Prop :=
  ∃ v', e = .returned v' ∧ OwnSl w' E 1 R v' l ∧ (∀ k, v'.ownBlock = some k → w.heap.size ≤ k) ∧ Below w.heap.size w w'

theorem clone_strs {I : Nat → Prop} {w : World} {v : Value} {l : List ByteArray} (h : RStrs I w v l) (hl : l.length ≤ 4398046511104) :
    Calls Try.prog 66 #[v] w (ClonePost w 9 isStr l) := by
  obtain ⟨a, cap, f, rfl, hs, hr⟩ := id h
  have hin : ∀ x ∈ l, isStr [.string x] x := by
    intro x hx
    obtain ⟨i, hi, rfl⟩ := List.getElem_of_mem hx
    exact ⟨rfl, (hr i hi).2⟩
  cases a with
  | none =>
    have h0 := hs.nil rfl
    have h1 := hs.le
    have e := List.eq_nil_of_length_eq_zero (l := l) (by omega)
    subst e
    refine (Try.slices_Clone_string_nil _ cap w).mono ?_
    rintro e w' ⟨rfl, rfl⟩
    exact ⟨_, rfl, OwnSl.nil _ _ _ _, fun k hk => by simp [Value.ownBlock] at hk, .refl _ _⟩
  | some p =>
    rcases Nat.eq_zero_or_pos l.length with h0 | h0
    · have e := List.eq_nil_of_length_eq_zero h0
      subst e
      refine (Try.slices_Clone_string_zero p cap w).mono ?_
      rintro e w' ⟨v', rfl, ho, _, hb⟩
      obtain ⟨h1, h2⟩ := own_one (l := ([] : List ByteArray)) (f := Value.string) (R := isStr) ho (by simp)
      exact ⟨_, rfl, h1, h2, hb⟩
    · obtain ⟨b, o, e, _, hc⟩ := h.pos h0
      injection e with e
      subst e
      have := Try.slices_Clone_string b o l.length cap l w (Nat.le_refl _) (by omega) hc
      rw [List.take_length] at this
      refine this.mono ?_
      rintro e w' ⟨v', rfl, ho, _, hb⟩
      obtain ⟨h1, h2⟩ := own_one (f := Value.string) (R := isStr) ho hin
      exact ⟨_, rfl, h1, h2, hb⟩

theorem RInts.pos {I : Nat → Prop} {w : World} {a : Option Addr} {n cap : Nat} {l : List Int} (h : RInts I w (.slice a n cap) l) (hl : 0 < l.length) :
    ∃ b o, a = some ⟨b, o, none⟩ ∧ I b ∧ ∀ j, j < l.length → w.cell? ⟨b, o + j, none⟩ = some (.int .i64 (l.getD j 0)) := by
  obtain ⟨a', cap', f, e, hs, hr⟩ := h
  injection e with e1 e2 e3
  subst e1; subst e2; subst e3
  obtain ⟨b, o, rfl, hb⟩ := hs.pos hl
  refine ⟨b, o, rfl, hb, fun j hj => ?_⟩
  have h1 := (hr j hj).1
  have h2 := hs.cells hj 0 (.int .i64 l[j]) (by rw [h1]; rfl)
  simpa [List.getD, List.getElem?_eq_getElem hj] using h2
theorem clone_ints {I : Nat → Prop} {w : World} {v : Value} {l : List Int} (h : RInts I w v l) (hl : l.length ≤ 4398046511104) :
    Calls Try.prog 67 #[v] w (ClonePost w 3 isInt l) := by
  obtain ⟨a, cap, f, rfl, hs, hr⟩ := id h
  have hin : ∀ x ∈ l, isInt [.int .i64 x] x := by
    intro x hx
    obtain ⟨i, hi, rfl⟩ := List.getElem_of_mem hx
    exact ⟨rfl, (hr i hi).2⟩
  cases a with
  | none =>
    have h0 := hs.nil rfl
    have h1 := hs.le
    have e := List.eq_nil_of_length_eq_zero (l := l) (by omega)
    subst e
    refine (Try.slices_Clone_int_nil _ cap w).mono ?_
    rintro e w' ⟨rfl, rfl⟩
    exact ⟨_, rfl, OwnSl.nil _ _ _ _, fun k hk => by simp [Value.ownBlock] at hk, .refl _ _⟩
  | some p =>
    rcases Nat.eq_zero_or_pos l.length with h0 | h0
    · have e := List.eq_nil_of_length_eq_zero h0
      subst e
      refine (Try.slices_Clone_int_zero p cap w).mono ?_
      rintro e w' ⟨v', rfl, ho, _, hb⟩
      obtain ⟨h1, h2⟩ := own_one (l := ([] : List Int)) (f := Value.int .i64) (R := isInt) ho (by simp)
      exact ⟨_, rfl, h1, h2, hb⟩
    · obtain ⟨b, o, e, _, hc⟩ := h.pos h0
      injection e with e
      subst e
      have := Try.slices_Clone_int b o l.length cap l w (Nat.le_refl _) (by omega) hc
      rw [List.take_length] at this
      refine this.mono ?_
      rintro e w' ⟨v', rfl, ho, _, hb⟩
      obtain ⟨h1, h2⟩ := own_one (f := Value.int .i64) (R := isInt) ho hin
      exact ⟨_, rfl, h1, h2, hb⟩
end Go.Proofs.Ytmbclhjhmghapaa
