/- Package slices at strings, by the shelf's contracts: over slices that are read alone, and over owned ones. -/
import Derived.Test.YtmbclhjhmghapaaShelf
import Derived.Test.YtmbclhjhmghapaaSep
namespace Go.Proofs.Ytmbclhjhmghapaa
open Go.RowKit

theorem RStrs.form {I : Nat → Prop} {w : World} {v : Value} {l : List ByteArray} (h : RStrs I w v l) : ∃ a cap, v = .slice a l.length cap ∧ l.length ≤ 17592186044416 := by
  obtain ⟨a, cap, f, e, hs, hr⟩ := h
  exact ⟨a, cap, e, hs.max⟩
theorem RStrs.pos {I : Nat → Prop} {w : World} {a : Option Addr} {n cap : Nat} {l : List ByteArray} (h : RStrs I w (.slice a n cap) l) (hl : 0 < l.length) :
    ∃ b o, a = some ⟨b, o, none⟩ ∧ I b ∧ ∀ j, j < l.length → w.cell? ⟨b, o + j, none⟩ = some (.string (l.getD j ByteArray.empty)) := by
  obtain ⟨a', cap', f, e, hs, hr⟩ := h
  injection e with e1 e2 e3
  subst e1; subst e2; subst e3
  obtain ⟨b, o, rfl, hb⟩ := hs.pos hl
  refine ⟨b, o, rfl, hb, fun j hj => ?_⟩
  have h1 := (hr j hj).1
  have h2 := hs.cells hj 0 (.string l[j]) (by rw [h1]; rfl)
  simpa [List.getD, List.getElem?_eq_getElem hj] using h2

theorem index_strs {I : Nat → Prop} {w : World} {v : Value} {l : List ByteArray} (h : RStrs I w v l) (x : ByteArray) :
    Calls Try.prog 71 #[v, .string x] w fun e w' => e = .returned (.int .i64 (Lib.idxOfS l x)) ∧ w' = w := by
  obtain ⟨a, cap, rfl, hl⟩ := h.form
  rcases Nat.eq_zero_or_pos l.length with h0 | h0
  · have e := List.eq_nil_of_length_eq_zero h0
    subst e
    exact Try.slices_Index_string_empty a cap x w
  · obtain ⟨b, o, rfl, _, hc⟩ := h.pos h0
    have := Try.slices_Index_string b o l.length cap l x w (Nat.le_refl _) (by omega) hc
    rwa [List.take_length] at this
theorem contains_strs {I : Nat → Prop} {w : World} {v : Value} {l : List ByteArray} (h : RStrs I w v l) (x : ByteArray) :
    Calls Try.prog 48 #[v, .string x] w fun e w' => e = .returned (.bool (Lib.containsS l x)) ∧ w' = w := by
  obtain ⟨a, cap, rfl, hl⟩ := h.form
  rcases Nat.eq_zero_or_pos l.length with h0 | h0
  · have e := List.eq_nil_of_length_eq_zero h0
    subst e
    exact Try.slices_Contains_string_empty a cap x w
  · obtain ⟨b, o, rfl, _, hc⟩ := h.pos h0
    have := Try.slices_Contains_string b o l.length cap l x w (Nat.le_refl _) (by omega) hc
    rwa [List.take_length] at this

/-- an owned row of strings is one that may be read -/
theorem OwnSl.strs {w : World} {v : Value} {l : List ByteArray} (h : OwnSl w 9 1 isStr v l) (hm : l.length ≤ 17592186044416) : RStrs (FOwn v) w v l := by
  rcases h.form with ⟨rfl, rfl⟩ | ⟨g, cap, rfl, hg, hcap⟩
  · exact RSl.nil _ _ _ _
  · refine ⟨some ⟨g, 0, none⟩, cap, fun i => [.string (l.getD i ByteArray.empty)], rfl, ⟨hcap, hm, fun h => (by cases h), fun p hp _ => ?_, fun _ _ => rfl, fun p hp i hi => ?_⟩, fun i hi => ?_⟩
    · injection hp with hp
      subst hp
      exact ⟨rfl, rfl⟩
    · injection hp with hp
      subst hp
      obtain ⟨cs, h1, h2, h3⟩ := h.at i hi
      intro j u hj
      rw [h2.1] at h3
      have hj0 : j = 0 := by
        have := (List.getElem?_eq_some_iff.1 hj).1
        simpa using this
      subst hj0
      have := h3 0 u (by simpa [List.getD, List.getElem?_eq_getElem hi] using hj)
      simpa using this
    · obtain ⟨cs, h1, h2, h3⟩ := h.at i hi
      refine ⟨?_, h2.2⟩
      simp [List.getD, List.getElem?_eq_getElem hi]
theorem OwnSl.ints {w : World} {v : Value} {l : List Int} (h : OwnSl w 3 1 isInt v l) (hm : l.length ≤ 17592186044416) : RInts (FOwn v) w v l := by
  rcases h.form with ⟨rfl, rfl⟩ | ⟨g, cap, rfl, hg, hcap⟩
  · exact RSl.nil _ _ _ _
  · refine ⟨some ⟨g, 0, none⟩, cap, fun i => [.int .i64 (l.getD i 0)], rfl, ⟨hcap, hm, fun h => (by cases h), fun p hp _ => ?_, fun _ _ => rfl, fun p hp i hi => ?_⟩, fun i hi => ?_⟩
    · injection hp with hp
      subst hp
      exact ⟨rfl, rfl⟩
    · injection hp with hp
      subst hp
      obtain ⟨cs, h1, h2, h3⟩ := h.at i hi
      intro j u hj
      rw [h2.1] at h3
      have hj0 : j = 0 := by
        have := (List.getElem?_eq_some_iff.1 hj).1
        simpa using this
      subst hj0
      have := h3 0 u (by simpa [List.getD, List.getElem?_eq_getElem hi] using hj)
      simpa using this
    · obtain ⟨cs, h1, h2, h3⟩ := h.at i hi
      refine ⟨?_, h2.2⟩
      simp [List.getD, List.getElem?_eq_getElem hi]
end Go.Proofs.Ytmbclhjhmghapaa
