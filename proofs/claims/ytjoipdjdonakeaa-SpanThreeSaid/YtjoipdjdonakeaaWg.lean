/- What the functions of package span come to, as statements of their own; and the plain facts on these answers. -/
import Derived.Test.YtjoipdjdonakeaaWe
namespace Go.Proofs.Ytjoipdjdonakeaa
open Go.RowKit

def BothIs (a b c d x y z : Int) : Prop := ∀ w, Calls Try.prog 12 #[.agg #[.int .i64 a, .int .i64 b], .agg #[.int .i64 c, .int .i64 d]] w fun e w' => e = .returned (.tuple #[.agg #[.int .i64 x, .int .i64 y], .int .i64 z]) ∧ Below w.heap.size w w'
def CutIs (a b n x y z : Int) : Prop := ∀ w, Calls Try.prog 14 #[.agg #[.int .i64 a, .int .i64 b], .int .i64 n] w fun e w' => e = .returned (.tuple #[.agg #[.int .i64 x, .int .i64 y], .int .i64 z]) ∧ Below w.heap.size w w'
def CheckIs (a b n k z : Int) : Prop := ∀ w, Calls Try.prog 13 #[.agg #[.int .i64 a, .int .i64 b], .int .i64 n, .int .i64 k] w fun e w' => e = .returned (.int .i64 z) ∧ Below w.heap.size w w'
def NearIs (a b n : Int) (z : Bool) : Prop := ∀ w, Calls Try.prog 15 #[.int .i64 a, .int .i64 b, .int .i64 n] w fun e w' => e = .returned (.bool z) ∧ Below w.heap.size w w'
def ValidIs (a b : Int) (z : Bool) : Prop := ∀ w, Calls Try.prog 10 #[.agg #[.int .i64 a, .int .i64 b]] w fun e w' => e = .returned (.bool z) ∧ Below w.heap.size w w'
theorem both_is {a b c d x y z : Int} (h : bothF a b c d = (x, y, z)) : BothIs a b c d x y z := fun w => by have := both_any a b c d w; rw [h] at this; exact this
theorem cut_is {a b n x y z : Int} (h : cutF a b n = (x, y, z)) : CutIs a b n x y z := fun w => by have := cut_any a b n w; rw [h] at this; exact this
theorem check_is {a b n k z : Int} (h : checkF a b n k = z) : CheckIs a b n k z := fun w => by have := check_any a b n k w; rw [h] at this; exact this
theorem near_is {a b n : Int} {z : Bool} (h : nearF a b n = z) : NearIs a b n z := fun w => by have := near_any a b n w; rw [h] at this; exact this
theorem valid_is {a b : Int} {z : Bool} (h : validB a b = z) : ValidIs a b z := fun w => by have := valid_any a b w; rw [h] at this; exact this

theorem both_self (a b c d : Int) : BothIs a b c d (bothF a b c d).1 (bothF a b c d).2.1 (bothF a b c d).2.2 := fun w => both_any a b c d w
theorem cut_self (a b n : Int) : CutIs a b n (cutF a b n).1 (cutF a b n).2.1 (cutF a b n).2.2 := fun w => cut_any a b n w
theorem check_self (a b n k : Int) : CheckIs a b n k (checkF a b n k) := fun w => check_any a b n k w
theorem near_self (a b n : Int) : NearIs a b n (nearF a b n) := fun w => near_any a b n w

/-! ### the plain facts -/
theorem okT_iff (n : Int) : okT n = true ↔ 0 ≤ n ∧ n ≤ 1099511627776 := by simp [okT]
theorem valid_iff (a b : Int) : validB a b = true ↔ 0 ≤ a ∧ a ≤ b ∧ b ≤ 1099511627776 := by simp [validB, okT]; omega

theorem bothF_comm (a b c d : Int) : bothF a b c d = bothF c d a b := by
  unfold bothF
  rw [Int.max_comm a c, Int.min_comm b d, Bool.or_comm]
theorem bothF_code (a b c d : Int) : (bothF a b c d).2.2 = 1 ∨ (bothF a b c d).2.2 = 63 ∨ (bothF a b c d).2.2 = 0 := by
  unfold bothF
  split
  · exact .inl rfl
  · split
    · exact .inr (.inl rfl)
    · exact .inr (.inr rfl)
theorem bothF_ok (a b c d : Int) (h : (bothF a b c d).2.2 = 0) : validB a b = true ∧ validB c d = true ∧ max a c < min b d ∧ bothF a b c d = (max a c, min b d, 0) := by
  unfold bothF at h ⊢
  split at h
  · cases h
  · rename_i h1
    split at h
    · cases h
    · rename_i h2
      simp only [Bool.or_eq_true, Bool.not_eq_true', not_or, Bool.not_eq_false] at h1
      refine ⟨h1.1, h1.2, by omega, ?_⟩
      rw [h1.1, h1.2, if_neg (by simp), if_neg h2]
theorem bothF_yes {a b c d : Int} (h1 : validB a b = true) (h2 : validB c d = true) (h3 : max a c < min b d) : bothF a b c d = (max a c, min b d, 0) := by
  unfold bothF
  rw [h1, h2, if_neg (by simp), if_neg (by omega)]
theorem bothF_none {a b c d : Int} (h1 : validB a b = true) (h2 : validB c d = true) (h3 : min b d ≤ max a c) : bothF a b c d = (0, 0, 63) := by
  unfold bothF
  rw [h1, h2, if_neg (by simp), if_pos h3]
theorem bothF_valid (a b c d : Int) (h : (bothF a b c d).2.2 = 0) : validB (bothF a b c d).1 (bothF a b c d).2.1 = true := by
  obtain ⟨h1, h2, h3, h4⟩ := bothF_ok a b c d h
  rw [h4]
  rw [valid_iff] at h1 h2 ⊢
  simp only
  omega
theorem bothF_three (a b c d p q : Int) (h1 : (bothF a b c d).2.2 = 0) (h2 : (bothF c d p q).2.2 = 0) :
    bothF (bothF a b c d).1 (bothF a b c d).2.1 p q = bothF a b (bothF c d p q).1 (bothF c d p q).2.1 := by
  have v1 := bothF_valid _ _ _ _ h1
  have v2 := bothF_valid _ _ _ _ h2
  obtain ⟨a1, a2, a3, a4⟩ := bothF_ok _ _ _ _ h1
  obtain ⟨b1, b2, b3, b4⟩ := bothF_ok _ _ _ _ h2
  rw [a4] at v1 ⊢
  rw [b4] at v2 ⊢
  simp only at v1 v2 ⊢
  unfold bothF
  rw [v1, v2, a1, b2]
  have e1 : max (max a c) p = max a (max c p) := by omega
  have e2 : min (min b d) q = min b (min d q) := by omega
  rw [e1, e2]
theorem checkF_ok (a b n : Int) (h : validB a b = true) (hn : okT n = true) : (checkF a b n 0 = 0) ↔ (a ≤ n ∧ n < b) := by
  unfold checkF
  have : okT 0 = true := by decide
  rw [h, hn, this, if_neg (by simp)]
  constructor
  · intro h
    split at h
    · cases h
    · split at h
      · cases h
      · omega
  · intro h
    rw [if_neg (by omega), if_neg (by omega)]
end Go.Proofs.Ytjoipdjdonakeaa
