/- SpanSkew: for every span and all numbers the function returns true and its arguments read as before. No condition. -/
import Derived.Test.YtjoipdjdonakeaaRows
import Derived.Test.YtjoipdjdonakeaaLaw
import Derived.Lib.SmallJoins
import Derived.Test.YtjoipdjdonakeaaWg
import Derived.Test.YtjoipdjdonakeaaOp
namespace Go.Proofs.Ytjoipdjdonakeaa.skew
open Go.ChangeShapes Go.WideShapes Go.ChangeAt Go.RowKit Go.Joins


set_option maxHeartbeats 1000000 in
theorem walk1 (a b life n k m : Int) (h : k < 0) (w : World) :
    Calls Try.prog 5 #[.agg #[.int .i64 a, .int .i64 b], .int .i64 life, .int .i64 n, .int .i64 k, .int .i64 m] w fun e w' => e = .returned (.bool true) ∧ Below w.heap.size w w' := by
  go_enter Try.func5, Try.ntmps5
  go_wp2_with fail
  refine (works_any _).mono ?_
  rintro e w1 ⟨rfl, hb⟩
  have lw1_0 : w.heap.size < w1.heap.size := by (have hsz := hb.size; first | omega | (simp at hsz; omega))
  have cw1_0_0 : w1.cell? ⟨w.heap.size, 0, none⟩ = some (.int .i64 a) := by (rw [hb.cell (by first | omega | (simp; done) | (simp; omega))]; first | assumption | (simp; done) | (simp [*]; done) | simp [go_sem, *])
  have cw1_0_1 : w1.cell? ⟨w.heap.size, 1, none⟩ = some (.int .i64 b) := by (rw [hb.cell (by first | omega | (simp; done) | (simp; omega))]; first | assumption | (simp; done) | (simp [*]; done) | simp [go_sem, *])
  have HB1 := Lib.hid (rebase ((Below.refl _ _).alloc (Nat.le_refl _) _) hb)
  clear hb
  go_wp2_with fail
  go_ret
  exact ⟨rfl, HB1.out⟩
set_option maxHeartbeats 1000000 in
theorem walk2 (a b life n k m : Int) (h : 0 ≤ k) (h2 : m < k) (w : World) :
    Calls Try.prog 5 #[.agg #[.int .i64 a, .int .i64 b], .int .i64 life, .int .i64 n, .int .i64 k, .int .i64 m] w fun e w' => e = .returned (.bool true) ∧ Below w.heap.size w w' := by
  go_enter Try.func5, Try.ntmps5
  go_wp2_with fail
  refine (works_any _).mono ?_
  rintro e w1 ⟨rfl, hb⟩
  have lw1_0 : w.heap.size < w1.heap.size := by (have hsz := hb.size; first | omega | (simp at hsz; omega))
  have cw1_0_0 : w1.cell? ⟨w.heap.size, 0, none⟩ = some (.int .i64 a) := by (rw [hb.cell (by first | omega | (simp; done) | (simp; omega))]; first | assumption | (simp; done) | (simp [*]; done) | simp [go_sem, *])
  have cw1_0_1 : w1.cell? ⟨w.heap.size, 1, none⟩ = some (.int .i64 b) := by (rw [hb.cell (by first | omega | (simp; done) | (simp; omega))]; first | assumption | (simp; done) | (simp [*]; done) | simp [go_sem, *])
  have HB1 := Lib.hid (rebase ((Below.refl _ _).alloc (Nat.le_refl _) _) hb)
  clear hb
  go_wp2_with fail
  go_ret
  exact ⟨rfl, HB1.out⟩
set_option maxHeartbeats 1000000 in
theorem walk3 (a b life n k m : Int) (h : 0 ≤ k) (h2 : k ≤ m) (h3 : 1099511627776 < m) (w : World) :
    Calls Try.prog 5 #[.agg #[.int .i64 a, .int .i64 b], .int .i64 life, .int .i64 n, .int .i64 k, .int .i64 m] w fun e w' => e = .returned (.bool true) ∧ Below w.heap.size w w' := by
  go_enter Try.func5, Try.ntmps5
  go_wp2_with fail
  refine (works_any _).mono ?_
  rintro e w1 ⟨rfl, hb⟩
  have lw1_0 : w.heap.size < w1.heap.size := by (have hsz := hb.size; first | omega | (simp at hsz; omega))
  have cw1_0_0 : w1.cell? ⟨w.heap.size, 0, none⟩ = some (.int .i64 a) := by (rw [hb.cell (by first | omega | (simp; done) | (simp; omega))]; first | assumption | (simp; done) | (simp [*]; done) | simp [go_sem, *])
  have cw1_0_1 : w1.cell? ⟨w.heap.size, 1, none⟩ = some (.int .i64 b) := by (rw [hb.cell (by first | omega | (simp; done) | (simp; omega))]; first | assumption | (simp; done) | (simp [*]; done) | simp [go_sem, *])
  have HB1 := Lib.hid (rebase ((Below.refl _ _).alloc (Nat.le_refl _) _) hb)
  clear hb
  go_wp2_with fail
  go_ret
  exact ⟨rfl, HB1.out⟩

set_option maxHeartbeats 1000000 in
theorem walk4 (a b life n k m e1 e2 g : Int) (h : 0 ≤ k) (h2 : k ≤ m) (h3 : m ≤ 1099511627776) (k1 : CheckIs a b n k e1) (k2 : CheckIs a b n m e2) (q : (e1 == 0) = false ∨ (e1 == 0) = true ∧ (e2 != 0) = false)
    (cu : CutIs a b life 0 0 g) (hg : (g != 0) = true) (w : World) :
    Calls Try.prog 5 #[.agg #[.int .i64 a, .int .i64 b], .int .i64 life, .int .i64 n, .int .i64 k, .int .i64 m] w fun e w' => e = .returned (.bool true) ∧ Below w.heap.size w w' := by
  have K1 := Lib.hid k1
  have K2 := Lib.hid k2
  have CU := Lib.hid cu
  clear k1 k2 cu
  rcases q with q | ⟨q1, q2⟩
  · skip
    go_enter Try.func5, Try.ntmps5
    go_wp2_with fail
    refine (works_any _).mono ?_
    rintro e w1 ⟨rfl, hb⟩
    have lw1_0 : w.heap.size < w1.heap.size := by (have hsz := hb.size; first | omega | (simp at hsz; omega))
    have cw1_0_0 : w1.cell? ⟨w.heap.size, 0, none⟩ = some (.int .i64 a) := by (rw [hb.cell (by first | omega | (simp; done) | (simp; omega))]; first | assumption | (simp; done) | (simp [*]; done) | simp [go_sem, *])
    have cw1_0_1 : w1.cell? ⟨w.heap.size, 1, none⟩ = some (.int .i64 b) := by (rw [hb.cell (by first | omega | (simp; done) | (simp; omega))]; first | assumption | (simp; done) | (simp [*]; done) | simp [go_sem, *])
    have HB1 := Lib.hid (rebase ((Below.refl _ _).alloc (Nat.le_refl _) _) hb)
    clear hb
    go_wp2_with fail
    refine (K1.out _).mono ?_
    rintro e w2 ⟨rfl, hb⟩
    have lw2_0 : w.heap.size < w2.heap.size := by (have hsz := hb.size; first | omega | (simp at hsz; omega))
    have cw2_0_0 : w2.cell? ⟨w.heap.size, 0, none⟩ = some (.int .i64 a) := by (rw [hb.cell (by first | omega | (simp; done) | (simp; omega))]; first | assumption | (simp; done) | (simp [*]; done) | simp [go_sem, *])
    have cw2_0_1 : w2.cell? ⟨w.heap.size, 1, none⟩ = some (.int .i64 b) := by (rw [hb.cell (by first | omega | (simp; done) | (simp; omega))]; first | assumption | (simp; done) | (simp [*]; done) | simp [go_sem, *])
    have HB2 := Lib.hid (rebase HB1.out hb)
    clear hb HB1 cw1_0_0 cw1_0_1 lw1_0
    go_wp2_with fail
    refine (K2.out _).mono ?_
    rintro e w3 ⟨rfl, hb⟩
    have lw3_0 : w.heap.size < w3.heap.size := by (have hsz := hb.size; first | omega | (simp at hsz; omega))
    have cw3_0_0 : w3.cell? ⟨w.heap.size, 0, none⟩ = some (.int .i64 a) := by (rw [hb.cell (by first | omega | (simp; done) | (simp; omega))]; first | assumption | (simp; done) | (simp [*]; done) | simp [go_sem, *])
    have cw3_0_1 : w3.cell? ⟨w.heap.size, 1, none⟩ = some (.int .i64 b) := by (rw [hb.cell (by first | omega | (simp; done) | (simp; omega))]; first | assumption | (simp; done) | (simp [*]; done) | simp [go_sem, *])
    have HB3 := Lib.hid (rebase HB2.out hb)
    clear hb HB2 cw2_0_0 cw2_0_1 lw2_0
    go_wp2_with fail
    refine (CU.out _).mono ?_
    rintro e w4 ⟨rfl, hb⟩
    have lw4_0 : w.heap.size < w4.heap.size := by (have hsz := hb.size; first | omega | (simp at hsz; omega))
    have cw4_0_0 : w4.cell? ⟨w.heap.size, 0, none⟩ = some (.int .i64 a) := by (rw [hb.cell (by first | omega | (simp; done) | (simp; omega))]; first | assumption | (simp; done) | (simp [*]; done) | simp [go_sem, *])
    have cw4_0_1 : w4.cell? ⟨w.heap.size, 1, none⟩ = some (.int .i64 b) := by (rw [hb.cell (by first | omega | (simp; done) | (simp; omega))]; first | assumption | (simp; done) | (simp [*]; done) | simp [go_sem, *])
    have HB4 := Lib.hid (rebase HB3.out hb)
    clear hb HB3 cw3_0_0 cw3_0_1 lw3_0
    go_wp2_with fail
    go_ret
    exact ⟨rfl, HB4.out.alloc (by omega) _⟩
  · skip
    go_enter Try.func5, Try.ntmps5
    go_wp2_with fail
    refine (works_any _).mono ?_
    rintro e w1 ⟨rfl, hb⟩
    have lw1_0 : w.heap.size < w1.heap.size := by (have hsz := hb.size; first | omega | (simp at hsz; omega))
    have cw1_0_0 : w1.cell? ⟨w.heap.size, 0, none⟩ = some (.int .i64 a) := by (rw [hb.cell (by first | omega | (simp; done) | (simp; omega))]; first | assumption | (simp; done) | (simp [*]; done) | simp [go_sem, *])
    have cw1_0_1 : w1.cell? ⟨w.heap.size, 1, none⟩ = some (.int .i64 b) := by (rw [hb.cell (by first | omega | (simp; done) | (simp; omega))]; first | assumption | (simp; done) | (simp [*]; done) | simp [go_sem, *])
    have HB1 := Lib.hid (rebase ((Below.refl _ _).alloc (Nat.le_refl _) _) hb)
    clear hb
    go_wp2_with fail
    refine (K1.out _).mono ?_
    rintro e w2 ⟨rfl, hb⟩
    have lw2_0 : w.heap.size < w2.heap.size := by (have hsz := hb.size; first | omega | (simp at hsz; omega))
    have cw2_0_0 : w2.cell? ⟨w.heap.size, 0, none⟩ = some (.int .i64 a) := by (rw [hb.cell (by first | omega | (simp; done) | (simp; omega))]; first | assumption | (simp; done) | (simp [*]; done) | simp [go_sem, *])
    have cw2_0_1 : w2.cell? ⟨w.heap.size, 1, none⟩ = some (.int .i64 b) := by (rw [hb.cell (by first | omega | (simp; done) | (simp; omega))]; first | assumption | (simp; done) | (simp [*]; done) | simp [go_sem, *])
    have HB2 := Lib.hid (rebase HB1.out hb)
    clear hb HB1 cw1_0_0 cw1_0_1 lw1_0
    go_wp2_with fail
    refine (K2.out _).mono ?_
    rintro e w3 ⟨rfl, hb⟩
    have lw3_0 : w.heap.size < w3.heap.size := by (have hsz := hb.size; first | omega | (simp at hsz; omega))
    have cw3_0_0 : w3.cell? ⟨w.heap.size, 0, none⟩ = some (.int .i64 a) := by (rw [hb.cell (by first | omega | (simp; done) | (simp; omega))]; first | assumption | (simp; done) | (simp [*]; done) | simp [go_sem, *])
    have cw3_0_1 : w3.cell? ⟨w.heap.size, 1, none⟩ = some (.int .i64 b) := by (rw [hb.cell (by first | omega | (simp; done) | (simp; omega))]; first | assumption | (simp; done) | (simp [*]; done) | simp [go_sem, *])
    have HB3 := Lib.hid (rebase HB2.out hb)
    clear hb HB2 cw2_0_0 cw2_0_1 lw2_0
    go_wp2_with fail
    refine (CU.out _).mono ?_
    rintro e w4 ⟨rfl, hb⟩
    have lw4_0 : w.heap.size < w4.heap.size := by (have hsz := hb.size; first | omega | (simp at hsz; omega))
    have cw4_0_0 : w4.cell? ⟨w.heap.size, 0, none⟩ = some (.int .i64 a) := by (rw [hb.cell (by first | omega | (simp; done) | (simp; omega))]; first | assumption | (simp; done) | (simp [*]; done) | simp [go_sem, *])
    have cw4_0_1 : w4.cell? ⟨w.heap.size, 1, none⟩ = some (.int .i64 b) := by (rw [hb.cell (by first | omega | (simp; done) | (simp; omega))]; first | assumption | (simp; done) | (simp [*]; done) | simp [go_sem, *])
    have HB4 := Lib.hid (rebase HB3.out hb)
    clear hb HB3 cw3_0_0 cw3_0_1 lw3_0
    go_wp2_with fail
    go_ret
    exact ⟨rfl, HB4.out.alloc (by omega) _⟩

set_option maxHeartbeats 2000000 in
theorem walk5 (a b life n k m e1 e2 y k3 : Int) (h : 0 ≤ k) (h2 : k ≤ m) (h3 : m ≤ 1099511627776) (k1 : CheckIs a b n k e1) (k2 : CheckIs a b n m e2) (q : (e1 == 0) = false ∨ (e1 == 0) = true ∧ (e2 != 0) = false)
    (cu : CutIs a b life a y 0) (y1 : y ≤ b) (y2 : a < y) (y3 : y - a ≤ life) (y4 : 0 ≤ a) (y5 : b ≤ 1099511627776) (c3 : CheckIs a y n k k3) (q3 : (k3 != 0) = true ∨ (k3 != 0) = false ∧ (e1 == 0) = true) (w : World) :
    Calls Try.prog 5 #[.agg #[.int .i64 a, .int .i64 b], .int .i64 life, .int .i64 n, .int .i64 k, .int .i64 m] w fun e w' => e = .returned (.bool true) ∧ Below w.heap.size w w' := by
  have K1 := Lib.hid k1
  have K2 := Lib.hid k2
  have CU := Lib.hid cu
  have K3 := Lib.hid c3
  clear k1 k2 cu c3
  have qq : ((e1 == 0) = false ∧ (k3 != 0) = true) ∨ ((e1 == 0) = true ∧ (e2 != 0) = false ∧ (k3 != 0) = true) ∨ ((e1 == 0) = true ∧ (e2 != 0) = false ∧ (k3 != 0) = false) := by
    rcases q with q | ⟨qa, qb⟩
    · rcases q3 with q3 | ⟨_, q4⟩
      · exact .inl ⟨q, q3⟩
      · rw [q] at q4; cases q4
    · rcases q3 with q3 | ⟨q3, _⟩
      · exact .inr (.inl ⟨qa, qb, q3⟩)
      · exact .inr (.inr ⟨qa, qb, q3⟩)
  clear q q3
  rcases qq with ⟨qa, qc⟩ | ⟨qa, qb, qc⟩ | ⟨qa, qb, qc⟩
  · skip
    go_enter Try.func5, Try.ntmps5
    go_wp2_with fail
    refine (works_any _).mono ?_
    rintro e w1 ⟨rfl, hb⟩
    have lw1_0 : w.heap.size < w1.heap.size := by (have hsz := hb.size; first | omega | (simp at hsz; omega))
    have cw1_0_0 : w1.cell? ⟨w.heap.size, 0, none⟩ = some (.int .i64 a) := by (rw [hb.cell (by first | omega | (simp; done) | (simp; omega))]; first | assumption | (simp; done) | (simp [*]; done) | simp [go_sem, *])
    have cw1_0_1 : w1.cell? ⟨w.heap.size, 1, none⟩ = some (.int .i64 b) := by (rw [hb.cell (by first | omega | (simp; done) | (simp; omega))]; first | assumption | (simp; done) | (simp [*]; done) | simp [go_sem, *])
    have HB1 := Lib.hid (rebase ((Below.refl _ _).alloc (Nat.le_refl _) _) hb)
    clear hb
    go_wp2_with fail
    refine (K1.out _).mono ?_
    rintro e w2 ⟨rfl, hb⟩
    have lw2_0 : w.heap.size < w2.heap.size := by (have hsz := hb.size; first | omega | (simp at hsz; omega))
    have cw2_0_0 : w2.cell? ⟨w.heap.size, 0, none⟩ = some (.int .i64 a) := by (rw [hb.cell (by first | omega | (simp; done) | (simp; omega))]; first | assumption | (simp; done) | (simp [*]; done) | simp [go_sem, *])
    have cw2_0_1 : w2.cell? ⟨w.heap.size, 1, none⟩ = some (.int .i64 b) := by (rw [hb.cell (by first | omega | (simp; done) | (simp; omega))]; first | assumption | (simp; done) | (simp [*]; done) | simp [go_sem, *])
    have HB2 := Lib.hid (rebase HB1.out hb)
    clear hb HB1 cw1_0_0 cw1_0_1 lw1_0
    go_wp2_with fail
    refine (K2.out _).mono ?_
    rintro e w3 ⟨rfl, hb⟩
    have lw3_0 : w.heap.size < w3.heap.size := by (have hsz := hb.size; first | omega | (simp at hsz; omega))
    have cw3_0_0 : w3.cell? ⟨w.heap.size, 0, none⟩ = some (.int .i64 a) := by (rw [hb.cell (by first | omega | (simp; done) | (simp; omega))]; first | assumption | (simp; done) | (simp [*]; done) | simp [go_sem, *])
    have cw3_0_1 : w3.cell? ⟨w.heap.size, 1, none⟩ = some (.int .i64 b) := by (rw [hb.cell (by first | omega | (simp; done) | (simp; omega))]; first | assumption | (simp; done) | (simp [*]; done) | simp [go_sem, *])
    have HB3 := Lib.hid (rebase HB2.out hb)
    clear hb HB2 cw2_0_0 cw2_0_1 lw2_0
    go_wp2_with fail
    refine (CU.out _).mono ?_
    rintro e w4 ⟨rfl, hb⟩
    have lw4_0 : w.heap.size < w4.heap.size := by (have hsz := hb.size; first | omega | (simp at hsz; omega))
    have cw4_0_0 : w4.cell? ⟨w.heap.size, 0, none⟩ = some (.int .i64 a) := by (rw [hb.cell (by first | omega | (simp; done) | (simp; omega))]; first | assumption | (simp; done) | (simp [*]; done) | simp [go_sem, *])
    have cw4_0_1 : w4.cell? ⟨w.heap.size, 1, none⟩ = some (.int .i64 b) := by (rw [hb.cell (by first | omega | (simp; done) | (simp; omega))]; first | assumption | (simp; done) | (simp [*]; done) | simp [go_sem, *])
    have HB4 := Lib.hid (rebase HB3.out hb)
    clear hb HB3 cw3_0_0 cw3_0_1 lw3_0
    go_wp2_with fail
    refine (K3.out _).mono ?_
    rintro e w5 ⟨rfl, hb⟩
    have HB5 := Lib.hid (rebase (HB4.out.alloc (by omega) _) hb)
    clear hb HB4
    go_wp2_with fail
    go_ret
    exact ⟨rfl, HB5.out⟩
  · skip
    go_enter Try.func5, Try.ntmps5
    go_wp2_with fail
    refine (works_any _).mono ?_
    rintro e w1 ⟨rfl, hb⟩
    have lw1_0 : w.heap.size < w1.heap.size := by (have hsz := hb.size; first | omega | (simp at hsz; omega))
    have cw1_0_0 : w1.cell? ⟨w.heap.size, 0, none⟩ = some (.int .i64 a) := by (rw [hb.cell (by first | omega | (simp; done) | (simp; omega))]; first | assumption | (simp; done) | (simp [*]; done) | simp [go_sem, *])
    have cw1_0_1 : w1.cell? ⟨w.heap.size, 1, none⟩ = some (.int .i64 b) := by (rw [hb.cell (by first | omega | (simp; done) | (simp; omega))]; first | assumption | (simp; done) | (simp [*]; done) | simp [go_sem, *])
    have HB1 := Lib.hid (rebase ((Below.refl _ _).alloc (Nat.le_refl _) _) hb)
    clear hb
    go_wp2_with fail
    refine (K1.out _).mono ?_
    rintro e w2 ⟨rfl, hb⟩
    have lw2_0 : w.heap.size < w2.heap.size := by (have hsz := hb.size; first | omega | (simp at hsz; omega))
    have cw2_0_0 : w2.cell? ⟨w.heap.size, 0, none⟩ = some (.int .i64 a) := by (rw [hb.cell (by first | omega | (simp; done) | (simp; omega))]; first | assumption | (simp; done) | (simp [*]; done) | simp [go_sem, *])
    have cw2_0_1 : w2.cell? ⟨w.heap.size, 1, none⟩ = some (.int .i64 b) := by (rw [hb.cell (by first | omega | (simp; done) | (simp; omega))]; first | assumption | (simp; done) | (simp [*]; done) | simp [go_sem, *])
    have HB2 := Lib.hid (rebase HB1.out hb)
    clear hb HB1 cw1_0_0 cw1_0_1 lw1_0
    go_wp2_with fail
    refine (K2.out _).mono ?_
    rintro e w3 ⟨rfl, hb⟩
    have lw3_0 : w.heap.size < w3.heap.size := by (have hsz := hb.size; first | omega | (simp at hsz; omega))
    have cw3_0_0 : w3.cell? ⟨w.heap.size, 0, none⟩ = some (.int .i64 a) := by (rw [hb.cell (by first | omega | (simp; done) | (simp; omega))]; first | assumption | (simp; done) | (simp [*]; done) | simp [go_sem, *])
    have cw3_0_1 : w3.cell? ⟨w.heap.size, 1, none⟩ = some (.int .i64 b) := by (rw [hb.cell (by first | omega | (simp; done) | (simp; omega))]; first | assumption | (simp; done) | (simp [*]; done) | simp [go_sem, *])
    have HB3 := Lib.hid (rebase HB2.out hb)
    clear hb HB2 cw2_0_0 cw2_0_1 lw2_0
    go_wp2_with fail
    refine (CU.out _).mono ?_
    rintro e w4 ⟨rfl, hb⟩
    have lw4_0 : w.heap.size < w4.heap.size := by (have hsz := hb.size; first | omega | (simp at hsz; omega))
    have cw4_0_0 : w4.cell? ⟨w.heap.size, 0, none⟩ = some (.int .i64 a) := by (rw [hb.cell (by first | omega | (simp; done) | (simp; omega))]; first | assumption | (simp; done) | (simp [*]; done) | simp [go_sem, *])
    have cw4_0_1 : w4.cell? ⟨w.heap.size, 1, none⟩ = some (.int .i64 b) := by (rw [hb.cell (by first | omega | (simp; done) | (simp; omega))]; first | assumption | (simp; done) | (simp [*]; done) | simp [go_sem, *])
    have HB4 := Lib.hid (rebase HB3.out hb)
    clear hb HB3 cw3_0_0 cw3_0_1 lw3_0
    go_wp2_with fail
    refine (K3.out _).mono ?_
    rintro e w5 ⟨rfl, hb⟩
    have HB5 := Lib.hid (rebase (HB4.out.alloc (by omega) _) hb)
    clear hb HB4
    go_wp2_with fail
    go_ret
    exact ⟨rfl, HB5.out⟩
  · skip
    go_enter Try.func5, Try.ntmps5
    go_wp2_with fail
    refine (works_any _).mono ?_
    rintro e w1 ⟨rfl, hb⟩
    have lw1_0 : w.heap.size < w1.heap.size := by (have hsz := hb.size; first | omega | (simp at hsz; omega))
    have cw1_0_0 : w1.cell? ⟨w.heap.size, 0, none⟩ = some (.int .i64 a) := by (rw [hb.cell (by first | omega | (simp; done) | (simp; omega))]; first | assumption | (simp; done) | (simp [*]; done) | simp [go_sem, *])
    have cw1_0_1 : w1.cell? ⟨w.heap.size, 1, none⟩ = some (.int .i64 b) := by (rw [hb.cell (by first | omega | (simp; done) | (simp; omega))]; first | assumption | (simp; done) | (simp [*]; done) | simp [go_sem, *])
    have HB1 := Lib.hid (rebase ((Below.refl _ _).alloc (Nat.le_refl _) _) hb)
    clear hb
    go_wp2_with fail
    refine (K1.out _).mono ?_
    rintro e w2 ⟨rfl, hb⟩
    have lw2_0 : w.heap.size < w2.heap.size := by (have hsz := hb.size; first | omega | (simp at hsz; omega))
    have cw2_0_0 : w2.cell? ⟨w.heap.size, 0, none⟩ = some (.int .i64 a) := by (rw [hb.cell (by first | omega | (simp; done) | (simp; omega))]; first | assumption | (simp; done) | (simp [*]; done) | simp [go_sem, *])
    have cw2_0_1 : w2.cell? ⟨w.heap.size, 1, none⟩ = some (.int .i64 b) := by (rw [hb.cell (by first | omega | (simp; done) | (simp; omega))]; first | assumption | (simp; done) | (simp [*]; done) | simp [go_sem, *])
    have HB2 := Lib.hid (rebase HB1.out hb)
    clear hb HB1 cw1_0_0 cw1_0_1 lw1_0
    go_wp2_with fail
    refine (K2.out _).mono ?_
    rintro e w3 ⟨rfl, hb⟩
    have lw3_0 : w.heap.size < w3.heap.size := by (have hsz := hb.size; first | omega | (simp at hsz; omega))
    have cw3_0_0 : w3.cell? ⟨w.heap.size, 0, none⟩ = some (.int .i64 a) := by (rw [hb.cell (by first | omega | (simp; done) | (simp; omega))]; first | assumption | (simp; done) | (simp [*]; done) | simp [go_sem, *])
    have cw3_0_1 : w3.cell? ⟨w.heap.size, 1, none⟩ = some (.int .i64 b) := by (rw [hb.cell (by first | omega | (simp; done) | (simp; omega))]; first | assumption | (simp; done) | (simp [*]; done) | simp [go_sem, *])
    have HB3 := Lib.hid (rebase HB2.out hb)
    clear hb HB2 cw2_0_0 cw2_0_1 lw2_0
    go_wp2_with fail
    refine (CU.out _).mono ?_
    rintro e w4 ⟨rfl, hb⟩
    have lw4_0 : w.heap.size < w4.heap.size := by (have hsz := hb.size; first | omega | (simp at hsz; omega))
    have cw4_0_0 : w4.cell? ⟨w.heap.size, 0, none⟩ = some (.int .i64 a) := by (rw [hb.cell (by first | omega | (simp; done) | (simp; omega))]; first | assumption | (simp; done) | (simp [*]; done) | simp [go_sem, *])
    have cw4_0_1 : w4.cell? ⟨w.heap.size, 1, none⟩ = some (.int .i64 b) := by (rw [hb.cell (by first | omega | (simp; done) | (simp; omega))]; first | assumption | (simp; done) | (simp [*]; done) | simp [go_sem, *])
    have HB4 := Lib.hid (rebase HB3.out hb)
    clear hb HB3 cw3_0_0 cw3_0_1 lw3_0
    go_wp2_with fail
    refine (K3.out _).mono ?_
    rintro e w5 ⟨rfl, hb⟩
    have HB5 := Lib.hid (rebase (HB4.out.alloc (by omega) _) hb)
    clear hb HB4
    go_wp2_with fail
    go_ret
    exact ⟨rfl, HB5.out⟩

theorem checkF_iff (a b n k : Int) : checkF a b n k = 0 ↔ validB a b = true ∧ okT n = true ∧ okT k = true ∧ a - n ≤ k ∧ -k < b - n := by
  unfold checkF
  constructor
  · intro h
    split at h
    · cases h
    · rename_i h1
      simp only [Bool.or_eq_true, Bool.not_eq_true', not_or, Bool.not_eq_false, Bool.and_eq_true] at h1
      split at h
      · cases h
      · split at h
        · cases h
        · exact ⟨h1.1, h1.2.1, h1.2.2, by omega, by omega⟩
  · rintro ⟨h1, h2, h3, h4, h5⟩
    rw [h1, h2, h3, if_neg (by simp), if_neg (by omega), if_neg (by omega)]

theorem cutF_iff (a b n : Int) : (cutF a b n).2.2 = 0 ∧ validB a b = true ∧ okT n = true ∧ a < min b (a + n) ∧ cutF a b n = (a, min b (a + n), 0) ∨ ((cutF a b n).2.2 ≠ 0 ∧ (cutF a b n).1 = 0 ∧ (cutF a b n).2.1 = 0) := by
  unfold cutF
  split
  · exact .inr ⟨by simp, rfl, rfl⟩
  · rename_i h1
    simp only [Bool.or_eq_true, Bool.not_eq_true', not_or, Bool.not_eq_false] at h1
    split
    · exact .inr ⟨by simp, rfl, rfl⟩
    · exact .inl ⟨rfl, h1.1, h1.2, by omega, rfl⟩

theorem walk (a b life n k m : Int) (w : World) :
    Calls Try.prog 5 #[.agg #[.int .i64 a, .int .i64 b], .int .i64 life, .int .i64 n, .int .i64 k, .int .i64 m] w fun e w' => e = .returned (.bool true) ∧ Below w.heap.size w w' := by
  by_cases h1 : k < 0
  · exact walk1 a b life n k m h1 w
  by_cases h2 : m < k
  · exact walk2 a b life n k m (by omega) h2 w
  by_cases h3 : 1099511627776 < m
  · exact walk3 a b life n k m (by omega) (by omega) h3 w
  have i1 := checkF_iff a b n k
  have i2 := checkF_iff a b n m
  have q : (checkF a b n k == 0) = false ∨ (checkF a b n k == 0) = true ∧ (checkF a b n m != 0) = false := by
    by_cases z : checkF a b n k = 0
    · refine .inr ⟨by simpa using z, ?_⟩
      have := i1.1 z
      rw [bne_eq_false_iff_eq, i2]
      refine ⟨this.1, this.2.1, ?_, by omega, by omega⟩
      rw [okT_iff]; omega
    · exact .inl (by simpa using z)
  rcases cutF_iff a b life with ⟨g, v, o, lt, e⟩ | ⟨g, x0, y0⟩
  · have cu : CutIs a b life a (min b (a + life)) 0 := cut_is e
    have vv := (valid_iff _ _).1 v
    have oo := (okT_iff _).1 o
    refine walk5 a b life n k m _ _ _ _ (by omega) (by omega) (by omega) (check_self a b n k) (check_self a b n m) q cu (by omega) lt (by omega) vv.1 vv.2.2 (check_self a (min b (a + life)) n k) ?_ w
    by_cases z : checkF a (min b (a + life)) n k = 0
    · refine .inr ⟨by simpa using z, ?_⟩
      have := (checkF_iff _ _ _ _).1 z
      rw [beq_iff_eq, i1]
      exact ⟨v, this.2.1, this.2.2.1, this.2.2.2.1, by omega⟩
    · exact .inl (by simpa using z)
  · have cu := cut_self a b life
    rw [x0, y0] at cu
    exact walk4 a b life n k m _ _ _ (by omega) (by omega) (by omega) (check_self a b n k) (check_self a b n m) q cu (by simpa using g) w

set_option maxRecDepth 100000 in
theorem lifted (os : Os) (started : os.Started) (H : Type) (enc : TypeId × Value → H) :
    ReturnsInHanded {} Try.checked os 5 .any (Rows.spanSkewSpec.pre6 enc Try.prog Try.f5 Rows.spanSkewRow.domain false) (Rows.spanSkewSpec.post enc Try.prog Try.f5 false true false false) := by
  refine returnsInHanded_of_change (C := Try.checked) ownTry started (by kernel_rfl) Try.func5
    (ChangeSpec.witness6 (enc := enc) (C := Try.checked) false ⟨#[], #[.agg #[.int .i64 0, .int .i64 0], .int .i64 0, .int .i64 0, .int .i64 0, .int .i64 0], []⟩ 8 (by kernel_rfl) (by kernel_rfl) (by kernel_rfl) (by kernel_rfl)) ?_
  intro W base args ds gs before hval0 hW _ _
  have hval : ∀ (j : Nat) t v, Try.f5.params[j]? = some t → args[j]? = some v → Value.okWide Try.prog W .any base t v := hval0
  have hW' := hW
  obtain ⟨p, q, hA0, hV, rfl, _, _⟩ := hW
  have hA : DataW.TrodAll enc Try.prog W 0 (fun _ => true) true Try.f5.params.toList args.toList ds p := hA0
  rw [Try.params5] at hA hval
  obtain ⟨v0, vs0, d0, ds0, p0, q0, hargs, rfl, rfl, h0, r0⟩ := trodAll_cons hA
  obtain ⟨v1, vs1, d1, ds1, p1, q1, rfl, rfl, rfl, h1, r1⟩ := trodAll_cons r0
  obtain ⟨v2, vs2, d2, ds2, p2, q2, rfl, rfl, rfl, h2, r2⟩ := trodAll_cons r1
  obtain ⟨v3, vs3, d3, ds3, p3, q3, rfl, rfl, rfl, h3, r3⟩ := trodAll_cons r2
  obtain ⟨v4, vs4, d4, ds4, p4, q4, rfl, rfl, rfl, h4, r4⟩ := trodAll_cons r3
  obtain ⟨rfl, rfl, rfl⟩ := trodAll_nil r4
  obtain rfl : args = #[v0, v1, v2, v3, v4] := by cases args; simp_all
  obtain ⟨rfl, rfl⟩ := trodVars_none hV
  obtain ⟨a0, b0, rfl⟩ := open_span (hval 0 _ v0 rfl rfl) h0
  obtain ⟨n1, rfl, rfl, rfl, wf1⟩ := open_int Try.underlying3 (hval 1 _ v1 rfl rfl) h1
  obtain ⟨n2, rfl, rfl, rfl, wf2⟩ := open_int Try.underlying3 (hval 2 _ v2 rfl rfl) h2
  obtain ⟨n3, rfl, rfl, rfl, wf3⟩ := open_int Try.underlying3 (hval 3 _ v3 rfl rfl) h3
  obtain ⟨n4, rfl, rfl, rfl, wf4⟩ := open_int Try.underlying3 (hval 4 _ v4 rfl rfl) h4
  refine (walk a0 b0 n1 n2 n3 n4 W).mono fun e W' ⟨he, hb⟩ => ?_
  subst he
  exact ⟨_, rfl, law_post (by kernel_rfl) (by kernel_rfl) (by kernel_rfl) Try.underlying4 rfl rfl hW' hb⟩

theorem over : Rows.spanSkewRow.holds Try.pinned (OpenSpec.ofChange Rows.spanSkewSpec) :=
  OpenClaim.holds_of_wide 5 Try.f5 rfl rfl rfl rfl rfl rfl rfl ⟨rfl, rfl, rfl, rfl, rfl⟩ rfl rfl rfl rfl rfl (by kernel_rfl) Try.func5 (by kernel_rfl)
    (of_decide_eq_true (by kernel_rfl)) (by unfold Func.isWrapper; first | (rw [if_pos (by decide +kernel)]; kernel_rfl) | (rw [if_neg (by decide +kernel)]; exact ⟨rfl, rfl⟩))
    (fun os started H enc _ => lifted os started H enc)

/-- The statement. -/
theorem proved : Rows.SpanSkewSaid := over
#print axioms proved
end Go.Proofs.Ytjoipdjdonakeaa.skew
