/- SpanThree: for every three spans the function returns true and its arguments read as before. No condition. -/
import Derived.Test.YtjoipdjdonakeaaRows
import Derived.Test.YtjoipdjdonakeaaLaw
import Derived.Lib.SmallJoins
import Derived.Test.YtjoipdjdonakeaaWg
import Derived.Test.YtjoipdjdonakeaaOp
namespace Go.Proofs.Ytjoipdjdonakeaa.three
open Go.ChangeShapes Go.WideShapes Go.ChangeAt Go.RowKit Go.Joins


set_option maxHeartbeats 1000000 in
theorem walk1 (a b c d p q x0 x1 e1 y0 y1 e2 : Int) (h1 : BothIs a b c d x0 x1 e1) (h2 : BothIs c d p q y0 y1 e2) (n1 : (e1 != 0) = true) (n2 : (e2 != 0) = true) (w : World) :
    Calls Try.prog 7 #[.agg #[.int .i64 a, .int .i64 b], .agg #[.int .i64 c, .int .i64 d], .agg #[.int .i64 p, .int .i64 q]] w fun e w' => e = .returned (.bool true) ∧ Below w.heap.size w w' := by
  have H1 := Lib.hid h1
  have H2 := Lib.hid h2
  clear h1 h2
  go_enter Try.func7, Try.ntmps7
  go_wp2_with fail
  refine (works_any _).mono ?_
  rintro e w1 ⟨rfl, hb⟩
  have lw1_0 : w.heap.size < w1.heap.size := by (have hsz := hb.size; first | omega | (simp at hsz; omega))
  have cw1_0_0 : w1.cell? ⟨w.heap.size, 0, none⟩ = some (.int .i64 a) := by (rw [hb.cell (by first | omega | (simp; done) | (simp; omega))]; first | assumption | (simp; done) | (simp [*]; done) | simp [go_sem, *])
  have cw1_0_1 : w1.cell? ⟨w.heap.size, 1, none⟩ = some (.int .i64 b) := by (rw [hb.cell (by first | omega | (simp; done) | (simp; omega))]; first | assumption | (simp; done) | (simp [*]; done) | simp [go_sem, *])
  have lw1_1 : w.heap.size + 1 < w1.heap.size := by (have hsz := hb.size; first | omega | (simp at hsz; omega))
  have cw1_1_0 : w1.cell? ⟨w.heap.size + 1, 0, none⟩ = some (.int .i64 c) := by (rw [hb.cell (by first | omega | (simp; done) | (simp; omega))]; first | assumption | (simp; done) | (simp [*]; done) | simp [go_sem, *])
  have cw1_1_1 : w1.cell? ⟨w.heap.size + 1, 1, none⟩ = some (.int .i64 d) := by (rw [hb.cell (by first | omega | (simp; done) | (simp; omega))]; first | assumption | (simp; done) | (simp [*]; done) | simp [go_sem, *])
  have lw1_2 : w.heap.size + 1 + 1 < w1.heap.size := by (have hsz := hb.size; first | omega | (simp at hsz; omega))
  have cw1_2_0 : w1.cell? ⟨w.heap.size + 1 + 1, 0, none⟩ = some (.int .i64 p) := by (rw [hb.cell (by first | omega | (simp; done) | (simp; omega))]; first | assumption | (simp; done) | (simp [*]; done) | simp [go_sem, *])
  have cw1_2_1 : w1.cell? ⟨w.heap.size + 1 + 1, 1, none⟩ = some (.int .i64 q) := by (rw [hb.cell (by first | omega | (simp; done) | (simp; omega))]; first | assumption | (simp; done) | (simp [*]; done) | simp [go_sem, *])
  have HB1 := Lib.hid (rebase ((((Below.refl _ _).alloc (Nat.le_refl _) _).alloc (by simp) _).alloc (by simp; omega) _) hb)
  clear hb
  go_wp2_with fail
  refine (H1.out _).mono ?_
  rintro e w2 ⟨rfl, hb⟩
  have lw2_0 : w.heap.size < w2.heap.size := by (have hsz := hb.size; first | omega | (simp at hsz; omega))
  have cw2_0_0 : w2.cell? ⟨w.heap.size, 0, none⟩ = some (.int .i64 a) := by (rw [hb.cell (by first | omega | (simp; done) | (simp; omega))]; first | assumption | (simp; done) | (simp [*]; done) | simp [go_sem, *])
  have cw2_0_1 : w2.cell? ⟨w.heap.size, 1, none⟩ = some (.int .i64 b) := by (rw [hb.cell (by first | omega | (simp; done) | (simp; omega))]; first | assumption | (simp; done) | (simp [*]; done) | simp [go_sem, *])
  have lw2_1 : w.heap.size + 1 < w2.heap.size := by (have hsz := hb.size; first | omega | (simp at hsz; omega))
  have cw2_1_0 : w2.cell? ⟨w.heap.size + 1, 0, none⟩ = some (.int .i64 c) := by (rw [hb.cell (by first | omega | (simp; done) | (simp; omega))]; first | assumption | (simp; done) | (simp [*]; done) | simp [go_sem, *])
  have cw2_1_1 : w2.cell? ⟨w.heap.size + 1, 1, none⟩ = some (.int .i64 d) := by (rw [hb.cell (by first | omega | (simp; done) | (simp; omega))]; first | assumption | (simp; done) | (simp [*]; done) | simp [go_sem, *])
  have lw2_2 : w.heap.size + 1 + 1 < w2.heap.size := by (have hsz := hb.size; first | omega | (simp at hsz; omega))
  have cw2_2_0 : w2.cell? ⟨w.heap.size + 1 + 1, 0, none⟩ = some (.int .i64 p) := by (rw [hb.cell (by first | omega | (simp; done) | (simp; omega))]; first | assumption | (simp; done) | (simp [*]; done) | simp [go_sem, *])
  have cw2_2_1 : w2.cell? ⟨w.heap.size + 1 + 1, 1, none⟩ = some (.int .i64 q) := by (rw [hb.cell (by first | omega | (simp; done) | (simp; omega))]; first | assumption | (simp; done) | (simp [*]; done) | simp [go_sem, *])
  have HB2 := Lib.hid (rebase HB1.out hb)
  clear hb HB1 cw1_0_0 cw1_0_1 cw1_1_0 cw1_1_1 cw1_2_0 cw1_2_1 lw1_0 lw1_1 lw1_2
  go_wp2_with fail
  refine (H2.out _).mono ?_
  rintro e w3 ⟨rfl, hb⟩
  have lw3_0 : w.heap.size < w3.heap.size := by (have hsz := hb.size; first | omega | (simp at hsz; omega))
  have cw3_0_0 : w3.cell? ⟨w.heap.size, 0, none⟩ = some (.int .i64 a) := by (rw [hb.cell (by first | omega | (simp; done) | (simp; omega))]; first | assumption | (simp; done) | (simp [*]; done) | simp [go_sem, *])
  have cw3_0_1 : w3.cell? ⟨w.heap.size, 1, none⟩ = some (.int .i64 b) := by (rw [hb.cell (by first | omega | (simp; done) | (simp; omega))]; first | assumption | (simp; done) | (simp [*]; done) | simp [go_sem, *])
  have lw3_1 : w.heap.size + 1 < w3.heap.size := by (have hsz := hb.size; first | omega | (simp at hsz; omega))
  have cw3_1_0 : w3.cell? ⟨w.heap.size + 1, 0, none⟩ = some (.int .i64 c) := by (rw [hb.cell (by first | omega | (simp; done) | (simp; omega))]; first | assumption | (simp; done) | (simp [*]; done) | simp [go_sem, *])
  have cw3_1_1 : w3.cell? ⟨w.heap.size + 1, 1, none⟩ = some (.int .i64 d) := by (rw [hb.cell (by first | omega | (simp; done) | (simp; omega))]; first | assumption | (simp; done) | (simp [*]; done) | simp [go_sem, *])
  have lw3_2 : w.heap.size + 1 + 1 < w3.heap.size := by (have hsz := hb.size; first | omega | (simp at hsz; omega))
  have cw3_2_0 : w3.cell? ⟨w.heap.size + 1 + 1, 0, none⟩ = some (.int .i64 p) := by (rw [hb.cell (by first | omega | (simp; done) | (simp; omega))]; first | assumption | (simp; done) | (simp [*]; done) | simp [go_sem, *])
  have cw3_2_1 : w3.cell? ⟨w.heap.size + 1 + 1, 1, none⟩ = some (.int .i64 q) := by (rw [hb.cell (by first | omega | (simp; done) | (simp; omega))]; first | assumption | (simp; done) | (simp [*]; done) | simp [go_sem, *])
  have lw3_3 : w2.heap.size < w3.heap.size := by (have hsz := hb.size; first | omega | (simp at hsz; omega))
  have cw3_3_0 : w3.cell? ⟨w2.heap.size, 0, none⟩ = some (.int .i64 x0) := by (rw [hb.cell (by first | omega | (simp; done) | (simp; omega))]; first | assumption | (simp; done) | (simp [*]; done) | simp [go_sem, *])
  have cw3_3_1 : w3.cell? ⟨w2.heap.size, 1, none⟩ = some (.int .i64 x1) := by (rw [hb.cell (by first | omega | (simp; done) | (simp; omega))]; first | assumption | (simp; done) | (simp [*]; done) | simp [go_sem, *])
  have HB3 := Lib.hid (rebase (HB2.out.alloc (by omega) _) hb)
  clear hb HB2 cw2_0_0 cw2_0_1 cw2_1_0 cw2_1_1 cw2_2_0 cw2_2_1 lw2_0 lw2_1
  go_wp2_with fail
  go_ret
  exact ⟨rfl, HB3.out.alloc (by omega) _⟩

set_option maxHeartbeats 1000000 in
theorem walk2 (a b c d p q x0 x1 e1 y0 y1 : Int) (h1 : BothIs a b c d x0 x1 e1) (h2 : BothIs c d p q y0 y1 0) (n1 : (e1 != 0) = true) (v2 : ValidIs y0 y1 true) (w : World) :
    Calls Try.prog 7 #[.agg #[.int .i64 a, .int .i64 b], .agg #[.int .i64 c, .int .i64 d], .agg #[.int .i64 p, .int .i64 q]] w fun e w' => e = .returned (.bool true) ∧ Below w.heap.size w w' := by
  have H1 := Lib.hid h1
  have H2 := Lib.hid h2
  have V2 := Lib.hid v2
  clear h1 h2 v2
  go_enter Try.func7, Try.ntmps7
  go_wp2_with fail
  refine (works_any _).mono ?_
  rintro e w1 ⟨rfl, hb⟩
  have lw1_0 : w.heap.size < w1.heap.size := by (have hsz := hb.size; first | omega | (simp at hsz; omega))
  have cw1_0_0 : w1.cell? ⟨w.heap.size, 0, none⟩ = some (.int .i64 a) := by (rw [hb.cell (by first | omega | (simp; done) | (simp; omega))]; first | assumption | (simp; done) | (simp [*]; done) | simp [go_sem, *])
  have cw1_0_1 : w1.cell? ⟨w.heap.size, 1, none⟩ = some (.int .i64 b) := by (rw [hb.cell (by first | omega | (simp; done) | (simp; omega))]; first | assumption | (simp; done) | (simp [*]; done) | simp [go_sem, *])
  have lw1_1 : w.heap.size + 1 < w1.heap.size := by (have hsz := hb.size; first | omega | (simp at hsz; omega))
  have cw1_1_0 : w1.cell? ⟨w.heap.size + 1, 0, none⟩ = some (.int .i64 c) := by (rw [hb.cell (by first | omega | (simp; done) | (simp; omega))]; first | assumption | (simp; done) | (simp [*]; done) | simp [go_sem, *])
  have cw1_1_1 : w1.cell? ⟨w.heap.size + 1, 1, none⟩ = some (.int .i64 d) := by (rw [hb.cell (by first | omega | (simp; done) | (simp; omega))]; first | assumption | (simp; done) | (simp [*]; done) | simp [go_sem, *])
  have lw1_2 : w.heap.size + 1 + 1 < w1.heap.size := by (have hsz := hb.size; first | omega | (simp at hsz; omega))
  have cw1_2_0 : w1.cell? ⟨w.heap.size + 1 + 1, 0, none⟩ = some (.int .i64 p) := by (rw [hb.cell (by first | omega | (simp; done) | (simp; omega))]; first | assumption | (simp; done) | (simp [*]; done) | simp [go_sem, *])
  have cw1_2_1 : w1.cell? ⟨w.heap.size + 1 + 1, 1, none⟩ = some (.int .i64 q) := by (rw [hb.cell (by first | omega | (simp; done) | (simp; omega))]; first | assumption | (simp; done) | (simp [*]; done) | simp [go_sem, *])
  have HB1 := Lib.hid (rebase ((((Below.refl _ _).alloc (Nat.le_refl _) _).alloc (by simp) _).alloc (by simp; omega) _) hb)
  clear hb
  go_wp2_with fail
  refine (H1.out _).mono ?_
  rintro e w2 ⟨rfl, hb⟩
  have lw2_0 : w.heap.size < w2.heap.size := by (have hsz := hb.size; first | omega | (simp at hsz; omega))
  have cw2_0_0 : w2.cell? ⟨w.heap.size, 0, none⟩ = some (.int .i64 a) := by (rw [hb.cell (by first | omega | (simp; done) | (simp; omega))]; first | assumption | (simp; done) | (simp [*]; done) | simp [go_sem, *])
  have cw2_0_1 : w2.cell? ⟨w.heap.size, 1, none⟩ = some (.int .i64 b) := by (rw [hb.cell (by first | omega | (simp; done) | (simp; omega))]; first | assumption | (simp; done) | (simp [*]; done) | simp [go_sem, *])
  have lw2_1 : w.heap.size + 1 < w2.heap.size := by (have hsz := hb.size; first | omega | (simp at hsz; omega))
  have cw2_1_0 : w2.cell? ⟨w.heap.size + 1, 0, none⟩ = some (.int .i64 c) := by (rw [hb.cell (by first | omega | (simp; done) | (simp; omega))]; first | assumption | (simp; done) | (simp [*]; done) | simp [go_sem, *])
  have cw2_1_1 : w2.cell? ⟨w.heap.size + 1, 1, none⟩ = some (.int .i64 d) := by (rw [hb.cell (by first | omega | (simp; done) | (simp; omega))]; first | assumption | (simp; done) | (simp [*]; done) | simp [go_sem, *])
  have lw2_2 : w.heap.size + 1 + 1 < w2.heap.size := by (have hsz := hb.size; first | omega | (simp at hsz; omega))
  have cw2_2_0 : w2.cell? ⟨w.heap.size + 1 + 1, 0, none⟩ = some (.int .i64 p) := by (rw [hb.cell (by first | omega | (simp; done) | (simp; omega))]; first | assumption | (simp; done) | (simp [*]; done) | simp [go_sem, *])
  have cw2_2_1 : w2.cell? ⟨w.heap.size + 1 + 1, 1, none⟩ = some (.int .i64 q) := by (rw [hb.cell (by first | omega | (simp; done) | (simp; omega))]; first | assumption | (simp; done) | (simp [*]; done) | simp [go_sem, *])
  have HB2 := Lib.hid (rebase HB1.out hb)
  clear hb HB1 cw1_0_0 cw1_0_1 cw1_1_0 cw1_1_1 cw1_2_0 cw1_2_1 lw1_0 lw1_1 lw1_2
  go_wp2_with fail
  refine (H2.out _).mono ?_
  rintro e w3 ⟨rfl, hb⟩
  have lw3_0 : w.heap.size < w3.heap.size := by (have hsz := hb.size; first | omega | (simp at hsz; omega))
  have cw3_0_0 : w3.cell? ⟨w.heap.size, 0, none⟩ = some (.int .i64 a) := by (rw [hb.cell (by first | omega | (simp; done) | (simp; omega))]; first | assumption | (simp; done) | (simp [*]; done) | simp [go_sem, *])
  have cw3_0_1 : w3.cell? ⟨w.heap.size, 1, none⟩ = some (.int .i64 b) := by (rw [hb.cell (by first | omega | (simp; done) | (simp; omega))]; first | assumption | (simp; done) | (simp [*]; done) | simp [go_sem, *])
  have lw3_1 : w.heap.size + 1 < w3.heap.size := by (have hsz := hb.size; first | omega | (simp at hsz; omega))
  have cw3_1_0 : w3.cell? ⟨w.heap.size + 1, 0, none⟩ = some (.int .i64 c) := by (rw [hb.cell (by first | omega | (simp; done) | (simp; omega))]; first | assumption | (simp; done) | (simp [*]; done) | simp [go_sem, *])
  have cw3_1_1 : w3.cell? ⟨w.heap.size + 1, 1, none⟩ = some (.int .i64 d) := by (rw [hb.cell (by first | omega | (simp; done) | (simp; omega))]; first | assumption | (simp; done) | (simp [*]; done) | simp [go_sem, *])
  have lw3_2 : w.heap.size + 1 + 1 < w3.heap.size := by (have hsz := hb.size; first | omega | (simp at hsz; omega))
  have cw3_2_0 : w3.cell? ⟨w.heap.size + 1 + 1, 0, none⟩ = some (.int .i64 p) := by (rw [hb.cell (by first | omega | (simp; done) | (simp; omega))]; first | assumption | (simp; done) | (simp [*]; done) | simp [go_sem, *])
  have cw3_2_1 : w3.cell? ⟨w.heap.size + 1 + 1, 1, none⟩ = some (.int .i64 q) := by (rw [hb.cell (by first | omega | (simp; done) | (simp; omega))]; first | assumption | (simp; done) | (simp [*]; done) | simp [go_sem, *])
  have lw3_3 : w2.heap.size < w3.heap.size := by (have hsz := hb.size; first | omega | (simp at hsz; omega))
  have cw3_3_0 : w3.cell? ⟨w2.heap.size, 0, none⟩ = some (.int .i64 x0) := by (rw [hb.cell (by first | omega | (simp; done) | (simp; omega))]; first | assumption | (simp; done) | (simp [*]; done) | simp [go_sem, *])
  have cw3_3_1 : w3.cell? ⟨w2.heap.size, 1, none⟩ = some (.int .i64 x1) := by (rw [hb.cell (by first | omega | (simp; done) | (simp; omega))]; first | assumption | (simp; done) | (simp [*]; done) | simp [go_sem, *])
  have HB3 := Lib.hid (rebase (HB2.out.alloc (by omega) _) hb)
  clear hb HB2 cw2_0_0 cw2_0_1 cw2_1_0 cw2_1_1 cw2_2_0 cw2_2_1 lw2_0 lw2_1
  go_wp2_with fail
  refine (V2.out _).mono ?_
  rintro e w4 ⟨rfl, hb⟩
  have HB4 := Lib.hid (rebase (HB3.out.alloc (by omega) _) hb)
  go_wp2_with fail
  go_ret
  exact ⟨rfl, HB4.out⟩

set_option maxHeartbeats 1000000 in
theorem walk3 (a b c d p q x0 x1 y0 y1 e2 : Int) (h1 : BothIs a b c d x0 x1 0) (h2 : BothIs c d p q y0 y1 e2) (n2 : (e2 != 0) = true) (v1 : ValidIs x0 x1 true) (w : World) :
    Calls Try.prog 7 #[.agg #[.int .i64 a, .int .i64 b], .agg #[.int .i64 c, .int .i64 d], .agg #[.int .i64 p, .int .i64 q]] w fun e w' => e = .returned (.bool true) ∧ Below w.heap.size w w' := by
  have H1 := Lib.hid h1
  have H2 := Lib.hid h2
  have V1 := Lib.hid v1
  clear h1 h2 v1
  go_enter Try.func7, Try.ntmps7
  go_wp2_with fail
  refine (works_any _).mono ?_
  rintro e w1 ⟨rfl, hb⟩
  have lw1_0 : w.heap.size < w1.heap.size := by (have hsz := hb.size; first | omega | (simp at hsz; omega))
  have cw1_0_0 : w1.cell? ⟨w.heap.size, 0, none⟩ = some (.int .i64 a) := by (rw [hb.cell (by first | omega | (simp; done) | (simp; omega))]; first | assumption | (simp; done) | (simp [*]; done) | simp [go_sem, *])
  have cw1_0_1 : w1.cell? ⟨w.heap.size, 1, none⟩ = some (.int .i64 b) := by (rw [hb.cell (by first | omega | (simp; done) | (simp; omega))]; first | assumption | (simp; done) | (simp [*]; done) | simp [go_sem, *])
  have lw1_1 : w.heap.size + 1 < w1.heap.size := by (have hsz := hb.size; first | omega | (simp at hsz; omega))
  have cw1_1_0 : w1.cell? ⟨w.heap.size + 1, 0, none⟩ = some (.int .i64 c) := by (rw [hb.cell (by first | omega | (simp; done) | (simp; omega))]; first | assumption | (simp; done) | (simp [*]; done) | simp [go_sem, *])
  have cw1_1_1 : w1.cell? ⟨w.heap.size + 1, 1, none⟩ = some (.int .i64 d) := by (rw [hb.cell (by first | omega | (simp; done) | (simp; omega))]; first | assumption | (simp; done) | (simp [*]; done) | simp [go_sem, *])
  have lw1_2 : w.heap.size + 1 + 1 < w1.heap.size := by (have hsz := hb.size; first | omega | (simp at hsz; omega))
  have cw1_2_0 : w1.cell? ⟨w.heap.size + 1 + 1, 0, none⟩ = some (.int .i64 p) := by (rw [hb.cell (by first | omega | (simp; done) | (simp; omega))]; first | assumption | (simp; done) | (simp [*]; done) | simp [go_sem, *])
  have cw1_2_1 : w1.cell? ⟨w.heap.size + 1 + 1, 1, none⟩ = some (.int .i64 q) := by (rw [hb.cell (by first | omega | (simp; done) | (simp; omega))]; first | assumption | (simp; done) | (simp [*]; done) | simp [go_sem, *])
  have HB1 := Lib.hid (rebase ((((Below.refl _ _).alloc (Nat.le_refl _) _).alloc (by simp) _).alloc (by simp; omega) _) hb)
  clear hb
  go_wp2_with fail
  refine (H1.out _).mono ?_
  rintro e w2 ⟨rfl, hb⟩
  have lw2_0 : w.heap.size < w2.heap.size := by (have hsz := hb.size; first | omega | (simp at hsz; omega))
  have cw2_0_0 : w2.cell? ⟨w.heap.size, 0, none⟩ = some (.int .i64 a) := by (rw [hb.cell (by first | omega | (simp; done) | (simp; omega))]; first | assumption | (simp; done) | (simp [*]; done) | simp [go_sem, *])
  have cw2_0_1 : w2.cell? ⟨w.heap.size, 1, none⟩ = some (.int .i64 b) := by (rw [hb.cell (by first | omega | (simp; done) | (simp; omega))]; first | assumption | (simp; done) | (simp [*]; done) | simp [go_sem, *])
  have lw2_1 : w.heap.size + 1 < w2.heap.size := by (have hsz := hb.size; first | omega | (simp at hsz; omega))
  have cw2_1_0 : w2.cell? ⟨w.heap.size + 1, 0, none⟩ = some (.int .i64 c) := by (rw [hb.cell (by first | omega | (simp; done) | (simp; omega))]; first | assumption | (simp; done) | (simp [*]; done) | simp [go_sem, *])
  have cw2_1_1 : w2.cell? ⟨w.heap.size + 1, 1, none⟩ = some (.int .i64 d) := by (rw [hb.cell (by first | omega | (simp; done) | (simp; omega))]; first | assumption | (simp; done) | (simp [*]; done) | simp [go_sem, *])
  have lw2_2 : w.heap.size + 1 + 1 < w2.heap.size := by (have hsz := hb.size; first | omega | (simp at hsz; omega))
  have cw2_2_0 : w2.cell? ⟨w.heap.size + 1 + 1, 0, none⟩ = some (.int .i64 p) := by (rw [hb.cell (by first | omega | (simp; done) | (simp; omega))]; first | assumption | (simp; done) | (simp [*]; done) | simp [go_sem, *])
  have cw2_2_1 : w2.cell? ⟨w.heap.size + 1 + 1, 1, none⟩ = some (.int .i64 q) := by (rw [hb.cell (by first | omega | (simp; done) | (simp; omega))]; first | assumption | (simp; done) | (simp [*]; done) | simp [go_sem, *])
  have HB2 := Lib.hid (rebase HB1.out hb)
  clear hb HB1 cw1_0_0 cw1_0_1 cw1_1_0 cw1_1_1 cw1_2_0 cw1_2_1 lw1_0 lw1_1 lw1_2
  go_wp2_with fail
  refine (H2.out _).mono ?_
  rintro e w3 ⟨rfl, hb⟩
  have lw3_0 : w.heap.size < w3.heap.size := by (have hsz := hb.size; first | omega | (simp at hsz; omega))
  have cw3_0_0 : w3.cell? ⟨w.heap.size, 0, none⟩ = some (.int .i64 a) := by (rw [hb.cell (by first | omega | (simp; done) | (simp; omega))]; first | assumption | (simp; done) | (simp [*]; done) | simp [go_sem, *])
  have cw3_0_1 : w3.cell? ⟨w.heap.size, 1, none⟩ = some (.int .i64 b) := by (rw [hb.cell (by first | omega | (simp; done) | (simp; omega))]; first | assumption | (simp; done) | (simp [*]; done) | simp [go_sem, *])
  have lw3_1 : w.heap.size + 1 < w3.heap.size := by (have hsz := hb.size; first | omega | (simp at hsz; omega))
  have cw3_1_0 : w3.cell? ⟨w.heap.size + 1, 0, none⟩ = some (.int .i64 c) := by (rw [hb.cell (by first | omega | (simp; done) | (simp; omega))]; first | assumption | (simp; done) | (simp [*]; done) | simp [go_sem, *])
  have cw3_1_1 : w3.cell? ⟨w.heap.size + 1, 1, none⟩ = some (.int .i64 d) := by (rw [hb.cell (by first | omega | (simp; done) | (simp; omega))]; first | assumption | (simp; done) | (simp [*]; done) | simp [go_sem, *])
  have lw3_2 : w.heap.size + 1 + 1 < w3.heap.size := by (have hsz := hb.size; first | omega | (simp at hsz; omega))
  have cw3_2_0 : w3.cell? ⟨w.heap.size + 1 + 1, 0, none⟩ = some (.int .i64 p) := by (rw [hb.cell (by first | omega | (simp; done) | (simp; omega))]; first | assumption | (simp; done) | (simp [*]; done) | simp [go_sem, *])
  have cw3_2_1 : w3.cell? ⟨w.heap.size + 1 + 1, 1, none⟩ = some (.int .i64 q) := by (rw [hb.cell (by first | omega | (simp; done) | (simp; omega))]; first | assumption | (simp; done) | (simp [*]; done) | simp [go_sem, *])
  have lw3_3 : w2.heap.size < w3.heap.size := by (have hsz := hb.size; first | omega | (simp at hsz; omega))
  have cw3_3_0 : w3.cell? ⟨w2.heap.size, 0, none⟩ = some (.int .i64 x0) := by (rw [hb.cell (by first | omega | (simp; done) | (simp; omega))]; first | assumption | (simp; done) | (simp [*]; done) | simp [go_sem, *])
  have cw3_3_1 : w3.cell? ⟨w2.heap.size, 1, none⟩ = some (.int .i64 x1) := by (rw [hb.cell (by first | omega | (simp; done) | (simp; omega))]; first | assumption | (simp; done) | (simp [*]; done) | simp [go_sem, *])
  have HB3 := Lib.hid (rebase (HB2.out.alloc (by omega) _) hb)
  clear hb HB2 cw2_0_0 cw2_0_1 cw2_1_0 cw2_1_1 cw2_2_0 cw2_2_1 lw2_0 lw2_1
  go_wp2_with fail
  refine (V1.out _).mono ?_
  rintro e w4 ⟨rfl, hb⟩
  have HB4 := Lib.hid (rebase (HB3.out.alloc (by omega) _) hb)
  go_wp2_with fail
  go_ret
  exact ⟨rfl, HB4.out⟩

set_option maxHeartbeats 1000000 in
theorem walk4 (a b c d p q x0 x1 y0 y1 z0 z1 e3 : Int) (h1 : BothIs a b c d x0 x1 0) (h2 : BothIs c d p q y0 y1 0) (h3 : BothIs x0 x1 p q z0 z1 e3) (h4 : BothIs a b y0 y1 z0 z1 e3) (w : World) :
    Calls Try.prog 7 #[.agg #[.int .i64 a, .int .i64 b], .agg #[.int .i64 c, .int .i64 d], .agg #[.int .i64 p, .int .i64 q]] w fun e w' => e = .returned (.bool true) ∧ Below w.heap.size w w' := by
  have H1 := Lib.hid h1
  have H2 := Lib.hid h2
  have H3 := Lib.hid h3
  have H4 := Lib.hid h4
  clear h1 h2 h3 h4
  go_enter Try.func7, Try.ntmps7
  go_wp2_with fail
  refine (works_any _).mono ?_
  rintro e w1 ⟨rfl, hb⟩
  have lw1_0 : w.heap.size < w1.heap.size := by (have hsz := hb.size; first | omega | (simp at hsz; omega))
  have cw1_0_0 : w1.cell? ⟨w.heap.size, 0, none⟩ = some (.int .i64 a) := by (rw [hb.cell (by first | omega | (simp; done) | (simp; omega))]; first | assumption | (simp; done) | (simp [*]; done) | simp [go_sem, *])
  have cw1_0_1 : w1.cell? ⟨w.heap.size, 1, none⟩ = some (.int .i64 b) := by (rw [hb.cell (by first | omega | (simp; done) | (simp; omega))]; first | assumption | (simp; done) | (simp [*]; done) | simp [go_sem, *])
  have lw1_1 : w.heap.size + 1 < w1.heap.size := by (have hsz := hb.size; first | omega | (simp at hsz; omega))
  have cw1_1_0 : w1.cell? ⟨w.heap.size + 1, 0, none⟩ = some (.int .i64 c) := by (rw [hb.cell (by first | omega | (simp; done) | (simp; omega))]; first | assumption | (simp; done) | (simp [*]; done) | simp [go_sem, *])
  have cw1_1_1 : w1.cell? ⟨w.heap.size + 1, 1, none⟩ = some (.int .i64 d) := by (rw [hb.cell (by first | omega | (simp; done) | (simp; omega))]; first | assumption | (simp; done) | (simp [*]; done) | simp [go_sem, *])
  have lw1_2 : w.heap.size + 1 + 1 < w1.heap.size := by (have hsz := hb.size; first | omega | (simp at hsz; omega))
  have cw1_2_0 : w1.cell? ⟨w.heap.size + 1 + 1, 0, none⟩ = some (.int .i64 p) := by (rw [hb.cell (by first | omega | (simp; done) | (simp; omega))]; first | assumption | (simp; done) | (simp [*]; done) | simp [go_sem, *])
  have cw1_2_1 : w1.cell? ⟨w.heap.size + 1 + 1, 1, none⟩ = some (.int .i64 q) := by (rw [hb.cell (by first | omega | (simp; done) | (simp; omega))]; first | assumption | (simp; done) | (simp [*]; done) | simp [go_sem, *])
  have HB1 := Lib.hid (rebase ((((Below.refl _ _).alloc (Nat.le_refl _) _).alloc (by simp) _).alloc (by simp; omega) _) hb)
  clear hb
  go_wp2_with fail
  refine (H1.out _).mono ?_
  rintro e w2 ⟨rfl, hb⟩
  have lw2_0 : w.heap.size < w2.heap.size := by (have hsz := hb.size; first | omega | (simp at hsz; omega))
  have cw2_0_0 : w2.cell? ⟨w.heap.size, 0, none⟩ = some (.int .i64 a) := by (rw [hb.cell (by first | omega | (simp; done) | (simp; omega))]; first | assumption | (simp; done) | (simp [*]; done) | simp [go_sem, *])
  have cw2_0_1 : w2.cell? ⟨w.heap.size, 1, none⟩ = some (.int .i64 b) := by (rw [hb.cell (by first | omega | (simp; done) | (simp; omega))]; first | assumption | (simp; done) | (simp [*]; done) | simp [go_sem, *])
  have lw2_1 : w.heap.size + 1 < w2.heap.size := by (have hsz := hb.size; first | omega | (simp at hsz; omega))
  have cw2_1_0 : w2.cell? ⟨w.heap.size + 1, 0, none⟩ = some (.int .i64 c) := by (rw [hb.cell (by first | omega | (simp; done) | (simp; omega))]; first | assumption | (simp; done) | (simp [*]; done) | simp [go_sem, *])
  have cw2_1_1 : w2.cell? ⟨w.heap.size + 1, 1, none⟩ = some (.int .i64 d) := by (rw [hb.cell (by first | omega | (simp; done) | (simp; omega))]; first | assumption | (simp; done) | (simp [*]; done) | simp [go_sem, *])
  have lw2_2 : w.heap.size + 1 + 1 < w2.heap.size := by (have hsz := hb.size; first | omega | (simp at hsz; omega))
  have cw2_2_0 : w2.cell? ⟨w.heap.size + 1 + 1, 0, none⟩ = some (.int .i64 p) := by (rw [hb.cell (by first | omega | (simp; done) | (simp; omega))]; first | assumption | (simp; done) | (simp [*]; done) | simp [go_sem, *])
  have cw2_2_1 : w2.cell? ⟨w.heap.size + 1 + 1, 1, none⟩ = some (.int .i64 q) := by (rw [hb.cell (by first | omega | (simp; done) | (simp; omega))]; first | assumption | (simp; done) | (simp [*]; done) | simp [go_sem, *])
  have HB2 := Lib.hid (rebase HB1.out hb)
  clear hb HB1 cw1_0_0 cw1_0_1 cw1_1_0 cw1_1_1 cw1_2_0 cw1_2_1 lw1_0 lw1_1 lw1_2
  go_wp2_with fail
  refine (H2.out _).mono ?_
  rintro e w3 ⟨rfl, hb⟩
  have lw3_0 : w.heap.size < w3.heap.size := by (have hsz := hb.size; first | omega | (simp at hsz; omega))
  have cw3_0_0 : w3.cell? ⟨w.heap.size, 0, none⟩ = some (.int .i64 a) := by (rw [hb.cell (by first | omega | (simp; done) | (simp; omega))]; first | assumption | (simp; done) | (simp [*]; done) | simp [go_sem, *])
  have cw3_0_1 : w3.cell? ⟨w.heap.size, 1, none⟩ = some (.int .i64 b) := by (rw [hb.cell (by first | omega | (simp; done) | (simp; omega))]; first | assumption | (simp; done) | (simp [*]; done) | simp [go_sem, *])
  have lw3_1 : w.heap.size + 1 < w3.heap.size := by (have hsz := hb.size; first | omega | (simp at hsz; omega))
  have cw3_1_0 : w3.cell? ⟨w.heap.size + 1, 0, none⟩ = some (.int .i64 c) := by (rw [hb.cell (by first | omega | (simp; done) | (simp; omega))]; first | assumption | (simp; done) | (simp [*]; done) | simp [go_sem, *])
  have cw3_1_1 : w3.cell? ⟨w.heap.size + 1, 1, none⟩ = some (.int .i64 d) := by (rw [hb.cell (by first | omega | (simp; done) | (simp; omega))]; first | assumption | (simp; done) | (simp [*]; done) | simp [go_sem, *])
  have lw3_2 : w.heap.size + 1 + 1 < w3.heap.size := by (have hsz := hb.size; first | omega | (simp at hsz; omega))
  have cw3_2_0 : w3.cell? ⟨w.heap.size + 1 + 1, 0, none⟩ = some (.int .i64 p) := by (rw [hb.cell (by first | omega | (simp; done) | (simp; omega))]; first | assumption | (simp; done) | (simp [*]; done) | simp [go_sem, *])
  have cw3_2_1 : w3.cell? ⟨w.heap.size + 1 + 1, 1, none⟩ = some (.int .i64 q) := by (rw [hb.cell (by first | omega | (simp; done) | (simp; omega))]; first | assumption | (simp; done) | (simp [*]; done) | simp [go_sem, *])
  have lw3_3 : w2.heap.size < w3.heap.size := by (have hsz := hb.size; first | omega | (simp at hsz; omega))
  have cw3_3_0 : w3.cell? ⟨w2.heap.size, 0, none⟩ = some (.int .i64 x0) := by (rw [hb.cell (by first | omega | (simp; done) | (simp; omega))]; first | assumption | (simp; done) | (simp [*]; done) | simp [go_sem, *])
  have cw3_3_1 : w3.cell? ⟨w2.heap.size, 1, none⟩ = some (.int .i64 x1) := by (rw [hb.cell (by first | omega | (simp; done) | (simp; omega))]; first | assumption | (simp; done) | (simp [*]; done) | simp [go_sem, *])
  have HB3 := Lib.hid (rebase (HB2.out.alloc (by omega) _) hb)
  clear hb HB2 cw2_0_0 cw2_0_1 cw2_1_0 cw2_1_1 cw2_2_0 cw2_2_1 lw2_0 lw2_1
  go_wp2_with fail
  refine (H3.out _).mono ?_
  rintro e w4 ⟨rfl, hb⟩
  have lw4_0 : w.heap.size < w4.heap.size := by (have hsz := hb.size; first | omega | (simp at hsz; omega))
  have cw4_0_0 : w4.cell? ⟨w.heap.size, 0, none⟩ = some (.int .i64 a) := by (rw [hb.cell (by first | omega | (simp; done) | (simp; omega))]; first | assumption | (simp; done) | (simp [*]; done) | simp [go_sem, *])
  have cw4_0_1 : w4.cell? ⟨w.heap.size, 1, none⟩ = some (.int .i64 b) := by (rw [hb.cell (by first | omega | (simp; done) | (simp; omega))]; first | assumption | (simp; done) | (simp [*]; done) | simp [go_sem, *])
  have lw4_1 : w3.heap.size < w4.heap.size := by (have hsz := hb.size; first | omega | (simp at hsz; omega))
  have cw4_1_0 : w4.cell? ⟨w3.heap.size, 0, none⟩ = some (.int .i64 y0) := by (rw [hb.cell (by first | omega | (simp; done) | (simp; omega))]; first | assumption | (simp; done) | (simp [*]; done) | simp [go_sem, *])
  have cw4_1_1 : w4.cell? ⟨w3.heap.size, 1, none⟩ = some (.int .i64 y1) := by (rw [hb.cell (by first | omega | (simp; done) | (simp; omega))]; first | assumption | (simp; done) | (simp [*]; done) | simp [go_sem, *])
  have HB4 := Lib.hid (rebase (HB3.out.alloc (by omega) _) hb)
  clear hb HB3
  go_wp2_with fail
  refine (H4.out _).mono ?_
  rintro e w5 ⟨rfl, hb⟩
  have lw5_0 : w4.heap.size < w5.heap.size := by (have hsz := hb.size; first | omega | (simp at hsz; omega))
  have cw5_0_0 : w5.cell? ⟨w4.heap.size, 0, none⟩ = some (.int .i64 z0) := by (rw [hb.cell (by first | omega | (simp; done) | (simp; omega))]; first | assumption | (simp; done) | (simp [*]; done) | simp [go_sem, *])
  have cw5_0_1 : w5.cell? ⟨w4.heap.size, 1, none⟩ = some (.int .i64 z1) := by (rw [hb.cell (by first | omega | (simp; done) | (simp; omega))]; first | assumption | (simp; done) | (simp [*]; done) | simp [go_sem, *])
  have HB5 := Lib.hid (rebase (HB4.out.alloc (by omega) _) hb)
  clear hb HB4
  go_wp2_with fail
  go_ret
  exact ⟨rfl, HB5.out.alloc (by omega) _⟩

theorem walk (a b c d p q : Int) (w : World) :
    Calls Try.prog 7 #[.agg #[.int .i64 a, .int .i64 b], .agg #[.int .i64 c, .int .i64 d], .agg #[.int .i64 p, .int .i64 q]] w fun e w' => e = .returned (.bool true) ∧ Below w.heap.size w w' := by
  have h1 := both_self a b c d
  have h2 := both_self c d p q
  by_cases z1 : (bothF a b c d).2.2 = 0
  · have v1 := bothF_valid _ _ _ _ z1
    by_cases z2 : (bothF c d p q).2.2 = 0
    · have h3 := both_self (bothF a b c d).1 (bothF a b c d).2.1 p q
      have h4 := both_self a b (bothF c d p q).1 (bothF c d p q).2.1
      rw [← bothF_three a b c d p q z1 z2] at h4
      rw [z1] at h1
      rw [z2] at h2
      exact walk4 a b c d p q _ _ _ _ _ _ _ h1 h2 h3 h4 w
    · rw [z1] at h1
      exact walk3 a b c d p q _ _ _ _ _ h1 h2 (by simpa using z2) (valid_is v1) w
  · by_cases z2 : (bothF c d p q).2.2 = 0
    · have v2 := bothF_valid _ _ _ _ z2
      rw [z2] at h2
      exact walk2 a b c d p q _ _ _ _ _ h1 h2 (by simpa using z1) (valid_is v2) w
    · exact walk1 a b c d p q _ _ _ _ _ _ h1 h2 (by simpa using z1) (by simpa using z2) w

set_option maxRecDepth 100000 in
theorem lifted (os : Os) (started : os.Started) (H : Type) (enc : TypeId × Value → H) :
    ReturnsInHanded {} Try.checked os 7 .any (Rows.spanThreeSpec.pre6 enc Try.prog Try.f7 Rows.spanThreeRow.domain false) (Rows.spanThreeSpec.post enc Try.prog Try.f7 false true false false) := by
  refine returnsInHanded_of_change (C := Try.checked) ownTry started (by kernel_rfl) Try.func7
    (ChangeSpec.witness6 (enc := enc) (C := Try.checked) false ⟨#[], #[.agg #[.int .i64 0, .int .i64 0], .agg #[.int .i64 0, .int .i64 0], .agg #[.int .i64 0, .int .i64 0]], []⟩ 8 (by kernel_rfl) (by kernel_rfl) (by kernel_rfl) (by kernel_rfl)) ?_
  intro W base args ds gs before hval0 hW _ _
  have hval : ∀ (j : Nat) t v, Try.f7.params[j]? = some t → args[j]? = some v → Value.okWide Try.prog W .any base t v := hval0
  have hW' := hW
  obtain ⟨p, q, hA0, hV, rfl, _, _⟩ := hW
  have hA : DataW.TrodAll enc Try.prog W 0 (fun _ => true) true Try.f7.params.toList args.toList ds p := hA0
  rw [Try.params7] at hA hval
  obtain ⟨v0, vs0, d0, ds0, p0, q0, hargs, rfl, rfl, h0, r0⟩ := trodAll_cons hA
  obtain ⟨v1, vs1, d1, ds1, p1, q1, rfl, rfl, rfl, h1, r1⟩ := trodAll_cons r0
  obtain ⟨v2, vs2, d2, ds2, p2, q2, rfl, rfl, rfl, h2, r2⟩ := trodAll_cons r1
  obtain ⟨rfl, rfl, rfl⟩ := trodAll_nil r2
  obtain rfl : args = #[v0, v1, v2] := by cases args; simp_all
  obtain ⟨rfl, rfl⟩ := trodVars_none hV
  obtain ⟨a0, b0, rfl⟩ := open_span (hval 0 _ v0 rfl rfl) h0
  obtain ⟨a1, b1, rfl⟩ := open_span (hval 1 _ v1 rfl rfl) h1
  obtain ⟨a2, b2, rfl⟩ := open_span (hval 2 _ v2 rfl rfl) h2
  refine (walk a0 b0 a1 b1 a2 b2 W).mono fun e W' ⟨he, hb⟩ => ?_
  subst he
  exact ⟨_, rfl, law_post (by kernel_rfl) (by kernel_rfl) (by kernel_rfl) Try.underlying4 rfl rfl hW' hb⟩

theorem over : Rows.spanThreeRow.holds Try.pinned (OpenSpec.ofChange Rows.spanThreeSpec) :=
  OpenClaim.holds_of_wide 7 Try.f7 rfl rfl rfl rfl rfl rfl rfl ⟨rfl, rfl, rfl, rfl, rfl⟩ rfl rfl rfl rfl rfl (by kernel_rfl) Try.func7 (by kernel_rfl)
    (of_decide_eq_true (by kernel_rfl)) (by unfold Func.isWrapper; first | (rw [if_pos (by decide +kernel)]; kernel_rfl) | (rw [if_neg (by decide +kernel)]; exact ⟨rfl, rfl⟩))
    (fun os started H enc _ => lifted os started H enc)

/-- The statement. -/
theorem proved : Rows.SpanThreeSaid := over
#print axioms proved
end Go.Proofs.Ytjoipdjdonakeaa.three
