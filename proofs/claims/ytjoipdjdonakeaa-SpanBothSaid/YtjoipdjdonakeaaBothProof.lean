/- SpanBoth: for every two spans and every time the function returns true and its arguments read as before. No condition. -/
import Derived.Test.YtjoipdjdonakeaaRows
import Derived.Test.YtjoipdjdonakeaaLaw
import Derived.Lib.SmallJoins
import Derived.Test.YtjoipdjdonakeaaWg
import Derived.Test.YtjoipdjdonakeaaOp
namespace Go.Proofs.Ytjoipdjdonakeaa.both
open Go.ChangeShapes Go.WideShapes Go.ChangeAt Go.RowKit Go.Joins


set_option maxHeartbeats 1000000 in
theorem walk1 (a b c d n x y z : Int) (h1 : BothIs a b c d x y z) (h2 : BothIs c d a b x y z) (v1 : ValidIs a b false) (w : World) :
    Calls Try.prog 4 #[.agg #[.int .i64 a, .int .i64 b], .agg #[.int .i64 c, .int .i64 d], .int .i64 n] w fun e w' => e = .returned (.bool true) ∧ Below w.heap.size w w' := by
  have H1 := Lib.hid h1
  have H2 := Lib.hid h2
  have V1 := Lib.hid v1
  clear h1 h2 v1
  go_enter Try.func4, Try.ntmps4
  go_wp2_with fail
  refine (works_any _).mono ?_
  rintro e w1 ⟨rfl, hb⟩
  have lw1_0 : w.heap.size < w1.heap.size := by (have hsz := hb.size; first | omega | (simp at hsz; omega))
  have cw1_0_0 : w1.cell? ⟨w.heap.size, 0, none⟩ = some (.int .i64 a) := by (rw [hb.cell (by first | omega | (simp; done) | (simp; omega))]; first | assumption | (simp; done) | (simp [*]; done) | simp [go_sem, *])
  have cw1_0_1 : w1.cell? ⟨w.heap.size, 1, none⟩ = some (.int .i64 b) := by (rw [hb.cell (by first | omega | (simp; done) | (simp; omega))]; first | assumption | (simp; done) | (simp [*]; done) | simp [go_sem, *])
  have lw1_1 : w.heap.size + 1 < w1.heap.size := by (have hsz := hb.size; first | omega | (simp at hsz; omega))
  have cw1_1_0 : w1.cell? ⟨w.heap.size + 1, 0, none⟩ = some (.int .i64 c) := by (rw [hb.cell (by first | omega | (simp; done) | (simp; omega))]; first | assumption | (simp; done) | (simp [*]; done) | simp [go_sem, *])
  have cw1_1_1 : w1.cell? ⟨w.heap.size + 1, 1, none⟩ = some (.int .i64 d) := by (rw [hb.cell (by first | omega | (simp; done) | (simp; omega))]; first | assumption | (simp; done) | (simp [*]; done) | simp [go_sem, *])
  have HB1 := Lib.hid (rebase (((Below.refl _ _).alloc (Nat.le_refl _) _).alloc (by simp) _) hb)
  clear hb
  go_wp2_with fail
  refine (H1.out _).mono ?_
  rintro e w2 ⟨rfl, hb⟩
  have lw2_0 : w.heap.size < w2.heap.size := by (have hsz := hb.size; first | omega | (simp at hsz; omega))
  have cw2_0_0 : w2.cell? ⟨w.heap.size, 0, none⟩ = some (.int .i64 a) := by (rw [hb.cell (by first | omega | (simp; done) | (simp; omega))]; first | assumption | (simp; done) | (simp [*]; done) | simp [go_sem, *])
  have cw2_0_1 : w2.cell? ⟨w.heap.size, 1, none⟩ = some (.int .i64 b) := by (rw [hb.cell (by first | omega | (simp; done) | (simp; omega))]; first | assumption | (simp; done) | (simp [*]; done) | simp [go_sem, *])
  have lw2_1 : w.heap.size + 1 < w2.heap.size := by (have hsz := hb.size; first | omega | (simp at hsz; omega))
  have cw2_1_0 : w2.cell? ⟨w.heap.size + 1, 0, none⟩ = some (.int .i64 c) := by (rw [hb.cell (by first | omega | (simp; done) | (simp; omega))]; first | assumption | (simp; done) | (simp [*]; done) | simp [go_sem, *])
  have cw2_1_1 : w2.cell? ⟨w.heap.size + 1, 1, none⟩ = some (.int .i64 d) := by (rw [hb.cell (by first | omega | (simp; done) | (simp; omega))]; first | assumption | (simp; done) | (simp [*]; done) | simp [go_sem, *])
  have HB2 := Lib.hid (rebase HB1.out hb)
  clear hb HB1 cw1_0_0 cw1_0_1 cw1_1_0 cw1_1_1 lw1_0 lw1_1
  go_wp2_with fail
  refine (H2.out _).mono ?_
  rintro e w3 ⟨rfl, hb⟩
  have lw3_0 : w.heap.size < w3.heap.size := by (have hsz := hb.size; first | omega | (simp at hsz; omega))
  have cw3_0_0 : w3.cell? ⟨w.heap.size, 0, none⟩ = some (.int .i64 a) := by (rw [hb.cell (by first | omega | (simp; done) | (simp; omega))]; first | assumption | (simp; done) | (simp [*]; done) | simp [go_sem, *])
  have cw3_0_1 : w3.cell? ⟨w.heap.size, 1, none⟩ = some (.int .i64 b) := by (rw [hb.cell (by first | omega | (simp; done) | (simp; omega))]; first | assumption | (simp; done) | (simp [*]; done) | simp [go_sem, *])
  have lw3_1 : w.heap.size + 1 < w3.heap.size := by (have hsz := hb.size; first | omega | (simp at hsz; omega))
  have cw3_1_0 : w3.cell? ⟨w.heap.size + 1, 0, none⟩ = some (.int .i64 c) := by (rw [hb.cell (by first | omega | (simp; done) | (simp; omega))]; first | assumption | (simp; done) | (simp [*]; done) | simp [go_sem, *])
  have cw3_1_1 : w3.cell? ⟨w.heap.size + 1, 1, none⟩ = some (.int .i64 d) := by (rw [hb.cell (by first | omega | (simp; done) | (simp; omega))]; first | assumption | (simp; done) | (simp [*]; done) | simp [go_sem, *])
  have lw3_2 : w2.heap.size < w3.heap.size := by (have hsz := hb.size; first | omega | (simp at hsz; omega))
  have cw3_2_0 : w3.cell? ⟨w2.heap.size, 0, none⟩ = some (.int .i64 x) := by (rw [hb.cell (by first | omega | (simp; done) | (simp; omega))]; first | assumption | (simp; done) | (simp [*]; done) | simp [go_sem, *])
  have cw3_2_1 : w3.cell? ⟨w2.heap.size, 1, none⟩ = some (.int .i64 y) := by (rw [hb.cell (by first | omega | (simp; done) | (simp; omega))]; first | assumption | (simp; done) | (simp [*]; done) | simp [go_sem, *])
  have HB3 := Lib.hid (rebase (HB2.out.alloc (by omega) _) hb)
  clear hb HB2 cw2_0_0 cw2_0_1 cw2_1_0 cw2_1_1 lw2_0 lw2_1
  go_wp2_with fail
  refine (V1.out _).mono ?_
  rintro e w4 ⟨rfl, hb⟩
  have lw4_0 : w.heap.size < w4.heap.size := by (have hsz := hb.size; first | omega | (simp at hsz; omega))
  have cw4_0_0 : w4.cell? ⟨w.heap.size, 0, none⟩ = some (.int .i64 a) := by (rw [hb.cell (by first | omega | (simp; done) | (simp; omega))]; first | assumption | (simp; done) | (simp [*]; done) | simp [go_sem, *])
  have cw4_0_1 : w4.cell? ⟨w.heap.size, 1, none⟩ = some (.int .i64 b) := by (rw [hb.cell (by first | omega | (simp; done) | (simp; omega))]; first | assumption | (simp; done) | (simp [*]; done) | simp [go_sem, *])
  have lw4_1 : w.heap.size + 1 < w4.heap.size := by (have hsz := hb.size; first | omega | (simp at hsz; omega))
  have cw4_1_0 : w4.cell? ⟨w.heap.size + 1, 0, none⟩ = some (.int .i64 c) := by (rw [hb.cell (by first | omega | (simp; done) | (simp; omega))]; first | assumption | (simp; done) | (simp [*]; done) | simp [go_sem, *])
  have cw4_1_1 : w4.cell? ⟨w.heap.size + 1, 1, none⟩ = some (.int .i64 d) := by (rw [hb.cell (by first | omega | (simp; done) | (simp; omega))]; first | assumption | (simp; done) | (simp [*]; done) | simp [go_sem, *])
  have lw4_2 : w2.heap.size < w4.heap.size := by (have hsz := hb.size; first | omega | (simp at hsz; omega))
  have cw4_2_0 : w4.cell? ⟨w2.heap.size, 0, none⟩ = some (.int .i64 x) := by (rw [hb.cell (by first | omega | (simp; done) | (simp; omega))]; first | assumption | (simp; done) | (simp [*]; done) | simp [go_sem, *])
  have cw4_2_1 : w4.cell? ⟨w2.heap.size, 1, none⟩ = some (.int .i64 y) := by (rw [hb.cell (by first | omega | (simp; done) | (simp; omega))]; first | assumption | (simp; done) | (simp [*]; done) | simp [go_sem, *])
  have HB4 := Lib.hid (rebase (HB3.out.alloc (by omega) _) hb)
  clear hb HB3 cw3_0_0 cw3_0_1 cw3_1_0 cw3_1_1 cw3_2_0 cw3_2_1 lw3_0 lw3_1 lw3_2
  go_wp2_with fail
  go_ret
  exact ⟨rfl, HB4.out⟩

set_option maxHeartbeats 1000000 in
theorem walk2 (a b c d n x y z : Int) (h1 : BothIs a b c d x y z) (h2 : BothIs c d a b x y z) (v1 : ValidIs a b true) (v2 : ValidIs c d false) (w : World) :
    Calls Try.prog 4 #[.agg #[.int .i64 a, .int .i64 b], .agg #[.int .i64 c, .int .i64 d], .int .i64 n] w fun e w' => e = .returned (.bool true) ∧ Below w.heap.size w w' := by
  have V2 := Lib.hid v2
  clear v2
  have H1 := Lib.hid h1
  have H2 := Lib.hid h2
  have V1 := Lib.hid v1
  clear h1 h2 v1
  go_enter Try.func4, Try.ntmps4
  go_wp2_with fail
  refine (works_any _).mono ?_
  rintro e w1 ⟨rfl, hb⟩
  have lw1_0 : w.heap.size < w1.heap.size := by (have hsz := hb.size; first | omega | (simp at hsz; omega))
  have cw1_0_0 : w1.cell? ⟨w.heap.size, 0, none⟩ = some (.int .i64 a) := by (rw [hb.cell (by first | omega | (simp; done) | (simp; omega))]; first | assumption | (simp; done) | (simp [*]; done) | simp [go_sem, *])
  have cw1_0_1 : w1.cell? ⟨w.heap.size, 1, none⟩ = some (.int .i64 b) := by (rw [hb.cell (by first | omega | (simp; done) | (simp; omega))]; first | assumption | (simp; done) | (simp [*]; done) | simp [go_sem, *])
  have lw1_1 : w.heap.size + 1 < w1.heap.size := by (have hsz := hb.size; first | omega | (simp at hsz; omega))
  have cw1_1_0 : w1.cell? ⟨w.heap.size + 1, 0, none⟩ = some (.int .i64 c) := by (rw [hb.cell (by first | omega | (simp; done) | (simp; omega))]; first | assumption | (simp; done) | (simp [*]; done) | simp [go_sem, *])
  have cw1_1_1 : w1.cell? ⟨w.heap.size + 1, 1, none⟩ = some (.int .i64 d) := by (rw [hb.cell (by first | omega | (simp; done) | (simp; omega))]; first | assumption | (simp; done) | (simp [*]; done) | simp [go_sem, *])
  have HB1 := Lib.hid (rebase (((Below.refl _ _).alloc (Nat.le_refl _) _).alloc (by simp) _) hb)
  clear hb
  go_wp2_with fail
  refine (H1.out _).mono ?_
  rintro e w2 ⟨rfl, hb⟩
  have lw2_0 : w.heap.size < w2.heap.size := by (have hsz := hb.size; first | omega | (simp at hsz; omega))
  have cw2_0_0 : w2.cell? ⟨w.heap.size, 0, none⟩ = some (.int .i64 a) := by (rw [hb.cell (by first | omega | (simp; done) | (simp; omega))]; first | assumption | (simp; done) | (simp [*]; done) | simp [go_sem, *])
  have cw2_0_1 : w2.cell? ⟨w.heap.size, 1, none⟩ = some (.int .i64 b) := by (rw [hb.cell (by first | omega | (simp; done) | (simp; omega))]; first | assumption | (simp; done) | (simp [*]; done) | simp [go_sem, *])
  have lw2_1 : w.heap.size + 1 < w2.heap.size := by (have hsz := hb.size; first | omega | (simp at hsz; omega))
  have cw2_1_0 : w2.cell? ⟨w.heap.size + 1, 0, none⟩ = some (.int .i64 c) := by (rw [hb.cell (by first | omega | (simp; done) | (simp; omega))]; first | assumption | (simp; done) | (simp [*]; done) | simp [go_sem, *])
  have cw2_1_1 : w2.cell? ⟨w.heap.size + 1, 1, none⟩ = some (.int .i64 d) := by (rw [hb.cell (by first | omega | (simp; done) | (simp; omega))]; first | assumption | (simp; done) | (simp [*]; done) | simp [go_sem, *])
  have HB2 := Lib.hid (rebase HB1.out hb)
  clear hb HB1 cw1_0_0 cw1_0_1 cw1_1_0 cw1_1_1 lw1_0 lw1_1
  go_wp2_with fail
  refine (H2.out _).mono ?_
  rintro e w3 ⟨rfl, hb⟩
  have lw3_0 : w.heap.size < w3.heap.size := by (have hsz := hb.size; first | omega | (simp at hsz; omega))
  have cw3_0_0 : w3.cell? ⟨w.heap.size, 0, none⟩ = some (.int .i64 a) := by (rw [hb.cell (by first | omega | (simp; done) | (simp; omega))]; first | assumption | (simp; done) | (simp [*]; done) | simp [go_sem, *])
  have cw3_0_1 : w3.cell? ⟨w.heap.size, 1, none⟩ = some (.int .i64 b) := by (rw [hb.cell (by first | omega | (simp; done) | (simp; omega))]; first | assumption | (simp; done) | (simp [*]; done) | simp [go_sem, *])
  have lw3_1 : w.heap.size + 1 < w3.heap.size := by (have hsz := hb.size; first | omega | (simp at hsz; omega))
  have cw3_1_0 : w3.cell? ⟨w.heap.size + 1, 0, none⟩ = some (.int .i64 c) := by (rw [hb.cell (by first | omega | (simp; done) | (simp; omega))]; first | assumption | (simp; done) | (simp [*]; done) | simp [go_sem, *])
  have cw3_1_1 : w3.cell? ⟨w.heap.size + 1, 1, none⟩ = some (.int .i64 d) := by (rw [hb.cell (by first | omega | (simp; done) | (simp; omega))]; first | assumption | (simp; done) | (simp [*]; done) | simp [go_sem, *])
  have lw3_2 : w2.heap.size < w3.heap.size := by (have hsz := hb.size; first | omega | (simp at hsz; omega))
  have cw3_2_0 : w3.cell? ⟨w2.heap.size, 0, none⟩ = some (.int .i64 x) := by (rw [hb.cell (by first | omega | (simp; done) | (simp; omega))]; first | assumption | (simp; done) | (simp [*]; done) | simp [go_sem, *])
  have cw3_2_1 : w3.cell? ⟨w2.heap.size, 1, none⟩ = some (.int .i64 y) := by (rw [hb.cell (by first | omega | (simp; done) | (simp; omega))]; first | assumption | (simp; done) | (simp [*]; done) | simp [go_sem, *])
  have HB3 := Lib.hid (rebase (HB2.out.alloc (by omega) _) hb)
  clear hb HB2 cw2_0_0 cw2_0_1 cw2_1_0 cw2_1_1 lw2_0 lw2_1
  go_wp2_with fail
  refine (V1.out _).mono ?_
  rintro e w4 ⟨rfl, hb⟩
  have lw4_0 : w.heap.size < w4.heap.size := by (have hsz := hb.size; first | omega | (simp at hsz; omega))
  have cw4_0_0 : w4.cell? ⟨w.heap.size, 0, none⟩ = some (.int .i64 a) := by (rw [hb.cell (by first | omega | (simp; done) | (simp; omega))]; first | assumption | (simp; done) | (simp [*]; done) | simp [go_sem, *])
  have cw4_0_1 : w4.cell? ⟨w.heap.size, 1, none⟩ = some (.int .i64 b) := by (rw [hb.cell (by first | omega | (simp; done) | (simp; omega))]; first | assumption | (simp; done) | (simp [*]; done) | simp [go_sem, *])
  have lw4_1 : w.heap.size + 1 < w4.heap.size := by (have hsz := hb.size; first | omega | (simp at hsz; omega))
  have cw4_1_0 : w4.cell? ⟨w.heap.size + 1, 0, none⟩ = some (.int .i64 c) := by (rw [hb.cell (by first | omega | (simp; done) | (simp; omega))]; first | assumption | (simp; done) | (simp [*]; done) | simp [go_sem, *])
  have cw4_1_1 : w4.cell? ⟨w.heap.size + 1, 1, none⟩ = some (.int .i64 d) := by (rw [hb.cell (by first | omega | (simp; done) | (simp; omega))]; first | assumption | (simp; done) | (simp [*]; done) | simp [go_sem, *])
  have lw4_2 : w2.heap.size < w4.heap.size := by (have hsz := hb.size; first | omega | (simp at hsz; omega))
  have cw4_2_0 : w4.cell? ⟨w2.heap.size, 0, none⟩ = some (.int .i64 x) := by (rw [hb.cell (by first | omega | (simp; done) | (simp; omega))]; first | assumption | (simp; done) | (simp [*]; done) | simp [go_sem, *])
  have cw4_2_1 : w4.cell? ⟨w2.heap.size, 1, none⟩ = some (.int .i64 y) := by (rw [hb.cell (by first | omega | (simp; done) | (simp; omega))]; first | assumption | (simp; done) | (simp [*]; done) | simp [go_sem, *])
  have HB4 := Lib.hid (rebase (HB3.out.alloc (by omega) _) hb)
  clear hb HB3 cw3_0_0 cw3_0_1 cw3_1_0 cw3_1_1 cw3_2_0 cw3_2_1 lw3_0 lw3_1 lw3_2
  go_wp2_with fail
  refine (V2.out _).mono ?_
  rintro e w5 ⟨rfl, hb⟩
  have lw5_0 : w.heap.size < w5.heap.size := by (have hsz := hb.size; first | omega | (simp at hsz; omega))
  have cw5_0_0 : w5.cell? ⟨w.heap.size, 0, none⟩ = some (.int .i64 a) := by (rw [hb.cell (by first | omega | (simp; done) | (simp; omega))]; first | assumption | (simp; done) | (simp [*]; done) | simp [go_sem, *])
  have cw5_0_1 : w5.cell? ⟨w.heap.size, 1, none⟩ = some (.int .i64 b) := by (rw [hb.cell (by first | omega | (simp; done) | (simp; omega))]; first | assumption | (simp; done) | (simp [*]; done) | simp [go_sem, *])
  have lw5_1 : w.heap.size + 1 < w5.heap.size := by (have hsz := hb.size; first | omega | (simp at hsz; omega))
  have cw5_1_0 : w5.cell? ⟨w.heap.size + 1, 0, none⟩ = some (.int .i64 c) := by (rw [hb.cell (by first | omega | (simp; done) | (simp; omega))]; first | assumption | (simp; done) | (simp [*]; done) | simp [go_sem, *])
  have cw5_1_1 : w5.cell? ⟨w.heap.size + 1, 1, none⟩ = some (.int .i64 d) := by (rw [hb.cell (by first | omega | (simp; done) | (simp; omega))]; first | assumption | (simp; done) | (simp [*]; done) | simp [go_sem, *])
  have lw5_2 : w2.heap.size < w5.heap.size := by (have hsz := hb.size; first | omega | (simp at hsz; omega))
  have cw5_2_0 : w5.cell? ⟨w2.heap.size, 0, none⟩ = some (.int .i64 x) := by (rw [hb.cell (by first | omega | (simp; done) | (simp; omega))]; first | assumption | (simp; done) | (simp [*]; done) | simp [go_sem, *])
  have cw5_2_1 : w5.cell? ⟨w2.heap.size, 1, none⟩ = some (.int .i64 y) := by (rw [hb.cell (by first | omega | (simp; done) | (simp; omega))]; first | assumption | (simp; done) | (simp [*]; done) | simp [go_sem, *])
  have HB5 := Lib.hid (rebase HB4.out hb)
  clear hb HB4 cw4_0_0 cw4_0_1 cw4_1_0 cw4_1_1 cw4_2_0 cw4_2_1 lw4_0 lw4_1 lw4_2
  go_wp2_with fail
  go_ret
  exact ⟨rfl, HB5.out⟩

set_option maxHeartbeats 1000000 in
theorem walk3 (a b c d n x y z : Int) (h1 : BothIs a b c d x y z) (h2 : BothIs c d a b x y z) (v1 : ValidIs a b true) (v2 : ValidIs c d true) (hn : n < 0) (w : World) :
    Calls Try.prog 4 #[.agg #[.int .i64 a, .int .i64 b], .agg #[.int .i64 c, .int .i64 d], .int .i64 n] w fun e w' => e = .returned (.bool true) ∧ Below w.heap.size w w' := by
  have V2 := Lib.hid v2
  clear v2
  have H1 := Lib.hid h1
  have H2 := Lib.hid h2
  have V1 := Lib.hid v1
  clear h1 h2 v1
  go_enter Try.func4, Try.ntmps4
  go_wp2_with fail
  refine (works_any _).mono ?_
  rintro e w1 ⟨rfl, hb⟩
  have lw1_0 : w.heap.size < w1.heap.size := by (have hsz := hb.size; first | omega | (simp at hsz; omega))
  have cw1_0_0 : w1.cell? ⟨w.heap.size, 0, none⟩ = some (.int .i64 a) := by (rw [hb.cell (by first | omega | (simp; done) | (simp; omega))]; first | assumption | (simp; done) | (simp [*]; done) | simp [go_sem, *])
  have cw1_0_1 : w1.cell? ⟨w.heap.size, 1, none⟩ = some (.int .i64 b) := by (rw [hb.cell (by first | omega | (simp; done) | (simp; omega))]; first | assumption | (simp; done) | (simp [*]; done) | simp [go_sem, *])
  have lw1_1 : w.heap.size + 1 < w1.heap.size := by (have hsz := hb.size; first | omega | (simp at hsz; omega))
  have cw1_1_0 : w1.cell? ⟨w.heap.size + 1, 0, none⟩ = some (.int .i64 c) := by (rw [hb.cell (by first | omega | (simp; done) | (simp; omega))]; first | assumption | (simp; done) | (simp [*]; done) | simp [go_sem, *])
  have cw1_1_1 : w1.cell? ⟨w.heap.size + 1, 1, none⟩ = some (.int .i64 d) := by (rw [hb.cell (by first | omega | (simp; done) | (simp; omega))]; first | assumption | (simp; done) | (simp [*]; done) | simp [go_sem, *])
  have HB1 := Lib.hid (rebase (((Below.refl _ _).alloc (Nat.le_refl _) _).alloc (by simp) _) hb)
  clear hb
  go_wp2_with fail
  refine (H1.out _).mono ?_
  rintro e w2 ⟨rfl, hb⟩
  have lw2_0 : w.heap.size < w2.heap.size := by (have hsz := hb.size; first | omega | (simp at hsz; omega))
  have cw2_0_0 : w2.cell? ⟨w.heap.size, 0, none⟩ = some (.int .i64 a) := by (rw [hb.cell (by first | omega | (simp; done) | (simp; omega))]; first | assumption | (simp; done) | (simp [*]; done) | simp [go_sem, *])
  have cw2_0_1 : w2.cell? ⟨w.heap.size, 1, none⟩ = some (.int .i64 b) := by (rw [hb.cell (by first | omega | (simp; done) | (simp; omega))]; first | assumption | (simp; done) | (simp [*]; done) | simp [go_sem, *])
  have lw2_1 : w.heap.size + 1 < w2.heap.size := by (have hsz := hb.size; first | omega | (simp at hsz; omega))
  have cw2_1_0 : w2.cell? ⟨w.heap.size + 1, 0, none⟩ = some (.int .i64 c) := by (rw [hb.cell (by first | omega | (simp; done) | (simp; omega))]; first | assumption | (simp; done) | (simp [*]; done) | simp [go_sem, *])
  have cw2_1_1 : w2.cell? ⟨w.heap.size + 1, 1, none⟩ = some (.int .i64 d) := by (rw [hb.cell (by first | omega | (simp; done) | (simp; omega))]; first | assumption | (simp; done) | (simp [*]; done) | simp [go_sem, *])
  have HB2 := Lib.hid (rebase HB1.out hb)
  clear hb HB1 cw1_0_0 cw1_0_1 cw1_1_0 cw1_1_1 lw1_0 lw1_1
  go_wp2_with fail
  refine (H2.out _).mono ?_
  rintro e w3 ⟨rfl, hb⟩
  have lw3_0 : w.heap.size < w3.heap.size := by (have hsz := hb.size; first | omega | (simp at hsz; omega))
  have cw3_0_0 : w3.cell? ⟨w.heap.size, 0, none⟩ = some (.int .i64 a) := by (rw [hb.cell (by first | omega | (simp; done) | (simp; omega))]; first | assumption | (simp; done) | (simp [*]; done) | simp [go_sem, *])
  have cw3_0_1 : w3.cell? ⟨w.heap.size, 1, none⟩ = some (.int .i64 b) := by (rw [hb.cell (by first | omega | (simp; done) | (simp; omega))]; first | assumption | (simp; done) | (simp [*]; done) | simp [go_sem, *])
  have lw3_1 : w.heap.size + 1 < w3.heap.size := by (have hsz := hb.size; first | omega | (simp at hsz; omega))
  have cw3_1_0 : w3.cell? ⟨w.heap.size + 1, 0, none⟩ = some (.int .i64 c) := by (rw [hb.cell (by first | omega | (simp; done) | (simp; omega))]; first | assumption | (simp; done) | (simp [*]; done) | simp [go_sem, *])
  have cw3_1_1 : w3.cell? ⟨w.heap.size + 1, 1, none⟩ = some (.int .i64 d) := by (rw [hb.cell (by first | omega | (simp; done) | (simp; omega))]; first | assumption | (simp; done) | (simp [*]; done) | simp [go_sem, *])
  have lw3_2 : w2.heap.size < w3.heap.size := by (have hsz := hb.size; first | omega | (simp at hsz; omega))
  have cw3_2_0 : w3.cell? ⟨w2.heap.size, 0, none⟩ = some (.int .i64 x) := by (rw [hb.cell (by first | omega | (simp; done) | (simp; omega))]; first | assumption | (simp; done) | (simp [*]; done) | simp [go_sem, *])
  have cw3_2_1 : w3.cell? ⟨w2.heap.size, 1, none⟩ = some (.int .i64 y) := by (rw [hb.cell (by first | omega | (simp; done) | (simp; omega))]; first | assumption | (simp; done) | (simp [*]; done) | simp [go_sem, *])
  have HB3 := Lib.hid (rebase (HB2.out.alloc (by omega) _) hb)
  clear hb HB2 cw2_0_0 cw2_0_1 cw2_1_0 cw2_1_1 lw2_0 lw2_1
  go_wp2_with fail
  refine (V1.out _).mono ?_
  rintro e w4 ⟨rfl, hb⟩
  have lw4_0 : w.heap.size < w4.heap.size := by (have hsz := hb.size; first | omega | (simp at hsz; omega))
  have cw4_0_0 : w4.cell? ⟨w.heap.size, 0, none⟩ = some (.int .i64 a) := by (rw [hb.cell (by first | omega | (simp; done) | (simp; omega))]; first | assumption | (simp; done) | (simp [*]; done) | simp [go_sem, *])
  have cw4_0_1 : w4.cell? ⟨w.heap.size, 1, none⟩ = some (.int .i64 b) := by (rw [hb.cell (by first | omega | (simp; done) | (simp; omega))]; first | assumption | (simp; done) | (simp [*]; done) | simp [go_sem, *])
  have lw4_1 : w.heap.size + 1 < w4.heap.size := by (have hsz := hb.size; first | omega | (simp at hsz; omega))
  have cw4_1_0 : w4.cell? ⟨w.heap.size + 1, 0, none⟩ = some (.int .i64 c) := by (rw [hb.cell (by first | omega | (simp; done) | (simp; omega))]; first | assumption | (simp; done) | (simp [*]; done) | simp [go_sem, *])
  have cw4_1_1 : w4.cell? ⟨w.heap.size + 1, 1, none⟩ = some (.int .i64 d) := by (rw [hb.cell (by first | omega | (simp; done) | (simp; omega))]; first | assumption | (simp; done) | (simp [*]; done) | simp [go_sem, *])
  have lw4_2 : w2.heap.size < w4.heap.size := by (have hsz := hb.size; first | omega | (simp at hsz; omega))
  have cw4_2_0 : w4.cell? ⟨w2.heap.size, 0, none⟩ = some (.int .i64 x) := by (rw [hb.cell (by first | omega | (simp; done) | (simp; omega))]; first | assumption | (simp; done) | (simp [*]; done) | simp [go_sem, *])
  have cw4_2_1 : w4.cell? ⟨w2.heap.size, 1, none⟩ = some (.int .i64 y) := by (rw [hb.cell (by first | omega | (simp; done) | (simp; omega))]; first | assumption | (simp; done) | (simp [*]; done) | simp [go_sem, *])
  have HB4 := Lib.hid (rebase (HB3.out.alloc (by omega) _) hb)
  clear hb HB3 cw3_0_0 cw3_0_1 cw3_1_0 cw3_1_1 cw3_2_0 cw3_2_1 lw3_0 lw3_1 lw3_2
  go_wp2_with fail
  refine (V2.out _).mono ?_
  rintro e w5 ⟨rfl, hb⟩
  have lw5_0 : w.heap.size < w5.heap.size := by (have hsz := hb.size; first | omega | (simp at hsz; omega))
  have cw5_0_0 : w5.cell? ⟨w.heap.size, 0, none⟩ = some (.int .i64 a) := by (rw [hb.cell (by first | omega | (simp; done) | (simp; omega))]; first | assumption | (simp; done) | (simp [*]; done) | simp [go_sem, *])
  have cw5_0_1 : w5.cell? ⟨w.heap.size, 1, none⟩ = some (.int .i64 b) := by (rw [hb.cell (by first | omega | (simp; done) | (simp; omega))]; first | assumption | (simp; done) | (simp [*]; done) | simp [go_sem, *])
  have lw5_1 : w.heap.size + 1 < w5.heap.size := by (have hsz := hb.size; first | omega | (simp at hsz; omega))
  have cw5_1_0 : w5.cell? ⟨w.heap.size + 1, 0, none⟩ = some (.int .i64 c) := by (rw [hb.cell (by first | omega | (simp; done) | (simp; omega))]; first | assumption | (simp; done) | (simp [*]; done) | simp [go_sem, *])
  have cw5_1_1 : w5.cell? ⟨w.heap.size + 1, 1, none⟩ = some (.int .i64 d) := by (rw [hb.cell (by first | omega | (simp; done) | (simp; omega))]; first | assumption | (simp; done) | (simp [*]; done) | simp [go_sem, *])
  have lw5_2 : w2.heap.size < w5.heap.size := by (have hsz := hb.size; first | omega | (simp at hsz; omega))
  have cw5_2_0 : w5.cell? ⟨w2.heap.size, 0, none⟩ = some (.int .i64 x) := by (rw [hb.cell (by first | omega | (simp; done) | (simp; omega))]; first | assumption | (simp; done) | (simp [*]; done) | simp [go_sem, *])
  have cw5_2_1 : w5.cell? ⟨w2.heap.size, 1, none⟩ = some (.int .i64 y) := by (rw [hb.cell (by first | omega | (simp; done) | (simp; omega))]; first | assumption | (simp; done) | (simp [*]; done) | simp [go_sem, *])
  have HB5 := Lib.hid (rebase HB4.out hb)
  clear hb HB4 cw4_0_0 cw4_0_1 cw4_1_0 cw4_1_1 cw4_2_0 cw4_2_1 lw4_0 lw4_1 lw4_2
  go_wp2_with fail
  go_ret
  exact ⟨rfl, HB5.out⟩

set_option maxHeartbeats 1000000 in
theorem walk4 (a b c d n x y z : Int) (h1 : BothIs a b c d x y z) (h2 : BothIs c d a b x y z) (v1 : ValidIs a b true) (v2 : ValidIs c d true) (hn : 0 ≤ n) (hn2 : 1099511627776 < n) (w : World) :
    Calls Try.prog 4 #[.agg #[.int .i64 a, .int .i64 b], .agg #[.int .i64 c, .int .i64 d], .int .i64 n] w fun e w' => e = .returned (.bool true) ∧ Below w.heap.size w w' := by
  have V2 := Lib.hid v2
  clear v2
  have H1 := Lib.hid h1
  have H2 := Lib.hid h2
  have V1 := Lib.hid v1
  clear h1 h2 v1
  go_enter Try.func4, Try.ntmps4
  go_wp2_with fail
  refine (works_any _).mono ?_
  rintro e w1 ⟨rfl, hb⟩
  have lw1_0 : w.heap.size < w1.heap.size := by (have hsz := hb.size; first | omega | (simp at hsz; omega))
  have cw1_0_0 : w1.cell? ⟨w.heap.size, 0, none⟩ = some (.int .i64 a) := by (rw [hb.cell (by first | omega | (simp; done) | (simp; omega))]; first | assumption | (simp; done) | (simp [*]; done) | simp [go_sem, *])
  have cw1_0_1 : w1.cell? ⟨w.heap.size, 1, none⟩ = some (.int .i64 b) := by (rw [hb.cell (by first | omega | (simp; done) | (simp; omega))]; first | assumption | (simp; done) | (simp [*]; done) | simp [go_sem, *])
  have lw1_1 : w.heap.size + 1 < w1.heap.size := by (have hsz := hb.size; first | omega | (simp at hsz; omega))
  have cw1_1_0 : w1.cell? ⟨w.heap.size + 1, 0, none⟩ = some (.int .i64 c) := by (rw [hb.cell (by first | omega | (simp; done) | (simp; omega))]; first | assumption | (simp; done) | (simp [*]; done) | simp [go_sem, *])
  have cw1_1_1 : w1.cell? ⟨w.heap.size + 1, 1, none⟩ = some (.int .i64 d) := by (rw [hb.cell (by first | omega | (simp; done) | (simp; omega))]; first | assumption | (simp; done) | (simp [*]; done) | simp [go_sem, *])
  have HB1 := Lib.hid (rebase (((Below.refl _ _).alloc (Nat.le_refl _) _).alloc (by simp) _) hb)
  clear hb
  go_wp2_with fail
  refine (H1.out _).mono ?_
  rintro e w2 ⟨rfl, hb⟩
  have lw2_0 : w.heap.size < w2.heap.size := by (have hsz := hb.size; first | omega | (simp at hsz; omega))
  have cw2_0_0 : w2.cell? ⟨w.heap.size, 0, none⟩ = some (.int .i64 a) := by (rw [hb.cell (by first | omega | (simp; done) | (simp; omega))]; first | assumption | (simp; done) | (simp [*]; done) | simp [go_sem, *])
  have cw2_0_1 : w2.cell? ⟨w.heap.size, 1, none⟩ = some (.int .i64 b) := by (rw [hb.cell (by first | omega | (simp; done) | (simp; omega))]; first | assumption | (simp; done) | (simp [*]; done) | simp [go_sem, *])
  have lw2_1 : w.heap.size + 1 < w2.heap.size := by (have hsz := hb.size; first | omega | (simp at hsz; omega))
  have cw2_1_0 : w2.cell? ⟨w.heap.size + 1, 0, none⟩ = some (.int .i64 c) := by (rw [hb.cell (by first | omega | (simp; done) | (simp; omega))]; first | assumption | (simp; done) | (simp [*]; done) | simp [go_sem, *])
  have cw2_1_1 : w2.cell? ⟨w.heap.size + 1, 1, none⟩ = some (.int .i64 d) := by (rw [hb.cell (by first | omega | (simp; done) | (simp; omega))]; first | assumption | (simp; done) | (simp [*]; done) | simp [go_sem, *])
  have HB2 := Lib.hid (rebase HB1.out hb)
  clear hb HB1 cw1_0_0 cw1_0_1 cw1_1_0 cw1_1_1 lw1_0 lw1_1
  go_wp2_with fail
  refine (H2.out _).mono ?_
  rintro e w3 ⟨rfl, hb⟩
  have lw3_0 : w.heap.size < w3.heap.size := by (have hsz := hb.size; first | omega | (simp at hsz; omega))
  have cw3_0_0 : w3.cell? ⟨w.heap.size, 0, none⟩ = some (.int .i64 a) := by (rw [hb.cell (by first | omega | (simp; done) | (simp; omega))]; first | assumption | (simp; done) | (simp [*]; done) | simp [go_sem, *])
  have cw3_0_1 : w3.cell? ⟨w.heap.size, 1, none⟩ = some (.int .i64 b) := by (rw [hb.cell (by first | omega | (simp; done) | (simp; omega))]; first | assumption | (simp; done) | (simp [*]; done) | simp [go_sem, *])
  have lw3_1 : w.heap.size + 1 < w3.heap.size := by (have hsz := hb.size; first | omega | (simp at hsz; omega))
  have cw3_1_0 : w3.cell? ⟨w.heap.size + 1, 0, none⟩ = some (.int .i64 c) := by (rw [hb.cell (by first | omega | (simp; done) | (simp; omega))]; first | assumption | (simp; done) | (simp [*]; done) | simp [go_sem, *])
  have cw3_1_1 : w3.cell? ⟨w.heap.size + 1, 1, none⟩ = some (.int .i64 d) := by (rw [hb.cell (by first | omega | (simp; done) | (simp; omega))]; first | assumption | (simp; done) | (simp [*]; done) | simp [go_sem, *])
  have lw3_2 : w2.heap.size < w3.heap.size := by (have hsz := hb.size; first | omega | (simp at hsz; omega))
  have cw3_2_0 : w3.cell? ⟨w2.heap.size, 0, none⟩ = some (.int .i64 x) := by (rw [hb.cell (by first | omega | (simp; done) | (simp; omega))]; first | assumption | (simp; done) | (simp [*]; done) | simp [go_sem, *])
  have cw3_2_1 : w3.cell? ⟨w2.heap.size, 1, none⟩ = some (.int .i64 y) := by (rw [hb.cell (by first | omega | (simp; done) | (simp; omega))]; first | assumption | (simp; done) | (simp [*]; done) | simp [go_sem, *])
  have HB3 := Lib.hid (rebase (HB2.out.alloc (by omega) _) hb)
  clear hb HB2 cw2_0_0 cw2_0_1 cw2_1_0 cw2_1_1 lw2_0 lw2_1
  go_wp2_with fail
  refine (V1.out _).mono ?_
  rintro e w4 ⟨rfl, hb⟩
  have lw4_0 : w.heap.size < w4.heap.size := by (have hsz := hb.size; first | omega | (simp at hsz; omega))
  have cw4_0_0 : w4.cell? ⟨w.heap.size, 0, none⟩ = some (.int .i64 a) := by (rw [hb.cell (by first | omega | (simp; done) | (simp; omega))]; first | assumption | (simp; done) | (simp [*]; done) | simp [go_sem, *])
  have cw4_0_1 : w4.cell? ⟨w.heap.size, 1, none⟩ = some (.int .i64 b) := by (rw [hb.cell (by first | omega | (simp; done) | (simp; omega))]; first | assumption | (simp; done) | (simp [*]; done) | simp [go_sem, *])
  have lw4_1 : w.heap.size + 1 < w4.heap.size := by (have hsz := hb.size; first | omega | (simp at hsz; omega))
  have cw4_1_0 : w4.cell? ⟨w.heap.size + 1, 0, none⟩ = some (.int .i64 c) := by (rw [hb.cell (by first | omega | (simp; done) | (simp; omega))]; first | assumption | (simp; done) | (simp [*]; done) | simp [go_sem, *])
  have cw4_1_1 : w4.cell? ⟨w.heap.size + 1, 1, none⟩ = some (.int .i64 d) := by (rw [hb.cell (by first | omega | (simp; done) | (simp; omega))]; first | assumption | (simp; done) | (simp [*]; done) | simp [go_sem, *])
  have lw4_2 : w2.heap.size < w4.heap.size := by (have hsz := hb.size; first | omega | (simp at hsz; omega))
  have cw4_2_0 : w4.cell? ⟨w2.heap.size, 0, none⟩ = some (.int .i64 x) := by (rw [hb.cell (by first | omega | (simp; done) | (simp; omega))]; first | assumption | (simp; done) | (simp [*]; done) | simp [go_sem, *])
  have cw4_2_1 : w4.cell? ⟨w2.heap.size, 1, none⟩ = some (.int .i64 y) := by (rw [hb.cell (by first | omega | (simp; done) | (simp; omega))]; first | assumption | (simp; done) | (simp [*]; done) | simp [go_sem, *])
  have HB4 := Lib.hid (rebase (HB3.out.alloc (by omega) _) hb)
  clear hb HB3 cw3_0_0 cw3_0_1 cw3_1_0 cw3_1_1 cw3_2_0 cw3_2_1 lw3_0 lw3_1 lw3_2
  go_wp2_with fail
  refine (V2.out _).mono ?_
  rintro e w5 ⟨rfl, hb⟩
  have lw5_0 : w.heap.size < w5.heap.size := by (have hsz := hb.size; first | omega | (simp at hsz; omega))
  have cw5_0_0 : w5.cell? ⟨w.heap.size, 0, none⟩ = some (.int .i64 a) := by (rw [hb.cell (by first | omega | (simp; done) | (simp; omega))]; first | assumption | (simp; done) | (simp [*]; done) | simp [go_sem, *])
  have cw5_0_1 : w5.cell? ⟨w.heap.size, 1, none⟩ = some (.int .i64 b) := by (rw [hb.cell (by first | omega | (simp; done) | (simp; omega))]; first | assumption | (simp; done) | (simp [*]; done) | simp [go_sem, *])
  have lw5_1 : w.heap.size + 1 < w5.heap.size := by (have hsz := hb.size; first | omega | (simp at hsz; omega))
  have cw5_1_0 : w5.cell? ⟨w.heap.size + 1, 0, none⟩ = some (.int .i64 c) := by (rw [hb.cell (by first | omega | (simp; done) | (simp; omega))]; first | assumption | (simp; done) | (simp [*]; done) | simp [go_sem, *])
  have cw5_1_1 : w5.cell? ⟨w.heap.size + 1, 1, none⟩ = some (.int .i64 d) := by (rw [hb.cell (by first | omega | (simp; done) | (simp; omega))]; first | assumption | (simp; done) | (simp [*]; done) | simp [go_sem, *])
  have lw5_2 : w2.heap.size < w5.heap.size := by (have hsz := hb.size; first | omega | (simp at hsz; omega))
  have cw5_2_0 : w5.cell? ⟨w2.heap.size, 0, none⟩ = some (.int .i64 x) := by (rw [hb.cell (by first | omega | (simp; done) | (simp; omega))]; first | assumption | (simp; done) | (simp [*]; done) | simp [go_sem, *])
  have cw5_2_1 : w5.cell? ⟨w2.heap.size, 1, none⟩ = some (.int .i64 y) := by (rw [hb.cell (by first | omega | (simp; done) | (simp; omega))]; first | assumption | (simp; done) | (simp [*]; done) | simp [go_sem, *])
  have HB5 := Lib.hid (rebase HB4.out hb)
  clear hb HB4 cw4_0_0 cw4_0_1 cw4_1_0 cw4_1_1 cw4_2_0 cw4_2_1 lw4_0 lw4_1 lw4_2
  go_wp2_with fail
  go_ret
  exact ⟨rfl, HB5.out⟩

set_option maxHeartbeats 1000000 in
theorem walk5 (a b c d n x y k1 : Int) (h1 : BothIs a b c d x y 63) (h2 : BothIs c d a b x y 63) (v1 : ValidIs a b true) (v2 : ValidIs c d true) (hn : 0 ≤ n) (hn2 : n ≤ 1099511627776)
    (c1 : CheckIs a b n 0 k1) (e1 : (k1 == 0) = false) (w : World) :
    Calls Try.prog 4 #[.agg #[.int .i64 a, .int .i64 b], .agg #[.int .i64 c, .int .i64 d], .int .i64 n] w fun e w' => e = .returned (.bool true) ∧ Below w.heap.size w w' := by
  have V2 := Lib.hid v2
  have K1 := Lib.hid c1
  clear v2 c1
  have H1 := Lib.hid h1
  have H2 := Lib.hid h2
  have V1 := Lib.hid v1
  clear h1 h2 v1
  go_enter Try.func4, Try.ntmps4
  go_wp2_with fail
  refine (works_any _).mono ?_
  rintro e w1 ⟨rfl, hb⟩
  have lw1_0 : w.heap.size < w1.heap.size := by (have hsz := hb.size; first | omega | (simp at hsz; omega))
  have cw1_0_0 : w1.cell? ⟨w.heap.size, 0, none⟩ = some (.int .i64 a) := by (rw [hb.cell (by first | omega | (simp; done) | (simp; omega))]; first | assumption | (simp; done) | (simp [*]; done) | simp [go_sem, *])
  have cw1_0_1 : w1.cell? ⟨w.heap.size, 1, none⟩ = some (.int .i64 b) := by (rw [hb.cell (by first | omega | (simp; done) | (simp; omega))]; first | assumption | (simp; done) | (simp [*]; done) | simp [go_sem, *])
  have lw1_1 : w.heap.size + 1 < w1.heap.size := by (have hsz := hb.size; first | omega | (simp at hsz; omega))
  have cw1_1_0 : w1.cell? ⟨w.heap.size + 1, 0, none⟩ = some (.int .i64 c) := by (rw [hb.cell (by first | omega | (simp; done) | (simp; omega))]; first | assumption | (simp; done) | (simp [*]; done) | simp [go_sem, *])
  have cw1_1_1 : w1.cell? ⟨w.heap.size + 1, 1, none⟩ = some (.int .i64 d) := by (rw [hb.cell (by first | omega | (simp; done) | (simp; omega))]; first | assumption | (simp; done) | (simp [*]; done) | simp [go_sem, *])
  have HB1 := Lib.hid (rebase (((Below.refl _ _).alloc (Nat.le_refl _) _).alloc (by simp) _) hb)
  clear hb
  go_wp2_with fail
  refine (H1.out _).mono ?_
  rintro e w2 ⟨rfl, hb⟩
  have lw2_0 : w.heap.size < w2.heap.size := by (have hsz := hb.size; first | omega | (simp at hsz; omega))
  have cw2_0_0 : w2.cell? ⟨w.heap.size, 0, none⟩ = some (.int .i64 a) := by (rw [hb.cell (by first | omega | (simp; done) | (simp; omega))]; first | assumption | (simp; done) | (simp [*]; done) | simp [go_sem, *])
  have cw2_0_1 : w2.cell? ⟨w.heap.size, 1, none⟩ = some (.int .i64 b) := by (rw [hb.cell (by first | omega | (simp; done) | (simp; omega))]; first | assumption | (simp; done) | (simp [*]; done) | simp [go_sem, *])
  have lw2_1 : w.heap.size + 1 < w2.heap.size := by (have hsz := hb.size; first | omega | (simp at hsz; omega))
  have cw2_1_0 : w2.cell? ⟨w.heap.size + 1, 0, none⟩ = some (.int .i64 c) := by (rw [hb.cell (by first | omega | (simp; done) | (simp; omega))]; first | assumption | (simp; done) | (simp [*]; done) | simp [go_sem, *])
  have cw2_1_1 : w2.cell? ⟨w.heap.size + 1, 1, none⟩ = some (.int .i64 d) := by (rw [hb.cell (by first | omega | (simp; done) | (simp; omega))]; first | assumption | (simp; done) | (simp [*]; done) | simp [go_sem, *])
  have HB2 := Lib.hid (rebase HB1.out hb)
  clear hb HB1 cw1_0_0 cw1_0_1 cw1_1_0 cw1_1_1 lw1_0 lw1_1
  go_wp2_with fail
  refine (H2.out _).mono ?_
  rintro e w3 ⟨rfl, hb⟩
  have lw3_0 : w.heap.size < w3.heap.size := by (have hsz := hb.size; first | omega | (simp at hsz; omega))
  have cw3_0_0 : w3.cell? ⟨w.heap.size, 0, none⟩ = some (.int .i64 a) := by (rw [hb.cell (by first | omega | (simp; done) | (simp; omega))]; first | assumption | (simp; done) | (simp [*]; done) | simp [go_sem, *])
  have cw3_0_1 : w3.cell? ⟨w.heap.size, 1, none⟩ = some (.int .i64 b) := by (rw [hb.cell (by first | omega | (simp; done) | (simp; omega))]; first | assumption | (simp; done) | (simp [*]; done) | simp [go_sem, *])
  have lw3_1 : w.heap.size + 1 < w3.heap.size := by (have hsz := hb.size; first | omega | (simp at hsz; omega))
  have cw3_1_0 : w3.cell? ⟨w.heap.size + 1, 0, none⟩ = some (.int .i64 c) := by (rw [hb.cell (by first | omega | (simp; done) | (simp; omega))]; first | assumption | (simp; done) | (simp [*]; done) | simp [go_sem, *])
  have cw3_1_1 : w3.cell? ⟨w.heap.size + 1, 1, none⟩ = some (.int .i64 d) := by (rw [hb.cell (by first | omega | (simp; done) | (simp; omega))]; first | assumption | (simp; done) | (simp [*]; done) | simp [go_sem, *])
  have lw3_2 : w2.heap.size < w3.heap.size := by (have hsz := hb.size; first | omega | (simp at hsz; omega))
  have cw3_2_0 : w3.cell? ⟨w2.heap.size, 0, none⟩ = some (.int .i64 x) := by (rw [hb.cell (by first | omega | (simp; done) | (simp; omega))]; first | assumption | (simp; done) | (simp [*]; done) | simp [go_sem, *])
  have cw3_2_1 : w3.cell? ⟨w2.heap.size, 1, none⟩ = some (.int .i64 y) := by (rw [hb.cell (by first | omega | (simp; done) | (simp; omega))]; first | assumption | (simp; done) | (simp [*]; done) | simp [go_sem, *])
  have HB3 := Lib.hid (rebase (HB2.out.alloc (by omega) _) hb)
  clear hb HB2 cw2_0_0 cw2_0_1 cw2_1_0 cw2_1_1 lw2_0 lw2_1
  go_wp2_with fail
  refine (V1.out _).mono ?_
  rintro e w4 ⟨rfl, hb⟩
  have lw4_0 : w.heap.size < w4.heap.size := by (have hsz := hb.size; first | omega | (simp at hsz; omega))
  have cw4_0_0 : w4.cell? ⟨w.heap.size, 0, none⟩ = some (.int .i64 a) := by (rw [hb.cell (by first | omega | (simp; done) | (simp; omega))]; first | assumption | (simp; done) | (simp [*]; done) | simp [go_sem, *])
  have cw4_0_1 : w4.cell? ⟨w.heap.size, 1, none⟩ = some (.int .i64 b) := by (rw [hb.cell (by first | omega | (simp; done) | (simp; omega))]; first | assumption | (simp; done) | (simp [*]; done) | simp [go_sem, *])
  have lw4_1 : w.heap.size + 1 < w4.heap.size := by (have hsz := hb.size; first | omega | (simp at hsz; omega))
  have cw4_1_0 : w4.cell? ⟨w.heap.size + 1, 0, none⟩ = some (.int .i64 c) := by (rw [hb.cell (by first | omega | (simp; done) | (simp; omega))]; first | assumption | (simp; done) | (simp [*]; done) | simp [go_sem, *])
  have cw4_1_1 : w4.cell? ⟨w.heap.size + 1, 1, none⟩ = some (.int .i64 d) := by (rw [hb.cell (by first | omega | (simp; done) | (simp; omega))]; first | assumption | (simp; done) | (simp [*]; done) | simp [go_sem, *])
  have lw4_2 : w2.heap.size < w4.heap.size := by (have hsz := hb.size; first | omega | (simp at hsz; omega))
  have cw4_2_0 : w4.cell? ⟨w2.heap.size, 0, none⟩ = some (.int .i64 x) := by (rw [hb.cell (by first | omega | (simp; done) | (simp; omega))]; first | assumption | (simp; done) | (simp [*]; done) | simp [go_sem, *])
  have cw4_2_1 : w4.cell? ⟨w2.heap.size, 1, none⟩ = some (.int .i64 y) := by (rw [hb.cell (by first | omega | (simp; done) | (simp; omega))]; first | assumption | (simp; done) | (simp [*]; done) | simp [go_sem, *])
  have HB4 := Lib.hid (rebase (HB3.out.alloc (by omega) _) hb)
  clear hb HB3 cw3_0_0 cw3_0_1 cw3_1_0 cw3_1_1 cw3_2_0 cw3_2_1 lw3_0 lw3_1 lw3_2
  go_wp2_with fail
  refine (V2.out _).mono ?_
  rintro e w5 ⟨rfl, hb⟩
  have lw5_0 : w.heap.size < w5.heap.size := by (have hsz := hb.size; first | omega | (simp at hsz; omega))
  have cw5_0_0 : w5.cell? ⟨w.heap.size, 0, none⟩ = some (.int .i64 a) := by (rw [hb.cell (by first | omega | (simp; done) | (simp; omega))]; first | assumption | (simp; done) | (simp [*]; done) | simp [go_sem, *])
  have cw5_0_1 : w5.cell? ⟨w.heap.size, 1, none⟩ = some (.int .i64 b) := by (rw [hb.cell (by first | omega | (simp; done) | (simp; omega))]; first | assumption | (simp; done) | (simp [*]; done) | simp [go_sem, *])
  have lw5_1 : w.heap.size + 1 < w5.heap.size := by (have hsz := hb.size; first | omega | (simp at hsz; omega))
  have cw5_1_0 : w5.cell? ⟨w.heap.size + 1, 0, none⟩ = some (.int .i64 c) := by (rw [hb.cell (by first | omega | (simp; done) | (simp; omega))]; first | assumption | (simp; done) | (simp [*]; done) | simp [go_sem, *])
  have cw5_1_1 : w5.cell? ⟨w.heap.size + 1, 1, none⟩ = some (.int .i64 d) := by (rw [hb.cell (by first | omega | (simp; done) | (simp; omega))]; first | assumption | (simp; done) | (simp [*]; done) | simp [go_sem, *])
  have lw5_2 : w2.heap.size < w5.heap.size := by (have hsz := hb.size; first | omega | (simp at hsz; omega))
  have cw5_2_0 : w5.cell? ⟨w2.heap.size, 0, none⟩ = some (.int .i64 x) := by (rw [hb.cell (by first | omega | (simp; done) | (simp; omega))]; first | assumption | (simp; done) | (simp [*]; done) | simp [go_sem, *])
  have cw5_2_1 : w5.cell? ⟨w2.heap.size, 1, none⟩ = some (.int .i64 y) := by (rw [hb.cell (by first | omega | (simp; done) | (simp; omega))]; first | assumption | (simp; done) | (simp [*]; done) | simp [go_sem, *])
  have HB5 := Lib.hid (rebase HB4.out hb)
  clear hb HB4 cw4_0_0 cw4_0_1 cw4_1_0 cw4_1_1 cw4_2_0 cw4_2_1 lw4_0 lw4_1 lw4_2
  go_wp2_with fail
  refine (K1.out _).mono ?_
  rintro e w6 ⟨rfl, hb⟩
  have lw6_0 : w.heap.size < w6.heap.size := by (have hsz := hb.size; first | omega | (simp at hsz; omega))
  have cw6_0_0 : w6.cell? ⟨w.heap.size, 0, none⟩ = some (.int .i64 a) := by (rw [hb.cell (by first | omega | (simp; done) | (simp; omega))]; first | assumption | (simp; done) | (simp [*]; done) | simp [go_sem, *])
  have cw6_0_1 : w6.cell? ⟨w.heap.size, 1, none⟩ = some (.int .i64 b) := by (rw [hb.cell (by first | omega | (simp; done) | (simp; omega))]; first | assumption | (simp; done) | (simp [*]; done) | simp [go_sem, *])
  have lw6_1 : w.heap.size + 1 < w6.heap.size := by (have hsz := hb.size; first | omega | (simp at hsz; omega))
  have cw6_1_0 : w6.cell? ⟨w.heap.size + 1, 0, none⟩ = some (.int .i64 c) := by (rw [hb.cell (by first | omega | (simp; done) | (simp; omega))]; first | assumption | (simp; done) | (simp [*]; done) | simp [go_sem, *])
  have cw6_1_1 : w6.cell? ⟨w.heap.size + 1, 1, none⟩ = some (.int .i64 d) := by (rw [hb.cell (by first | omega | (simp; done) | (simp; omega))]; first | assumption | (simp; done) | (simp [*]; done) | simp [go_sem, *])
  have lw6_2 : w2.heap.size < w6.heap.size := by (have hsz := hb.size; first | omega | (simp at hsz; omega))
  have cw6_2_0 : w6.cell? ⟨w2.heap.size, 0, none⟩ = some (.int .i64 x) := by (rw [hb.cell (by first | omega | (simp; done) | (simp; omega))]; first | assumption | (simp; done) | (simp [*]; done) | simp [go_sem, *])
  have cw6_2_1 : w6.cell? ⟨w2.heap.size, 1, none⟩ = some (.int .i64 y) := by (rw [hb.cell (by first | omega | (simp; done) | (simp; omega))]; first | assumption | (simp; done) | (simp [*]; done) | simp [go_sem, *])
  have HB6 := Lib.hid (rebase HB5.out hb)
  clear hb HB5 cw5_0_0 cw5_0_1 cw5_1_0 cw5_1_1 cw5_2_0 cw5_2_1 lw5_0 lw5_1 lw5_2
  go_wp2_with fail
  go_ret
  exact ⟨rfl, HB6.out⟩

set_option maxHeartbeats 1000000 in
theorem walk6 (a b c d n x y k2 : Int) (h1 : BothIs a b c d x y 63) (h2 : BothIs c d a b x y 63) (v1 : ValidIs a b true) (v2 : ValidIs c d true) (hn : 0 ≤ n) (hn2 : n ≤ 1099511627776)
    (c1 : CheckIs a b n 0 0) (c2 : CheckIs c d n 0 k2) (e1 : (k2 == 0) = false) (w : World) :
    Calls Try.prog 4 #[.agg #[.int .i64 a, .int .i64 b], .agg #[.int .i64 c, .int .i64 d], .int .i64 n] w fun e w' => e = .returned (.bool true) ∧ Below w.heap.size w w' := by
  have V2 := Lib.hid v2
  have K1 := Lib.hid c1
  have K2 := Lib.hid c2
  clear v2 c1 c2
  have H1 := Lib.hid h1
  have H2 := Lib.hid h2
  have V1 := Lib.hid v1
  clear h1 h2 v1
  go_enter Try.func4, Try.ntmps4
  go_wp2_with fail
  refine (works_any _).mono ?_
  rintro e w1 ⟨rfl, hb⟩
  have lw1_0 : w.heap.size < w1.heap.size := by (have hsz := hb.size; first | omega | (simp at hsz; omega))
  have cw1_0_0 : w1.cell? ⟨w.heap.size, 0, none⟩ = some (.int .i64 a) := by (rw [hb.cell (by first | omega | (simp; done) | (simp; omega))]; first | assumption | (simp; done) | (simp [*]; done) | simp [go_sem, *])
  have cw1_0_1 : w1.cell? ⟨w.heap.size, 1, none⟩ = some (.int .i64 b) := by (rw [hb.cell (by first | omega | (simp; done) | (simp; omega))]; first | assumption | (simp; done) | (simp [*]; done) | simp [go_sem, *])
  have lw1_1 : w.heap.size + 1 < w1.heap.size := by (have hsz := hb.size; first | omega | (simp at hsz; omega))
  have cw1_1_0 : w1.cell? ⟨w.heap.size + 1, 0, none⟩ = some (.int .i64 c) := by (rw [hb.cell (by first | omega | (simp; done) | (simp; omega))]; first | assumption | (simp; done) | (simp [*]; done) | simp [go_sem, *])
  have cw1_1_1 : w1.cell? ⟨w.heap.size + 1, 1, none⟩ = some (.int .i64 d) := by (rw [hb.cell (by first | omega | (simp; done) | (simp; omega))]; first | assumption | (simp; done) | (simp [*]; done) | simp [go_sem, *])
  have HB1 := Lib.hid (rebase (((Below.refl _ _).alloc (Nat.le_refl _) _).alloc (by simp) _) hb)
  clear hb
  go_wp2_with fail
  refine (H1.out _).mono ?_
  rintro e w2 ⟨rfl, hb⟩
  have lw2_0 : w.heap.size < w2.heap.size := by (have hsz := hb.size; first | omega | (simp at hsz; omega))
  have cw2_0_0 : w2.cell? ⟨w.heap.size, 0, none⟩ = some (.int .i64 a) := by (rw [hb.cell (by first | omega | (simp; done) | (simp; omega))]; first | assumption | (simp; done) | (simp [*]; done) | simp [go_sem, *])
  have cw2_0_1 : w2.cell? ⟨w.heap.size, 1, none⟩ = some (.int .i64 b) := by (rw [hb.cell (by first | omega | (simp; done) | (simp; omega))]; first | assumption | (simp; done) | (simp [*]; done) | simp [go_sem, *])
  have lw2_1 : w.heap.size + 1 < w2.heap.size := by (have hsz := hb.size; first | omega | (simp at hsz; omega))
  have cw2_1_0 : w2.cell? ⟨w.heap.size + 1, 0, none⟩ = some (.int .i64 c) := by (rw [hb.cell (by first | omega | (simp; done) | (simp; omega))]; first | assumption | (simp; done) | (simp [*]; done) | simp [go_sem, *])
  have cw2_1_1 : w2.cell? ⟨w.heap.size + 1, 1, none⟩ = some (.int .i64 d) := by (rw [hb.cell (by first | omega | (simp; done) | (simp; omega))]; first | assumption | (simp; done) | (simp [*]; done) | simp [go_sem, *])
  have HB2 := Lib.hid (rebase HB1.out hb)
  clear hb HB1 cw1_0_0 cw1_0_1 cw1_1_0 cw1_1_1 lw1_0 lw1_1
  go_wp2_with fail
  refine (H2.out _).mono ?_
  rintro e w3 ⟨rfl, hb⟩
  have lw3_0 : w.heap.size < w3.heap.size := by (have hsz := hb.size; first | omega | (simp at hsz; omega))
  have cw3_0_0 : w3.cell? ⟨w.heap.size, 0, none⟩ = some (.int .i64 a) := by (rw [hb.cell (by first | omega | (simp; done) | (simp; omega))]; first | assumption | (simp; done) | (simp [*]; done) | simp [go_sem, *])
  have cw3_0_1 : w3.cell? ⟨w.heap.size, 1, none⟩ = some (.int .i64 b) := by (rw [hb.cell (by first | omega | (simp; done) | (simp; omega))]; first | assumption | (simp; done) | (simp [*]; done) | simp [go_sem, *])
  have lw3_1 : w.heap.size + 1 < w3.heap.size := by (have hsz := hb.size; first | omega | (simp at hsz; omega))
  have cw3_1_0 : w3.cell? ⟨w.heap.size + 1, 0, none⟩ = some (.int .i64 c) := by (rw [hb.cell (by first | omega | (simp; done) | (simp; omega))]; first | assumption | (simp; done) | (simp [*]; done) | simp [go_sem, *])
  have cw3_1_1 : w3.cell? ⟨w.heap.size + 1, 1, none⟩ = some (.int .i64 d) := by (rw [hb.cell (by first | omega | (simp; done) | (simp; omega))]; first | assumption | (simp; done) | (simp [*]; done) | simp [go_sem, *])
  have lw3_2 : w2.heap.size < w3.heap.size := by (have hsz := hb.size; first | omega | (simp at hsz; omega))
  have cw3_2_0 : w3.cell? ⟨w2.heap.size, 0, none⟩ = some (.int .i64 x) := by (rw [hb.cell (by first | omega | (simp; done) | (simp; omega))]; first | assumption | (simp; done) | (simp [*]; done) | simp [go_sem, *])
  have cw3_2_1 : w3.cell? ⟨w2.heap.size, 1, none⟩ = some (.int .i64 y) := by (rw [hb.cell (by first | omega | (simp; done) | (simp; omega))]; first | assumption | (simp; done) | (simp [*]; done) | simp [go_sem, *])
  have HB3 := Lib.hid (rebase (HB2.out.alloc (by omega) _) hb)
  clear hb HB2 cw2_0_0 cw2_0_1 cw2_1_0 cw2_1_1 lw2_0 lw2_1
  go_wp2_with fail
  refine (V1.out _).mono ?_
  rintro e w4 ⟨rfl, hb⟩
  have lw4_0 : w.heap.size < w4.heap.size := by (have hsz := hb.size; first | omega | (simp at hsz; omega))
  have cw4_0_0 : w4.cell? ⟨w.heap.size, 0, none⟩ = some (.int .i64 a) := by (rw [hb.cell (by first | omega | (simp; done) | (simp; omega))]; first | assumption | (simp; done) | (simp [*]; done) | simp [go_sem, *])
  have cw4_0_1 : w4.cell? ⟨w.heap.size, 1, none⟩ = some (.int .i64 b) := by (rw [hb.cell (by first | omega | (simp; done) | (simp; omega))]; first | assumption | (simp; done) | (simp [*]; done) | simp [go_sem, *])
  have lw4_1 : w.heap.size + 1 < w4.heap.size := by (have hsz := hb.size; first | omega | (simp at hsz; omega))
  have cw4_1_0 : w4.cell? ⟨w.heap.size + 1, 0, none⟩ = some (.int .i64 c) := by (rw [hb.cell (by first | omega | (simp; done) | (simp; omega))]; first | assumption | (simp; done) | (simp [*]; done) | simp [go_sem, *])
  have cw4_1_1 : w4.cell? ⟨w.heap.size + 1, 1, none⟩ = some (.int .i64 d) := by (rw [hb.cell (by first | omega | (simp; done) | (simp; omega))]; first | assumption | (simp; done) | (simp [*]; done) | simp [go_sem, *])
  have lw4_2 : w2.heap.size < w4.heap.size := by (have hsz := hb.size; first | omega | (simp at hsz; omega))
  have cw4_2_0 : w4.cell? ⟨w2.heap.size, 0, none⟩ = some (.int .i64 x) := by (rw [hb.cell (by first | omega | (simp; done) | (simp; omega))]; first | assumption | (simp; done) | (simp [*]; done) | simp [go_sem, *])
  have cw4_2_1 : w4.cell? ⟨w2.heap.size, 1, none⟩ = some (.int .i64 y) := by (rw [hb.cell (by first | omega | (simp; done) | (simp; omega))]; first | assumption | (simp; done) | (simp [*]; done) | simp [go_sem, *])
  have HB4 := Lib.hid (rebase (HB3.out.alloc (by omega) _) hb)
  clear hb HB3 cw3_0_0 cw3_0_1 cw3_1_0 cw3_1_1 cw3_2_0 cw3_2_1 lw3_0 lw3_1 lw3_2
  go_wp2_with fail
  refine (V2.out _).mono ?_
  rintro e w5 ⟨rfl, hb⟩
  have lw5_0 : w.heap.size < w5.heap.size := by (have hsz := hb.size; first | omega | (simp at hsz; omega))
  have cw5_0_0 : w5.cell? ⟨w.heap.size, 0, none⟩ = some (.int .i64 a) := by (rw [hb.cell (by first | omega | (simp; done) | (simp; omega))]; first | assumption | (simp; done) | (simp [*]; done) | simp [go_sem, *])
  have cw5_0_1 : w5.cell? ⟨w.heap.size, 1, none⟩ = some (.int .i64 b) := by (rw [hb.cell (by first | omega | (simp; done) | (simp; omega))]; first | assumption | (simp; done) | (simp [*]; done) | simp [go_sem, *])
  have lw5_1 : w.heap.size + 1 < w5.heap.size := by (have hsz := hb.size; first | omega | (simp at hsz; omega))
  have cw5_1_0 : w5.cell? ⟨w.heap.size + 1, 0, none⟩ = some (.int .i64 c) := by (rw [hb.cell (by first | omega | (simp; done) | (simp; omega))]; first | assumption | (simp; done) | (simp [*]; done) | simp [go_sem, *])
  have cw5_1_1 : w5.cell? ⟨w.heap.size + 1, 1, none⟩ = some (.int .i64 d) := by (rw [hb.cell (by first | omega | (simp; done) | (simp; omega))]; first | assumption | (simp; done) | (simp [*]; done) | simp [go_sem, *])
  have lw5_2 : w2.heap.size < w5.heap.size := by (have hsz := hb.size; first | omega | (simp at hsz; omega))
  have cw5_2_0 : w5.cell? ⟨w2.heap.size, 0, none⟩ = some (.int .i64 x) := by (rw [hb.cell (by first | omega | (simp; done) | (simp; omega))]; first | assumption | (simp; done) | (simp [*]; done) | simp [go_sem, *])
  have cw5_2_1 : w5.cell? ⟨w2.heap.size, 1, none⟩ = some (.int .i64 y) := by (rw [hb.cell (by first | omega | (simp; done) | (simp; omega))]; first | assumption | (simp; done) | (simp [*]; done) | simp [go_sem, *])
  have HB5 := Lib.hid (rebase HB4.out hb)
  clear hb HB4 cw4_0_0 cw4_0_1 cw4_1_0 cw4_1_1 cw4_2_0 cw4_2_1 lw4_0 lw4_1 lw4_2
  go_wp2_with fail
  refine (K1.out _).mono ?_
  rintro e w6 ⟨rfl, hb⟩
  have lw6_0 : w.heap.size < w6.heap.size := by (have hsz := hb.size; first | omega | (simp at hsz; omega))
  have cw6_0_0 : w6.cell? ⟨w.heap.size, 0, none⟩ = some (.int .i64 a) := by (rw [hb.cell (by first | omega | (simp; done) | (simp; omega))]; first | assumption | (simp; done) | (simp [*]; done) | simp [go_sem, *])
  have cw6_0_1 : w6.cell? ⟨w.heap.size, 1, none⟩ = some (.int .i64 b) := by (rw [hb.cell (by first | omega | (simp; done) | (simp; omega))]; first | assumption | (simp; done) | (simp [*]; done) | simp [go_sem, *])
  have lw6_1 : w.heap.size + 1 < w6.heap.size := by (have hsz := hb.size; first | omega | (simp at hsz; omega))
  have cw6_1_0 : w6.cell? ⟨w.heap.size + 1, 0, none⟩ = some (.int .i64 c) := by (rw [hb.cell (by first | omega | (simp; done) | (simp; omega))]; first | assumption | (simp; done) | (simp [*]; done) | simp [go_sem, *])
  have cw6_1_1 : w6.cell? ⟨w.heap.size + 1, 1, none⟩ = some (.int .i64 d) := by (rw [hb.cell (by first | omega | (simp; done) | (simp; omega))]; first | assumption | (simp; done) | (simp [*]; done) | simp [go_sem, *])
  have lw6_2 : w2.heap.size < w6.heap.size := by (have hsz := hb.size; first | omega | (simp at hsz; omega))
  have cw6_2_0 : w6.cell? ⟨w2.heap.size, 0, none⟩ = some (.int .i64 x) := by (rw [hb.cell (by first | omega | (simp; done) | (simp; omega))]; first | assumption | (simp; done) | (simp [*]; done) | simp [go_sem, *])
  have cw6_2_1 : w6.cell? ⟨w2.heap.size, 1, none⟩ = some (.int .i64 y) := by (rw [hb.cell (by first | omega | (simp; done) | (simp; omega))]; first | assumption | (simp; done) | (simp [*]; done) | simp [go_sem, *])
  have HB6 := Lib.hid (rebase HB5.out hb)
  clear hb HB5 cw5_0_0 cw5_0_1 cw5_1_0 cw5_1_1 cw5_2_0 cw5_2_1 lw5_0 lw5_1 lw5_2
  go_wp2_with fail
  refine (K2.out _).mono ?_
  rintro e w7 ⟨rfl, hb⟩
  have lw7_0 : w.heap.size < w7.heap.size := by (have hsz := hb.size; first | omega | (simp at hsz; omega))
  have cw7_0_0 : w7.cell? ⟨w.heap.size, 0, none⟩ = some (.int .i64 a) := by (rw [hb.cell (by first | omega | (simp; done) | (simp; omega))]; first | assumption | (simp; done) | (simp [*]; done) | simp [go_sem, *])
  have cw7_0_1 : w7.cell? ⟨w.heap.size, 1, none⟩ = some (.int .i64 b) := by (rw [hb.cell (by first | omega | (simp; done) | (simp; omega))]; first | assumption | (simp; done) | (simp [*]; done) | simp [go_sem, *])
  have lw7_1 : w2.heap.size < w7.heap.size := by (have hsz := hb.size; first | omega | (simp at hsz; omega))
  have cw7_1_0 : w7.cell? ⟨w2.heap.size, 0, none⟩ = some (.int .i64 x) := by (rw [hb.cell (by first | omega | (simp; done) | (simp; omega))]; first | assumption | (simp; done) | (simp [*]; done) | simp [go_sem, *])
  have cw7_1_1 : w7.cell? ⟨w2.heap.size, 1, none⟩ = some (.int .i64 y) := by (rw [hb.cell (by first | omega | (simp; done) | (simp; omega))]; first | assumption | (simp; done) | (simp [*]; done) | simp [go_sem, *])
  have HB7 := Lib.hid (rebase HB6.out hb)
  clear hb HB6 cw6_0_0 cw6_0_1 cw6_1_0 cw6_1_1 cw6_2_0 cw6_2_1 lw6_0 lw6_1 lw6_2
  go_wp2_with fail
  go_ret
  exact ⟨rfl, HB7.out⟩

set_option maxHeartbeats 1000000 in
theorem walk7 (a b c d n x y k1 k3 : Int) (h1 : BothIs a b c d x y 0) (h2 : BothIs c d a b x y 0) (v1 : ValidIs a b true) (v2 : ValidIs c d true) (hn : 0 ≤ n) (hn2 : n ≤ 1099511627776)
    (c1 : CheckIs a b n 0 k1) (e1 : (k1 == 0) = false) (h3 : BothIs a b x y x y 0) (c3 : CheckIs x y n 0 k3) (e3 : (k3 == 0) = false) (v3 : ValidIs x y true) (w : World) :
    Calls Try.prog 4 #[.agg #[.int .i64 a, .int .i64 b], .agg #[.int .i64 c, .int .i64 d], .int .i64 n] w fun e w' => e = .returned (.bool true) ∧ Below w.heap.size w w' := by
  have V2 := Lib.hid v2
  have K1 := Lib.hid c1
  have H3 := Lib.hid h3
  have K3 := Lib.hid c3
  have V3 := Lib.hid v3
  clear v2 c1 h3 c3 v3
  have H1 := Lib.hid h1
  have H2 := Lib.hid h2
  have V1 := Lib.hid v1
  clear h1 h2 v1
  go_enter Try.func4, Try.ntmps4
  go_wp2_with fail
  refine (works_any _).mono ?_
  rintro e w1 ⟨rfl, hb⟩
  have lw1_0 : w.heap.size < w1.heap.size := by (have hsz := hb.size; first | omega | (simp at hsz; omega))
  have cw1_0_0 : w1.cell? ⟨w.heap.size, 0, none⟩ = some (.int .i64 a) := by (rw [hb.cell (by first | omega | (simp; done) | (simp; omega))]; first | assumption | (simp; done) | (simp [*]; done) | simp [go_sem, *])
  have cw1_0_1 : w1.cell? ⟨w.heap.size, 1, none⟩ = some (.int .i64 b) := by (rw [hb.cell (by first | omega | (simp; done) | (simp; omega))]; first | assumption | (simp; done) | (simp [*]; done) | simp [go_sem, *])
  have lw1_1 : w.heap.size + 1 < w1.heap.size := by (have hsz := hb.size; first | omega | (simp at hsz; omega))
  have cw1_1_0 : w1.cell? ⟨w.heap.size + 1, 0, none⟩ = some (.int .i64 c) := by (rw [hb.cell (by first | omega | (simp; done) | (simp; omega))]; first | assumption | (simp; done) | (simp [*]; done) | simp [go_sem, *])
  have cw1_1_1 : w1.cell? ⟨w.heap.size + 1, 1, none⟩ = some (.int .i64 d) := by (rw [hb.cell (by first | omega | (simp; done) | (simp; omega))]; first | assumption | (simp; done) | (simp [*]; done) | simp [go_sem, *])
  have HB1 := Lib.hid (rebase (((Below.refl _ _).alloc (Nat.le_refl _) _).alloc (by simp) _) hb)
  clear hb
  go_wp2_with fail
  refine (H1.out _).mono ?_
  rintro e w2 ⟨rfl, hb⟩
  have lw2_0 : w.heap.size < w2.heap.size := by (have hsz := hb.size; first | omega | (simp at hsz; omega))
  have cw2_0_0 : w2.cell? ⟨w.heap.size, 0, none⟩ = some (.int .i64 a) := by (rw [hb.cell (by first | omega | (simp; done) | (simp; omega))]; first | assumption | (simp; done) | (simp [*]; done) | simp [go_sem, *])
  have cw2_0_1 : w2.cell? ⟨w.heap.size, 1, none⟩ = some (.int .i64 b) := by (rw [hb.cell (by first | omega | (simp; done) | (simp; omega))]; first | assumption | (simp; done) | (simp [*]; done) | simp [go_sem, *])
  have lw2_1 : w.heap.size + 1 < w2.heap.size := by (have hsz := hb.size; first | omega | (simp at hsz; omega))
  have cw2_1_0 : w2.cell? ⟨w.heap.size + 1, 0, none⟩ = some (.int .i64 c) := by (rw [hb.cell (by first | omega | (simp; done) | (simp; omega))]; first | assumption | (simp; done) | (simp [*]; done) | simp [go_sem, *])
  have cw2_1_1 : w2.cell? ⟨w.heap.size + 1, 1, none⟩ = some (.int .i64 d) := by (rw [hb.cell (by first | omega | (simp; done) | (simp; omega))]; first | assumption | (simp; done) | (simp [*]; done) | simp [go_sem, *])
  have HB2 := Lib.hid (rebase HB1.out hb)
  clear hb HB1 cw1_0_0 cw1_0_1 cw1_1_0 cw1_1_1 lw1_0 lw1_1
  go_wp2_with fail
  refine (H2.out _).mono ?_
  rintro e w3 ⟨rfl, hb⟩
  have lw3_0 : w.heap.size < w3.heap.size := by (have hsz := hb.size; first | omega | (simp at hsz; omega))
  have cw3_0_0 : w3.cell? ⟨w.heap.size, 0, none⟩ = some (.int .i64 a) := by (rw [hb.cell (by first | omega | (simp; done) | (simp; omega))]; first | assumption | (simp; done) | (simp [*]; done) | simp [go_sem, *])
  have cw3_0_1 : w3.cell? ⟨w.heap.size, 1, none⟩ = some (.int .i64 b) := by (rw [hb.cell (by first | omega | (simp; done) | (simp; omega))]; first | assumption | (simp; done) | (simp [*]; done) | simp [go_sem, *])
  have lw3_1 : w.heap.size + 1 < w3.heap.size := by (have hsz := hb.size; first | omega | (simp at hsz; omega))
  have cw3_1_0 : w3.cell? ⟨w.heap.size + 1, 0, none⟩ = some (.int .i64 c) := by (rw [hb.cell (by first | omega | (simp; done) | (simp; omega))]; first | assumption | (simp; done) | (simp [*]; done) | simp [go_sem, *])
  have cw3_1_1 : w3.cell? ⟨w.heap.size + 1, 1, none⟩ = some (.int .i64 d) := by (rw [hb.cell (by first | omega | (simp; done) | (simp; omega))]; first | assumption | (simp; done) | (simp [*]; done) | simp [go_sem, *])
  have lw3_2 : w2.heap.size < w3.heap.size := by (have hsz := hb.size; first | omega | (simp at hsz; omega))
  have cw3_2_0 : w3.cell? ⟨w2.heap.size, 0, none⟩ = some (.int .i64 x) := by (rw [hb.cell (by first | omega | (simp; done) | (simp; omega))]; first | assumption | (simp; done) | (simp [*]; done) | simp [go_sem, *])
  have cw3_2_1 : w3.cell? ⟨w2.heap.size, 1, none⟩ = some (.int .i64 y) := by (rw [hb.cell (by first | omega | (simp; done) | (simp; omega))]; first | assumption | (simp; done) | (simp [*]; done) | simp [go_sem, *])
  have HB3 := Lib.hid (rebase (HB2.out.alloc (by omega) _) hb)
  clear hb HB2 cw2_0_0 cw2_0_1 cw2_1_0 cw2_1_1 lw2_0 lw2_1
  go_wp2_with fail
  refine (V1.out _).mono ?_
  rintro e w4 ⟨rfl, hb⟩
  have lw4_0 : w.heap.size < w4.heap.size := by (have hsz := hb.size; first | omega | (simp at hsz; omega))
  have cw4_0_0 : w4.cell? ⟨w.heap.size, 0, none⟩ = some (.int .i64 a) := by (rw [hb.cell (by first | omega | (simp; done) | (simp; omega))]; first | assumption | (simp; done) | (simp [*]; done) | simp [go_sem, *])
  have cw4_0_1 : w4.cell? ⟨w.heap.size, 1, none⟩ = some (.int .i64 b) := by (rw [hb.cell (by first | omega | (simp; done) | (simp; omega))]; first | assumption | (simp; done) | (simp [*]; done) | simp [go_sem, *])
  have lw4_1 : w.heap.size + 1 < w4.heap.size := by (have hsz := hb.size; first | omega | (simp at hsz; omega))
  have cw4_1_0 : w4.cell? ⟨w.heap.size + 1, 0, none⟩ = some (.int .i64 c) := by (rw [hb.cell (by first | omega | (simp; done) | (simp; omega))]; first | assumption | (simp; done) | (simp [*]; done) | simp [go_sem, *])
  have cw4_1_1 : w4.cell? ⟨w.heap.size + 1, 1, none⟩ = some (.int .i64 d) := by (rw [hb.cell (by first | omega | (simp; done) | (simp; omega))]; first | assumption | (simp; done) | (simp [*]; done) | simp [go_sem, *])
  have lw4_2 : w2.heap.size < w4.heap.size := by (have hsz := hb.size; first | omega | (simp at hsz; omega))
  have cw4_2_0 : w4.cell? ⟨w2.heap.size, 0, none⟩ = some (.int .i64 x) := by (rw [hb.cell (by first | omega | (simp; done) | (simp; omega))]; first | assumption | (simp; done) | (simp [*]; done) | simp [go_sem, *])
  have cw4_2_1 : w4.cell? ⟨w2.heap.size, 1, none⟩ = some (.int .i64 y) := by (rw [hb.cell (by first | omega | (simp; done) | (simp; omega))]; first | assumption | (simp; done) | (simp [*]; done) | simp [go_sem, *])
  have HB4 := Lib.hid (rebase (HB3.out.alloc (by omega) _) hb)
  clear hb HB3 cw3_0_0 cw3_0_1 cw3_1_0 cw3_1_1 cw3_2_0 cw3_2_1 lw3_0 lw3_1 lw3_2
  go_wp2_with fail
  refine (V2.out _).mono ?_
  rintro e w5 ⟨rfl, hb⟩
  have lw5_0 : w.heap.size < w5.heap.size := by (have hsz := hb.size; first | omega | (simp at hsz; omega))
  have cw5_0_0 : w5.cell? ⟨w.heap.size, 0, none⟩ = some (.int .i64 a) := by (rw [hb.cell (by first | omega | (simp; done) | (simp; omega))]; first | assumption | (simp; done) | (simp [*]; done) | simp [go_sem, *])
  have cw5_0_1 : w5.cell? ⟨w.heap.size, 1, none⟩ = some (.int .i64 b) := by (rw [hb.cell (by first | omega | (simp; done) | (simp; omega))]; first | assumption | (simp; done) | (simp [*]; done) | simp [go_sem, *])
  have lw5_1 : w.heap.size + 1 < w5.heap.size := by (have hsz := hb.size; first | omega | (simp at hsz; omega))
  have cw5_1_0 : w5.cell? ⟨w.heap.size + 1, 0, none⟩ = some (.int .i64 c) := by (rw [hb.cell (by first | omega | (simp; done) | (simp; omega))]; first | assumption | (simp; done) | (simp [*]; done) | simp [go_sem, *])
  have cw5_1_1 : w5.cell? ⟨w.heap.size + 1, 1, none⟩ = some (.int .i64 d) := by (rw [hb.cell (by first | omega | (simp; done) | (simp; omega))]; first | assumption | (simp; done) | (simp [*]; done) | simp [go_sem, *])
  have lw5_2 : w2.heap.size < w5.heap.size := by (have hsz := hb.size; first | omega | (simp at hsz; omega))
  have cw5_2_0 : w5.cell? ⟨w2.heap.size, 0, none⟩ = some (.int .i64 x) := by (rw [hb.cell (by first | omega | (simp; done) | (simp; omega))]; first | assumption | (simp; done) | (simp [*]; done) | simp [go_sem, *])
  have cw5_2_1 : w5.cell? ⟨w2.heap.size, 1, none⟩ = some (.int .i64 y) := by (rw [hb.cell (by first | omega | (simp; done) | (simp; omega))]; first | assumption | (simp; done) | (simp [*]; done) | simp [go_sem, *])
  have HB5 := Lib.hid (rebase HB4.out hb)
  clear hb HB4 cw4_0_0 cw4_0_1 cw4_1_0 cw4_1_1 cw4_2_0 cw4_2_1 lw4_0 lw4_1 lw4_2
  go_wp2_with fail
  refine (K1.out _).mono ?_
  rintro e w6 ⟨rfl, hb⟩
  have lw6_0 : w.heap.size < w6.heap.size := by (have hsz := hb.size; first | omega | (simp at hsz; omega))
  have cw6_0_0 : w6.cell? ⟨w.heap.size, 0, none⟩ = some (.int .i64 a) := by (rw [hb.cell (by first | omega | (simp; done) | (simp; omega))]; first | assumption | (simp; done) | (simp [*]; done) | simp [go_sem, *])
  have cw6_0_1 : w6.cell? ⟨w.heap.size, 1, none⟩ = some (.int .i64 b) := by (rw [hb.cell (by first | omega | (simp; done) | (simp; omega))]; first | assumption | (simp; done) | (simp [*]; done) | simp [go_sem, *])
  have lw6_1 : w.heap.size + 1 < w6.heap.size := by (have hsz := hb.size; first | omega | (simp at hsz; omega))
  have cw6_1_0 : w6.cell? ⟨w.heap.size + 1, 0, none⟩ = some (.int .i64 c) := by (rw [hb.cell (by first | omega | (simp; done) | (simp; omega))]; first | assumption | (simp; done) | (simp [*]; done) | simp [go_sem, *])
  have cw6_1_1 : w6.cell? ⟨w.heap.size + 1, 1, none⟩ = some (.int .i64 d) := by (rw [hb.cell (by first | omega | (simp; done) | (simp; omega))]; first | assumption | (simp; done) | (simp [*]; done) | simp [go_sem, *])
  have lw6_2 : w2.heap.size < w6.heap.size := by (have hsz := hb.size; first | omega | (simp at hsz; omega))
  have cw6_2_0 : w6.cell? ⟨w2.heap.size, 0, none⟩ = some (.int .i64 x) := by (rw [hb.cell (by first | omega | (simp; done) | (simp; omega))]; first | assumption | (simp; done) | (simp [*]; done) | simp [go_sem, *])
  have cw6_2_1 : w6.cell? ⟨w2.heap.size, 1, none⟩ = some (.int .i64 y) := by (rw [hb.cell (by first | omega | (simp; done) | (simp; omega))]; first | assumption | (simp; done) | (simp [*]; done) | simp [go_sem, *])
  have HB6 := Lib.hid (rebase HB5.out hb)
  clear hb HB5 cw5_0_0 cw5_0_1 cw5_1_0 cw5_1_1 cw5_2_0 cw5_2_1 lw5_0 lw5_1 lw5_2
  go_wp2_with fail
  have HBX := HB6
  refine (H3.out _).mono ?_
  rintro e w8 ⟨rfl, hb⟩
  have lw8_0 : w2.heap.size < w8.heap.size := by (have hsz := hb.size; first | omega | (simp at hsz; omega))
  have cw8_0_0 : w8.cell? ⟨w2.heap.size, 0, none⟩ = some (.int .i64 x) := by (rw [hb.cell (by first | omega | (simp; done) | (simp; omega))]; first | assumption | (simp; done) | (simp [*]; done) | simp [go_sem, *])
  have cw8_0_1 : w8.cell? ⟨w2.heap.size, 1, none⟩ = some (.int .i64 y) := by (rw [hb.cell (by first | omega | (simp; done) | (simp; omega))]; first | assumption | (simp; done) | (simp [*]; done) | simp [go_sem, *])
  have HB8 := Lib.hid (rebase HBX.out hb)
  clear hb
  go_wp2_with fail
  refine (K3.out _).mono ?_
  rintro e w9 ⟨rfl, hb⟩
  have lw9_0 : w2.heap.size < w9.heap.size := by (have hsz := hb.size; first | omega | (simp at hsz; omega))
  have cw9_0_0 : w9.cell? ⟨w2.heap.size, 0, none⟩ = some (.int .i64 x) := by (rw [hb.cell (by first | omega | (simp; done) | (simp; omega))]; first | assumption | (simp; done) | (simp [*]; done) | simp [go_sem, *])
  have cw9_0_1 : w9.cell? ⟨w2.heap.size, 1, none⟩ = some (.int .i64 y) := by (rw [hb.cell (by first | omega | (simp; done) | (simp; omega))]; first | assumption | (simp; done) | (simp [*]; done) | simp [go_sem, *])
  have lw9_1 : w8.heap.size < w9.heap.size := by (have hsz := hb.size; first | omega | (simp at hsz; omega))
  have cw9_1_0 : w9.cell? ⟨w8.heap.size, 0, none⟩ = some (.int .i64 x) := by (rw [hb.cell (by first | omega | (simp; done) | (simp; omega))]; first | assumption | (simp; done) | (simp [*]; done) | simp [go_sem, *])
  have cw9_1_1 : w9.cell? ⟨w8.heap.size, 1, none⟩ = some (.int .i64 y) := by (rw [hb.cell (by first | omega | (simp; done) | (simp; omega))]; first | assumption | (simp; done) | (simp [*]; done) | simp [go_sem, *])
  have HB9 := Lib.hid (rebase (HB8.out.alloc HB8.out.size _) hb)
  clear hb HB8 cw8_0_0 cw8_0_1 lw8_0
  go_wp2_with fail
  refine (V3.out _).mono ?_
  rintro e w10 ⟨rfl, hb⟩
  have HB10 := Lib.hid (rebase HB9.out hb)
  clear hb
  go_wp2_with fail
  go_ret
  exact ⟨rfl, HB10.out⟩

set_option maxHeartbeats 1000000 in
theorem walk8 (a b c d n x y k2 k3 : Int) (h1 : BothIs a b c d x y 0) (h2 : BothIs c d a b x y 0) (v1 : ValidIs a b true) (v2 : ValidIs c d true) (hn : 0 ≤ n) (hn2 : n ≤ 1099511627776)
    (c1 : CheckIs a b n 0 0) (c2 : CheckIs c d n 0 k2) (h3 : BothIs a b x y x y 0) (c3 : CheckIs x y n 0 k3) (e3 : (k2 == 0) = (k3 == 0)) (v3 : ValidIs x y true) (w : World) :
    Calls Try.prog 4 #[.agg #[.int .i64 a, .int .i64 b], .agg #[.int .i64 c, .int .i64 d], .int .i64 n] w fun e w' => e = .returned (.bool true) ∧ Below w.heap.size w w' := by
  have V2 := Lib.hid v2
  have K1 := Lib.hid c1
  have K2 := Lib.hid c2
  have H3 := Lib.hid h3
  have K3 := Lib.hid c3
  have V3 := Lib.hid v3
  clear v2 c1 c2 h3 c3 v3
  have H1 := Lib.hid h1
  have H2 := Lib.hid h2
  have V1 := Lib.hid v1
  clear h1 h2 v1
  go_enter Try.func4, Try.ntmps4
  go_wp2_with fail
  refine (works_any _).mono ?_
  rintro e w1 ⟨rfl, hb⟩
  have lw1_0 : w.heap.size < w1.heap.size := by (have hsz := hb.size; first | omega | (simp at hsz; omega))
  have cw1_0_0 : w1.cell? ⟨w.heap.size, 0, none⟩ = some (.int .i64 a) := by (rw [hb.cell (by first | omega | (simp; done) | (simp; omega))]; first | assumption | (simp; done) | (simp [*]; done) | simp [go_sem, *])
  have cw1_0_1 : w1.cell? ⟨w.heap.size, 1, none⟩ = some (.int .i64 b) := by (rw [hb.cell (by first | omega | (simp; done) | (simp; omega))]; first | assumption | (simp; done) | (simp [*]; done) | simp [go_sem, *])
  have lw1_1 : w.heap.size + 1 < w1.heap.size := by (have hsz := hb.size; first | omega | (simp at hsz; omega))
  have cw1_1_0 : w1.cell? ⟨w.heap.size + 1, 0, none⟩ = some (.int .i64 c) := by (rw [hb.cell (by first | omega | (simp; done) | (simp; omega))]; first | assumption | (simp; done) | (simp [*]; done) | simp [go_sem, *])
  have cw1_1_1 : w1.cell? ⟨w.heap.size + 1, 1, none⟩ = some (.int .i64 d) := by (rw [hb.cell (by first | omega | (simp; done) | (simp; omega))]; first | assumption | (simp; done) | (simp [*]; done) | simp [go_sem, *])
  have HB1 := Lib.hid (rebase (((Below.refl _ _).alloc (Nat.le_refl _) _).alloc (by simp) _) hb)
  clear hb
  go_wp2_with fail
  refine (H1.out _).mono ?_
  rintro e w2 ⟨rfl, hb⟩
  have lw2_0 : w.heap.size < w2.heap.size := by (have hsz := hb.size; first | omega | (simp at hsz; omega))
  have cw2_0_0 : w2.cell? ⟨w.heap.size, 0, none⟩ = some (.int .i64 a) := by (rw [hb.cell (by first | omega | (simp; done) | (simp; omega))]; first | assumption | (simp; done) | (simp [*]; done) | simp [go_sem, *])
  have cw2_0_1 : w2.cell? ⟨w.heap.size, 1, none⟩ = some (.int .i64 b) := by (rw [hb.cell (by first | omega | (simp; done) | (simp; omega))]; first | assumption | (simp; done) | (simp [*]; done) | simp [go_sem, *])
  have lw2_1 : w.heap.size + 1 < w2.heap.size := by (have hsz := hb.size; first | omega | (simp at hsz; omega))
  have cw2_1_0 : w2.cell? ⟨w.heap.size + 1, 0, none⟩ = some (.int .i64 c) := by (rw [hb.cell (by first | omega | (simp; done) | (simp; omega))]; first | assumption | (simp; done) | (simp [*]; done) | simp [go_sem, *])
  have cw2_1_1 : w2.cell? ⟨w.heap.size + 1, 1, none⟩ = some (.int .i64 d) := by (rw [hb.cell (by first | omega | (simp; done) | (simp; omega))]; first | assumption | (simp; done) | (simp [*]; done) | simp [go_sem, *])
  have HB2 := Lib.hid (rebase HB1.out hb)
  clear hb HB1 cw1_0_0 cw1_0_1 cw1_1_0 cw1_1_1 lw1_0 lw1_1
  go_wp2_with fail
  refine (H2.out _).mono ?_
  rintro e w3 ⟨rfl, hb⟩
  have lw3_0 : w.heap.size < w3.heap.size := by (have hsz := hb.size; first | omega | (simp at hsz; omega))
  have cw3_0_0 : w3.cell? ⟨w.heap.size, 0, none⟩ = some (.int .i64 a) := by (rw [hb.cell (by first | omega | (simp; done) | (simp; omega))]; first | assumption | (simp; done) | (simp [*]; done) | simp [go_sem, *])
  have cw3_0_1 : w3.cell? ⟨w.heap.size, 1, none⟩ = some (.int .i64 b) := by (rw [hb.cell (by first | omega | (simp; done) | (simp; omega))]; first | assumption | (simp; done) | (simp [*]; done) | simp [go_sem, *])
  have lw3_1 : w.heap.size + 1 < w3.heap.size := by (have hsz := hb.size; first | omega | (simp at hsz; omega))
  have cw3_1_0 : w3.cell? ⟨w.heap.size + 1, 0, none⟩ = some (.int .i64 c) := by (rw [hb.cell (by first | omega | (simp; done) | (simp; omega))]; first | assumption | (simp; done) | (simp [*]; done) | simp [go_sem, *])
  have cw3_1_1 : w3.cell? ⟨w.heap.size + 1, 1, none⟩ = some (.int .i64 d) := by (rw [hb.cell (by first | omega | (simp; done) | (simp; omega))]; first | assumption | (simp; done) | (simp [*]; done) | simp [go_sem, *])
  have lw3_2 : w2.heap.size < w3.heap.size := by (have hsz := hb.size; first | omega | (simp at hsz; omega))
  have cw3_2_0 : w3.cell? ⟨w2.heap.size, 0, none⟩ = some (.int .i64 x) := by (rw [hb.cell (by first | omega | (simp; done) | (simp; omega))]; first | assumption | (simp; done) | (simp [*]; done) | simp [go_sem, *])
  have cw3_2_1 : w3.cell? ⟨w2.heap.size, 1, none⟩ = some (.int .i64 y) := by (rw [hb.cell (by first | omega | (simp; done) | (simp; omega))]; first | assumption | (simp; done) | (simp [*]; done) | simp [go_sem, *])
  have HB3 := Lib.hid (rebase (HB2.out.alloc (by omega) _) hb)
  clear hb HB2 cw2_0_0 cw2_0_1 cw2_1_0 cw2_1_1 lw2_0 lw2_1
  go_wp2_with fail
  refine (V1.out _).mono ?_
  rintro e w4 ⟨rfl, hb⟩
  have lw4_0 : w.heap.size < w4.heap.size := by (have hsz := hb.size; first | omega | (simp at hsz; omega))
  have cw4_0_0 : w4.cell? ⟨w.heap.size, 0, none⟩ = some (.int .i64 a) := by (rw [hb.cell (by first | omega | (simp; done) | (simp; omega))]; first | assumption | (simp; done) | (simp [*]; done) | simp [go_sem, *])
  have cw4_0_1 : w4.cell? ⟨w.heap.size, 1, none⟩ = some (.int .i64 b) := by (rw [hb.cell (by first | omega | (simp; done) | (simp; omega))]; first | assumption | (simp; done) | (simp [*]; done) | simp [go_sem, *])
  have lw4_1 : w.heap.size + 1 < w4.heap.size := by (have hsz := hb.size; first | omega | (simp at hsz; omega))
  have cw4_1_0 : w4.cell? ⟨w.heap.size + 1, 0, none⟩ = some (.int .i64 c) := by (rw [hb.cell (by first | omega | (simp; done) | (simp; omega))]; first | assumption | (simp; done) | (simp [*]; done) | simp [go_sem, *])
  have cw4_1_1 : w4.cell? ⟨w.heap.size + 1, 1, none⟩ = some (.int .i64 d) := by (rw [hb.cell (by first | omega | (simp; done) | (simp; omega))]; first | assumption | (simp; done) | (simp [*]; done) | simp [go_sem, *])
  have lw4_2 : w2.heap.size < w4.heap.size := by (have hsz := hb.size; first | omega | (simp at hsz; omega))
  have cw4_2_0 : w4.cell? ⟨w2.heap.size, 0, none⟩ = some (.int .i64 x) := by (rw [hb.cell (by first | omega | (simp; done) | (simp; omega))]; first | assumption | (simp; done) | (simp [*]; done) | simp [go_sem, *])
  have cw4_2_1 : w4.cell? ⟨w2.heap.size, 1, none⟩ = some (.int .i64 y) := by (rw [hb.cell (by first | omega | (simp; done) | (simp; omega))]; first | assumption | (simp; done) | (simp [*]; done) | simp [go_sem, *])
  have HB4 := Lib.hid (rebase (HB3.out.alloc (by omega) _) hb)
  clear hb HB3 cw3_0_0 cw3_0_1 cw3_1_0 cw3_1_1 cw3_2_0 cw3_2_1 lw3_0 lw3_1 lw3_2
  go_wp2_with fail
  refine (V2.out _).mono ?_
  rintro e w5 ⟨rfl, hb⟩
  have lw5_0 : w.heap.size < w5.heap.size := by (have hsz := hb.size; first | omega | (simp at hsz; omega))
  have cw5_0_0 : w5.cell? ⟨w.heap.size, 0, none⟩ = some (.int .i64 a) := by (rw [hb.cell (by first | omega | (simp; done) | (simp; omega))]; first | assumption | (simp; done) | (simp [*]; done) | simp [go_sem, *])
  have cw5_0_1 : w5.cell? ⟨w.heap.size, 1, none⟩ = some (.int .i64 b) := by (rw [hb.cell (by first | omega | (simp; done) | (simp; omega))]; first | assumption | (simp; done) | (simp [*]; done) | simp [go_sem, *])
  have lw5_1 : w.heap.size + 1 < w5.heap.size := by (have hsz := hb.size; first | omega | (simp at hsz; omega))
  have cw5_1_0 : w5.cell? ⟨w.heap.size + 1, 0, none⟩ = some (.int .i64 c) := by (rw [hb.cell (by first | omega | (simp; done) | (simp; omega))]; first | assumption | (simp; done) | (simp [*]; done) | simp [go_sem, *])
  have cw5_1_1 : w5.cell? ⟨w.heap.size + 1, 1, none⟩ = some (.int .i64 d) := by (rw [hb.cell (by first | omega | (simp; done) | (simp; omega))]; first | assumption | (simp; done) | (simp [*]; done) | simp [go_sem, *])
  have lw5_2 : w2.heap.size < w5.heap.size := by (have hsz := hb.size; first | omega | (simp at hsz; omega))
  have cw5_2_0 : w5.cell? ⟨w2.heap.size, 0, none⟩ = some (.int .i64 x) := by (rw [hb.cell (by first | omega | (simp; done) | (simp; omega))]; first | assumption | (simp; done) | (simp [*]; done) | simp [go_sem, *])
  have cw5_2_1 : w5.cell? ⟨w2.heap.size, 1, none⟩ = some (.int .i64 y) := by (rw [hb.cell (by first | omega | (simp; done) | (simp; omega))]; first | assumption | (simp; done) | (simp [*]; done) | simp [go_sem, *])
  have HB5 := Lib.hid (rebase HB4.out hb)
  clear hb HB4 cw4_0_0 cw4_0_1 cw4_1_0 cw4_1_1 cw4_2_0 cw4_2_1 lw4_0 lw4_1 lw4_2
  go_wp2_with fail
  refine (K1.out _).mono ?_
  rintro e w6 ⟨rfl, hb⟩
  have lw6_0 : w.heap.size < w6.heap.size := by (have hsz := hb.size; first | omega | (simp at hsz; omega))
  have cw6_0_0 : w6.cell? ⟨w.heap.size, 0, none⟩ = some (.int .i64 a) := by (rw [hb.cell (by first | omega | (simp; done) | (simp; omega))]; first | assumption | (simp; done) | (simp [*]; done) | simp [go_sem, *])
  have cw6_0_1 : w6.cell? ⟨w.heap.size, 1, none⟩ = some (.int .i64 b) := by (rw [hb.cell (by first | omega | (simp; done) | (simp; omega))]; first | assumption | (simp; done) | (simp [*]; done) | simp [go_sem, *])
  have lw6_1 : w.heap.size + 1 < w6.heap.size := by (have hsz := hb.size; first | omega | (simp at hsz; omega))
  have cw6_1_0 : w6.cell? ⟨w.heap.size + 1, 0, none⟩ = some (.int .i64 c) := by (rw [hb.cell (by first | omega | (simp; done) | (simp; omega))]; first | assumption | (simp; done) | (simp [*]; done) | simp [go_sem, *])
  have cw6_1_1 : w6.cell? ⟨w.heap.size + 1, 1, none⟩ = some (.int .i64 d) := by (rw [hb.cell (by first | omega | (simp; done) | (simp; omega))]; first | assumption | (simp; done) | (simp [*]; done) | simp [go_sem, *])
  have lw6_2 : w2.heap.size < w6.heap.size := by (have hsz := hb.size; first | omega | (simp at hsz; omega))
  have cw6_2_0 : w6.cell? ⟨w2.heap.size, 0, none⟩ = some (.int .i64 x) := by (rw [hb.cell (by first | omega | (simp; done) | (simp; omega))]; first | assumption | (simp; done) | (simp [*]; done) | simp [go_sem, *])
  have cw6_2_1 : w6.cell? ⟨w2.heap.size, 1, none⟩ = some (.int .i64 y) := by (rw [hb.cell (by first | omega | (simp; done) | (simp; omega))]; first | assumption | (simp; done) | (simp [*]; done) | simp [go_sem, *])
  have HB6 := Lib.hid (rebase HB5.out hb)
  clear hb HB5 cw5_0_0 cw5_0_1 cw5_1_0 cw5_1_1 cw5_2_0 cw5_2_1 lw5_0 lw5_1 lw5_2
  go_wp2_with fail
  refine (K2.out _).mono ?_
  rintro e w7 ⟨rfl, hb⟩
  have lw7_0 : w.heap.size < w7.heap.size := by (have hsz := hb.size; first | omega | (simp at hsz; omega))
  have cw7_0_0 : w7.cell? ⟨w.heap.size, 0, none⟩ = some (.int .i64 a) := by (rw [hb.cell (by first | omega | (simp; done) | (simp; omega))]; first | assumption | (simp; done) | (simp [*]; done) | simp [go_sem, *])
  have cw7_0_1 : w7.cell? ⟨w.heap.size, 1, none⟩ = some (.int .i64 b) := by (rw [hb.cell (by first | omega | (simp; done) | (simp; omega))]; first | assumption | (simp; done) | (simp [*]; done) | simp [go_sem, *])
  have lw7_1 : w2.heap.size < w7.heap.size := by (have hsz := hb.size; first | omega | (simp at hsz; omega))
  have cw7_1_0 : w7.cell? ⟨w2.heap.size, 0, none⟩ = some (.int .i64 x) := by (rw [hb.cell (by first | omega | (simp; done) | (simp; omega))]; first | assumption | (simp; done) | (simp [*]; done) | simp [go_sem, *])
  have cw7_1_1 : w7.cell? ⟨w2.heap.size, 1, none⟩ = some (.int .i64 y) := by (rw [hb.cell (by first | omega | (simp; done) | (simp; omega))]; first | assumption | (simp; done) | (simp [*]; done) | simp [go_sem, *])
  have HB7 := Lib.hid (rebase HB6.out hb)
  clear hb HB6 cw6_0_0 cw6_0_1 cw6_1_0 cw6_1_1 cw6_2_0 cw6_2_1 lw6_0 lw6_1 lw6_2
  go_wp2_with fail
  have HBX := HB7
  refine (H3.out _).mono ?_
  rintro e w8 ⟨rfl, hb⟩
  have lw8_0 : w2.heap.size < w8.heap.size := by (have hsz := hb.size; first | omega | (simp at hsz; omega))
  have cw8_0_0 : w8.cell? ⟨w2.heap.size, 0, none⟩ = some (.int .i64 x) := by (rw [hb.cell (by first | omega | (simp; done) | (simp; omega))]; first | assumption | (simp; done) | (simp [*]; done) | simp [go_sem, *])
  have cw8_0_1 : w8.cell? ⟨w2.heap.size, 1, none⟩ = some (.int .i64 y) := by (rw [hb.cell (by first | omega | (simp; done) | (simp; omega))]; first | assumption | (simp; done) | (simp [*]; done) | simp [go_sem, *])
  have HB8 := Lib.hid (rebase HBX.out hb)
  clear hb
  go_wp2_with fail
  refine (K3.out _).mono ?_
  rintro e w9 ⟨rfl, hb⟩
  have lw9_0 : w2.heap.size < w9.heap.size := by (have hsz := hb.size; first | omega | (simp at hsz; omega))
  have cw9_0_0 : w9.cell? ⟨w2.heap.size, 0, none⟩ = some (.int .i64 x) := by (rw [hb.cell (by first | omega | (simp; done) | (simp; omega))]; first | assumption | (simp; done) | (simp [*]; done) | simp [go_sem, *])
  have cw9_0_1 : w9.cell? ⟨w2.heap.size, 1, none⟩ = some (.int .i64 y) := by (rw [hb.cell (by first | omega | (simp; done) | (simp; omega))]; first | assumption | (simp; done) | (simp [*]; done) | simp [go_sem, *])
  have lw9_1 : w8.heap.size < w9.heap.size := by (have hsz := hb.size; first | omega | (simp at hsz; omega))
  have cw9_1_0 : w9.cell? ⟨w8.heap.size, 0, none⟩ = some (.int .i64 x) := by (rw [hb.cell (by first | omega | (simp; done) | (simp; omega))]; first | assumption | (simp; done) | (simp [*]; done) | simp [go_sem, *])
  have cw9_1_1 : w9.cell? ⟨w8.heap.size, 1, none⟩ = some (.int .i64 y) := by (rw [hb.cell (by first | omega | (simp; done) | (simp; omega))]; first | assumption | (simp; done) | (simp [*]; done) | simp [go_sem, *])
  have HB9 := Lib.hid (rebase (HB8.out.alloc HB8.out.size _) hb)
  clear hb HB8 cw8_0_0 cw8_0_1 lw8_0
  go_wp2_with fail
  refine (V3.out _).mono ?_
  rintro e w10 ⟨rfl, hb⟩
  have HB10 := Lib.hid (rebase HB9.out hb)
  clear hb
  go_wp2_with fail
  go_ret
  exact ⟨rfl, HB10.out⟩

theorem walk (a b c d n : Int) (w : World) :
    Calls Try.prog 4 #[.agg #[.int .i64 a, .int .i64 b], .agg #[.int .i64 c, .int .i64 d], .int .i64 n] w fun e w' => e = .returned (.bool true) ∧ Below w.heap.size w w' := by
  have h1 := both_self a b c d
  have h2 := both_self c d a b
  rw [← bothF_comm a b c d] at h2
  cases v1 : validB a b with
  | false => exact walk1 a b c d n _ _ _ h1 h2 (valid_is v1) w
  | true =>
    cases v2 : validB c d with
    | false => exact walk2 a b c d n _ _ _ h1 h2 (valid_is v1) (valid_is v2) w
    | true =>
      by_cases n1 : n < 0
      · exact walk3 a b c d n _ _ _ h1 h2 (valid_is v1) (valid_is v2) n1 w
      by_cases n2 : 1099511627776 < n
      · exact walk4 a b c d n _ _ _ h1 h2 (valid_is v1) (valid_is v2) (by omega) n2 w
      have ok : okT n = true := by rw [okT_iff]; omega
      have k1 := checkF_ok a b n v1 ok
      have k2 := checkF_ok c d n v2 ok
      by_cases hm : min b d ≤ max a c
      · have hz := bothF_none v1 v2 hm
        rw [hz] at h1 h2
        by_cases q1 : checkF a b n 0 = 0
        · have hk := check_self c d n 0
          exact walk6 a b c d n _ _ _ h1 h2 (valid_is v1) (valid_is v2) (by omega) (by omega) (check_is q1) hk (by simp; intro q2; have := k1.1 q1; have := k2.1 q2; omega) w
        · exact walk5 a b c d n _ _ _ h1 h2 (valid_is v1) (valid_is v2) (by omega) (by omega) (check_self a b n 0) (by simpa using q1) w
      · have hz := bothF_yes v1 v2 (by omega)
        rw [hz] at h1 h2
        have w1 := (valid_iff _ _).1 v1
        have w2 := (valid_iff _ _).1 v2
        have v3 : validB (max a c) (min b d) = true := by rw [valid_iff]; omega
        have h3 : BothIs a b (max a c) (min b d) (max a c) (min b d) 0 := by
          refine both_is ?_
          rw [bothF_yes v1 v3 (by omega)]
          rw [show max a (max a c) = max a c from by omega, show min b (min b d) = min b d from by omega]
        have k3 := checkF_ok _ _ n v3 ok
        have hk3 := check_self (max a c) (min b d) n 0
        by_cases q1 : checkF a b n 0 = 0
        · refine walk8 a b c d n _ _ _ _ h1 h2 (valid_is v1) (valid_is v2) (by omega) (by omega) (check_is q1) (check_self c d n 0) h3 hk3 ?_ (valid_is v3) w
          rw [Bool.eq_iff_iff, beq_iff_eq, beq_iff_eq, k2, k3]
          have := k1.1 q1
          omega
        · refine walk7 a b c d n _ _ _ _ h1 h2 (valid_is v1) (valid_is v2) (by omega) (by omega) (check_self a b n 0) (by simpa using q1) h3 hk3 ?_ (valid_is v3) w
          rw [beq_eq_false_iff_ne]
          intro q3
          have := k3.1 q3
          exact q1 (k1.2 (by omega))

set_option maxRecDepth 100000 in
theorem lifted (os : Os) (started : os.Started) (H : Type) (enc : TypeId × Value → H) :
    ReturnsInHanded {} Try.checked os 4 .any (Rows.spanBothSpec.pre6 enc Try.prog Try.f4 Rows.spanBothRow.domain false) (Rows.spanBothSpec.post enc Try.prog Try.f4 false true false false) := by
  refine returnsInHanded_of_change (C := Try.checked) ownTry started (by kernel_rfl) Try.func4
    (ChangeSpec.witness6 (enc := enc) (C := Try.checked) false ⟨#[], #[.agg #[.int .i64 0, .int .i64 0], .agg #[.int .i64 0, .int .i64 0], .int .i64 0], []⟩ 8 (by kernel_rfl) (by kernel_rfl) (by kernel_rfl) (by kernel_rfl)) ?_
  intro W base args ds gs before hval0 hW _ _
  have hval : ∀ (j : Nat) t v, Try.f4.params[j]? = some t → args[j]? = some v → Value.okWide Try.prog W .any base t v := hval0
  have hW' := hW
  obtain ⟨p, q, hA0, hV, rfl, _, _⟩ := hW
  have hA : DataW.TrodAll enc Try.prog W 0 (fun _ => true) true Try.f4.params.toList args.toList ds p := hA0
  rw [Try.params4] at hA hval
  obtain ⟨v0, vs0, d0, ds0, p0, q0, hargs, rfl, rfl, h0, r0⟩ := trodAll_cons hA
  obtain ⟨v1, vs1, d1, ds1, p1, q1, rfl, rfl, rfl, h1, r1⟩ := trodAll_cons r0
  obtain ⟨v2, vs2, d2, ds2, p2, q2, rfl, rfl, rfl, h2, r2⟩ := trodAll_cons r1
  obtain ⟨rfl, rfl, rfl⟩ := trodAll_nil r2
  obtain rfl : args = #[v0, v1, v2] := by cases args; simp_all
  obtain ⟨rfl, rfl⟩ := trodVars_none hV
  obtain ⟨a0, b0, rfl⟩ := open_span (hval 0 _ v0 rfl rfl) h0
  obtain ⟨a1, b1, rfl⟩ := open_span (hval 1 _ v1 rfl rfl) h1
  obtain ⟨n2, rfl, rfl, rfl, wf2⟩ := open_int Try.underlying3 (hval 2 _ v2 rfl rfl) h2
  refine (walk a0 b0 a1 b1 n2 W).mono fun e W' ⟨he, hb⟩ => ?_
  subst he
  exact ⟨_, rfl, law_post (by kernel_rfl) (by kernel_rfl) (by kernel_rfl) Try.underlying4 rfl rfl hW' hb⟩

theorem over : Rows.spanBothRow.holds Try.pinned (OpenSpec.ofChange Rows.spanBothSpec) :=
  OpenClaim.holds_of_wide 4 Try.f4 rfl rfl rfl rfl rfl rfl rfl ⟨rfl, rfl, rfl, rfl, rfl⟩ rfl rfl rfl rfl rfl (by kernel_rfl) Try.func4 (by kernel_rfl)
    (of_decide_eq_true (by kernel_rfl)) (by unfold Func.isWrapper; first | (rw [if_pos (by decide +kernel)]; kernel_rfl) | (rw [if_neg (by decide +kernel)]; exact ⟨rfl, rfl⟩))
    (fun os started H enc _ => lifted os started H enc)

/-- The statement. -/
theorem proved : Rows.SpanBothSaid := over
#print axioms proved
end Go.Proofs.Ytjoipdjdonakeaa.both
