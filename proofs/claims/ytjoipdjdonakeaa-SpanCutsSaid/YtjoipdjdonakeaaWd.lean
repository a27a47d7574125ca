/- The walks of package span's functions: Both, Cut, Check, Near, whatever they are given. -/
import Derived.Test.YtjoipdjdonakeaaWc
namespace Go.Proofs.Ytjoipdjdonakeaa
open Go.RowKit

set_option maxHeartbeats 400000 in
theorem both_arg1 (a b c d : Int) (h1 : validB a b = false) (w : World) :
    Calls Try.prog 12 #[.agg #[.int .i64 a, .int .i64 b], .agg #[.int .i64 c, .int .i64 d]] w fun e w' => e = .returned (.tuple #[.agg #[.int .i64 0, .int .i64 0], .int .i64 1]) ∧ Below w.heap.size w w' := by
  have V1 := Lib.hid h1
  clear h1
  go_enter Try.func12, Try.ntmps12
  go_wp2_with fail
  refine (valid_any a b _).mono ?_
  rintro e w1 ⟨rfl, hb1⟩
  rw [V1.out]
  have lw1_0 : w.heap.size + 1 + 1 < w1.heap.size := by (have hsz := hb1.size; first | omega | (simp at hsz; omega))
  have cw1_0_0 : w1.cell? ⟨w.heap.size + 1 + 1, 0, none⟩ = some (.int .i64 0) := by (rw [hb1.cell (by first | omega | (simp; done) | (simp; omega))]; first | assumption | (simp; done) | (simp [*]; done) | simp [go_sem, *])
  have fw1_0_0 : w1.frozen? ⟨w.heap.size + 1 + 1, 0, none⟩ = false := by (rw [hb1.frozen (by first | omega | (simp; done) | (simp; omega))]; first | assumption | (simp; done) | (simp [*]; done) | simp [go_sem, *])
  have cw1_0_1 : w1.cell? ⟨w.heap.size + 1 + 1, 1, none⟩ = some (.int .i64 0) := by (rw [hb1.cell (by first | omega | (simp; done) | (simp; omega))]; first | assumption | (simp; done) | (simp [*]; done) | simp [go_sem, *])
  have fw1_0_1 : w1.frozen? ⟨w.heap.size + 1 + 1, 1, none⟩ = false := by (rw [hb1.frozen (by first | omega | (simp; done) | (simp; omega))]; first | assumption | (simp; done) | (simp [*]; done) | simp [go_sem, *])
  have hz1 : w.heap.size + 1 + 1 + 1 ≤ w1.heap.size := by have := hb1.size; simpa using this
  have HB1 := Lib.hid (rebase ((((Below.refl _ _).alloc (Nat.le_refl _) _).alloc (by simp) _).alloc (by simp; omega) _) hb1)
  clear hb1
  go_wp2_with fail
  exact bodyPost_ret (v := .tuple #[.agg #[.int .i64 0, .int .i64 0], .int .i64 1]) (by simp [results, Try.results12, go_sem, cw1_0_0, cw1_0_1]) rfl
    ⟨rfl, (HB1.out.setCell (by simp; omega) _).setCell (by simp; omega) _⟩

set_option maxHeartbeats 400000 in
theorem both_arg2 (a b c d : Int) (h1 : validB a b = true) (h2 : validB c d = false) (w : World) :
    Calls Try.prog 12 #[.agg #[.int .i64 a, .int .i64 b], .agg #[.int .i64 c, .int .i64 d]] w fun e w' => e = .returned (.tuple #[.agg #[.int .i64 0, .int .i64 0], .int .i64 1]) ∧ Below w.heap.size w w' := by
  have V1 := Lib.hid h1
  have V2 := Lib.hid h2
  clear h1 h2
  go_enter Try.func12, Try.ntmps12
  go_wp2_with fail
  refine (valid_any a b _).mono ?_
  rintro e w1 ⟨rfl, hb1⟩
  rw [V1.out]
  have lw1_0 : w.heap.size + 1 < w1.heap.size := by (have hsz := hb1.size; first | omega | (simp at hsz; omega))
  have cw1_0_0 : w1.cell? ⟨w.heap.size + 1, 0, none⟩ = some (.int .i64 c) := by (rw [hb1.cell (by first | omega | (simp; done) | (simp; omega))]; first | assumption | (simp; done) | (simp [*]; done) | simp [go_sem, *])
  have cw1_0_1 : w1.cell? ⟨w.heap.size + 1, 1, none⟩ = some (.int .i64 d) := by (rw [hb1.cell (by first | omega | (simp; done) | (simp; omega))]; first | assumption | (simp; done) | (simp [*]; done) | simp [go_sem, *])
  have lw1_1 : w.heap.size + 1 + 1 < w1.heap.size := by (have hsz := hb1.size; first | omega | (simp at hsz; omega))
  have cw1_1_0 : w1.cell? ⟨w.heap.size + 1 + 1, 0, none⟩ = some (.int .i64 0) := by (rw [hb1.cell (by first | omega | (simp; done) | (simp; omega))]; first | assumption | (simp; done) | (simp [*]; done) | simp [go_sem, *])
  have fw1_1_0 : w1.frozen? ⟨w.heap.size + 1 + 1, 0, none⟩ = false := by (rw [hb1.frozen (by first | omega | (simp; done) | (simp; omega))]; first | assumption | (simp; done) | (simp [*]; done) | simp [go_sem, *])
  have cw1_1_1 : w1.cell? ⟨w.heap.size + 1 + 1, 1, none⟩ = some (.int .i64 0) := by (rw [hb1.cell (by first | omega | (simp; done) | (simp; omega))]; first | assumption | (simp; done) | (simp [*]; done) | simp [go_sem, *])
  have fw1_1_1 : w1.frozen? ⟨w.heap.size + 1 + 1, 1, none⟩ = false := by (rw [hb1.frozen (by first | omega | (simp; done) | (simp; omega))]; first | assumption | (simp; done) | (simp [*]; done) | simp [go_sem, *])
  have hz1 : w.heap.size + 1 + 1 + 1 ≤ w1.heap.size := by have := hb1.size; simpa using this
  have HB1 := Lib.hid (rebase ((((Below.refl _ _).alloc (Nat.le_refl _) _).alloc (by simp) _).alloc (by simp; omega) _) hb1)
  clear hb1
  go_wp2_with fail
  refine (valid_any c d _).mono ?_
  rintro e w2 ⟨rfl, hb2⟩
  rw [V2.out]
  have lw2_0 : w.heap.size + 1 + 1 < w2.heap.size := by (have hsz := hb2.size; first | omega | (simp at hsz; omega))
  have cw2_0_0 : w2.cell? ⟨w.heap.size + 1 + 1, 0, none⟩ = some (.int .i64 0) := by (rw [hb2.cell (by first | omega | (simp; done) | (simp; omega))]; first | assumption | (simp; done) | (simp [*]; done) | simp [go_sem, *])
  have fw2_0_0 : w2.frozen? ⟨w.heap.size + 1 + 1, 0, none⟩ = false := by (rw [hb2.frozen (by first | omega | (simp; done) | (simp; omega))]; first | assumption | (simp; done) | (simp [*]; done) | simp [go_sem, *])
  have cw2_0_1 : w2.cell? ⟨w.heap.size + 1 + 1, 1, none⟩ = some (.int .i64 0) := by (rw [hb2.cell (by first | omega | (simp; done) | (simp; omega))]; first | assumption | (simp; done) | (simp [*]; done) | simp [go_sem, *])
  have fw2_0_1 : w2.frozen? ⟨w.heap.size + 1 + 1, 1, none⟩ = false := by (rw [hb2.frozen (by first | omega | (simp; done) | (simp; omega))]; first | assumption | (simp; done) | (simp [*]; done) | simp [go_sem, *])
  have hz2 := hb2.size
  have HB2 := Lib.hid (rebase HB1.out hb2)
  clear hb2 HB1
  clear cw1_0_0 cw1_0_1 cw1_1_0 cw1_1_1 fw1_1_0 fw1_1_1
  go_wp2_with fail
  exact bodyPost_ret (v := .tuple #[.agg #[.int .i64 0, .int .i64 0], .int .i64 1]) (by simp [results, Try.results12, go_sem, cw2_0_0, cw2_0_1]) rfl
    ⟨rfl, (HB2.out.setCell (by simp; omega) _).setCell (by simp; omega) _⟩

/-- what Both comes to -/
def bothF (a b c d : Int) : Int × Int × Int :=
  if !validB a b || !validB c d then (0, 0, 1) else if min b d ≤ max a c then (0, 0, 63) else (max a c, min b d, 0)

theorem both_any (a b c d : Int) (w : World) :
    Calls Try.prog 12 #[.agg #[.int .i64 a, .int .i64 b], .agg #[.int .i64 c, .int .i64 d]] w fun e w' => e = .returned (.tuple #[.agg #[.int .i64 (bothF a b c d).1, .int .i64 (bothF a b c d).2.1], .int .i64 (bothF a b c d).2.2]) ∧ Below w.heap.size w w' := by
  cases h1 : validB a b with
  | false =>
    have e : bothF a b c d = (0, 0, 1) := by simp [bothF, h1]
    rw [e]
    exact both_arg1 a b c d h1 w
  | true =>
    cases h2 : validB c d with
    | false =>
      have e : bothF a b c d = (0, 0, 1) := by simp [bothF, h2]
      rw [e]
      exact both_arg2 a b c d h1 h2 w
    | true =>
      have v1 := valid_bounds h1
      have v2 := valid_bounds h2
      by_cases h3 : min b d ≤ max a c
      · have e : bothF a b c d = (0, 0, 63) := by simp only [bothF, h1, h2]; rw [if_neg (by simp), if_pos h3]
        rw [e]
        exact both_gen a b c d 0 0 63 h1 h2 (fun w => left_no (max a c) (min b d) (by omega) h3 (by omega) w) w
      · have e : bothF a b c d = (max a c, min b d, 0) := by simp only [bothF, h1, h2]; rw [if_neg (by simp), if_neg h3]
        rw [e]
        exact both_gen a b c d _ _ 0 h1 h2 (fun w => left_yes (max a c) (min b d) (by omega) (by omega) (by omega) w) w

set_option maxHeartbeats 400000 in
theorem cut_arg1 (a b n : Int) (h1 : validB a b = false) (w : World) :
    Calls Try.prog 14 #[.agg #[.int .i64 a, .int .i64 b], .int .i64 n] w fun e w' => e = .returned (.tuple #[.agg #[.int .i64 0, .int .i64 0], .int .i64 1]) ∧ Below w.heap.size w w' := by
  have V1 := Lib.hid h1
  clear h1
  go_enter Try.func14, Try.ntmps14
  go_wp2_with fail
  refine (valid_any a b _).mono ?_
  rintro e w1 ⟨rfl, hb1⟩
  rw [V1.out]
  have lw1_0 : w.heap.size + 1 < w1.heap.size := by (have hsz := hb1.size; first | omega | (simp at hsz; omega))
  have cw1_0_0 : w1.cell? ⟨w.heap.size + 1, 0, none⟩ = some (.int .i64 0) := by (rw [hb1.cell (by first | omega | (simp; done) | (simp; omega))]; first | assumption | (simp; done) | (simp [*]; done) | simp [go_sem, *])
  have fw1_0_0 : w1.frozen? ⟨w.heap.size + 1, 0, none⟩ = false := by (rw [hb1.frozen (by first | omega | (simp; done) | (simp; omega))]; first | assumption | (simp; done) | (simp [*]; done) | simp [go_sem, *])
  have cw1_0_1 : w1.cell? ⟨w.heap.size + 1, 1, none⟩ = some (.int .i64 0) := by (rw [hb1.cell (by first | omega | (simp; done) | (simp; omega))]; first | assumption | (simp; done) | (simp [*]; done) | simp [go_sem, *])
  have fw1_0_1 : w1.frozen? ⟨w.heap.size + 1, 1, none⟩ = false := by (rw [hb1.frozen (by first | omega | (simp; done) | (simp; omega))]; first | assumption | (simp; done) | (simp [*]; done) | simp [go_sem, *])
  have HB1 := Lib.hid (rebase (((Below.refl _ _).alloc (Nat.le_refl _) _).alloc (by simp) _) hb1)
  clear hb1
  go_wp2_with fail
  exact bodyPost_ret (v := .tuple #[.agg #[.int .i64 0, .int .i64 0], .int .i64 1]) (by simp [results, Try.results14, go_sem, cw1_0_0, cw1_0_1]) rfl
    ⟨rfl, (HB1.out.setCell (by simp) _).setCell (by simp) _⟩

theorem all1 (n : Int) : [n].all okT = okT n := by simp
theorem all2 (n m : Int) : [n, m].all okT = (okT n && okT m) := by simp
theorem all3 (n m k : Int) : [n, m, k].all okT = (okT n && (okT m && okT k)) := by simp

set_option maxHeartbeats 400000 in
theorem cut_arg2 (a b n : Int) (h1 : validB a b = true) (h2 : okT n = false) (w : World) :
    Calls Try.prog 14 #[.agg #[.int .i64 a, .int .i64 b], .int .i64 n] w fun e w' => e = .returned (.tuple #[.agg #[.int .i64 0, .int .i64 0], .int .i64 1]) ∧ Below w.heap.size w w' := by
  have V1 := Lib.hid h1
  have V2 := Lib.hid h2
  clear h1 h2
  go_enter Try.func14, Try.ntmps14
  go_wp2_with fail
  refine (valid_any a b _).mono ?_
  rintro e w1 ⟨rfl, hb1⟩
  rw [V1.out]
  have lw1_0 : w.heap.size + 1 < w1.heap.size := by (have hsz := hb1.size; first | omega | (simp at hsz; omega))
  have cw1_0_0 : w1.cell? ⟨w.heap.size + 1, 0, none⟩ = some (.int .i64 0) := by (rw [hb1.cell (by first | omega | (simp; done) | (simp; omega))]; first | assumption | (simp; done) | (simp [*]; done) | simp [go_sem, *])
  have fw1_0_0 : w1.frozen? ⟨w.heap.size + 1, 0, none⟩ = false := by (rw [hb1.frozen (by first | omega | (simp; done) | (simp; omega))]; first | assumption | (simp; done) | (simp [*]; done) | simp [go_sem, *])
  have cw1_0_1 : w1.cell? ⟨w.heap.size + 1, 1, none⟩ = some (.int .i64 0) := by (rw [hb1.cell (by first | omega | (simp; done) | (simp; omega))]; first | assumption | (simp; done) | (simp [*]; done) | simp [go_sem, *])
  have fw1_0_1 : w1.frozen? ⟨w.heap.size + 1, 1, none⟩ = false := by (rw [hb1.frozen (by first | omega | (simp; done) | (simp; omega))]; first | assumption | (simp; done) | (simp [*]; done) | simp [go_sem, *])
  have hz1 : w.heap.size + 1 + 1 ≤ w1.heap.size := by have := hb1.size; simpa using this
  have HB1 := Lib.hid (rebase (((Below.refl _ _).alloc (Nat.le_refl _) _).alloc (by simp) _) hb1)
  clear hb1
  go_wp2_with fail
  refine (time_any _ 1 1 [n] _ rfl (by omega) (fun k hk => ?_)).mono ?_
  · match k, hk with
    | 0, _ => simp [go_sem]
  rintro e w2 ⟨rfl, rfl⟩
  rw [all1, V2.out]
  go_wp2_with fail
  exact bodyPost_ret (v := .tuple #[.agg #[.int .i64 0, .int .i64 0], .int .i64 1]) (by simp [results, Try.results14, go_sem, lw1_0, cw1_0_0, cw1_0_1]) rfl
    ⟨rfl, (by (repeat (first | exact Hid.out HB1 | exact Below.refl _ _ | (refine Below.setCell ?_ (by first | omega | (simp; done) | (simp; omega)) _) | (refine Below.alloc ?_ (by first | omega | (simp; done) | (simp; omega)) _) | (refine Below.drew ?_))))⟩

set_option maxHeartbeats 400000 in
theorem cut_gen (a b n r0 r1 ec : Int) (h1 : validB a b = true) (h2 : okT n = true)
    (hl : ∀ w, Calls Try.prog 18 #[.complex .f64 (fb a) (fb (min b (a + n)))] w fun e w' => e = .returned (.tuple #[.agg #[.int .i64 r0, .int .i64 r1], .int .i64 ec]) ∧ Below w.heap.size w w') (w : World) :
    Calls Try.prog 14 #[.agg #[.int .i64 a, .int .i64 b], .int .i64 n] w fun e w' => e = .returned (.tuple #[.agg #[.int .i64 r0, .int .i64 r1], .int .i64 ec]) ∧ Below w.heap.size w w' := by
  have v1 := valid_bounds h1
  have v2 : 0 ≤ n ∧ n ≤ 1099511627776 := by simp [okT] at h2; omega
  have m1 := min_run b (a + n) ⟨by omega, by omega⟩ ⟨by omega, by omega⟩
  have m2 := fun t => run_float_arith (P := Try.prog) (w := t) .add 29 .f64 (fb a) (fb n) (fb (a + n)) (add_fb a n ⟨by omega, by omega⟩ ⟨by omega, by omega⟩)
  have V1 := Lib.hid h1
  have V2 := Lib.hid h2
  have HL := Lib.hid hl
  have e1 := fb_eq n
  clear h1 h2 hl v1 v2
  go_enter Try.func14, Try.ntmps14
  go_wp2_with fail
  refine (valid_any a b _).mono ?_
  rintro e w1 ⟨rfl, hb1⟩
  rw [V1.out]
  have lw1_0 : w.heap.size < w1.heap.size := by (have hsz := hb1.size; first | omega | (simp at hsz; omega))
  have cw1_0_0 : w1.cell? ⟨w.heap.size, 0, none⟩ = some (.int .i64 a) := by (rw [hb1.cell (by first | omega | (simp; done) | (simp; omega))]; first | assumption | (simp; done) | (simp [*]; done) | simp [go_sem, *])
  have cw1_0_1 : w1.cell? ⟨w.heap.size, 1, none⟩ = some (.int .i64 b) := by (rw [hb1.cell (by first | omega | (simp; done) | (simp; omega))]; first | assumption | (simp; done) | (simp [*]; done) | simp [go_sem, *])
  have lw1_1 : w.heap.size + 1 < w1.heap.size := by (have hsz := hb1.size; first | omega | (simp at hsz; omega))
  have cw1_1_0 : w1.cell? ⟨w.heap.size + 1, 0, none⟩ = some (.int .i64 0) := by (rw [hb1.cell (by first | omega | (simp; done) | (simp; omega))]; first | assumption | (simp; done) | (simp [*]; done) | simp [go_sem, *])
  have fw1_1_0 : w1.frozen? ⟨w.heap.size + 1, 0, none⟩ = false := by (rw [hb1.frozen (by first | omega | (simp; done) | (simp; omega))]; first | assumption | (simp; done) | (simp [*]; done) | simp [go_sem, *])
  have cw1_1_1 : w1.cell? ⟨w.heap.size + 1, 1, none⟩ = some (.int .i64 0) := by (rw [hb1.cell (by first | omega | (simp; done) | (simp; omega))]; first | assumption | (simp; done) | (simp [*]; done) | simp [go_sem, *])
  have fw1_1_1 : w1.frozen? ⟨w.heap.size + 1, 1, none⟩ = false := by (rw [hb1.frozen (by first | omega | (simp; done) | (simp; omega))]; first | assumption | (simp; done) | (simp [*]; done) | simp [go_sem, *])
  have hz1 : w.heap.size + 1 + 1 ≤ w1.heap.size := by have := hb1.size; simpa using this
  have HB1 := Lib.hid (rebase (((Below.refl _ _).alloc (Nat.le_refl _) _).alloc (by simp) _) hb1)
  clear hb1
  go_wp2_with fail
  refine (time_any _ 1 1 [n] _ rfl (by omega) (fun k hk => ?_)).mono ?_
  · match k, hk with
    | 0, _ => simp [go_sem]
  rintro e w2 ⟨rfl, rfl⟩
  rw [all1, V2.out]
  go_wp2_with fail
  refine (point_yes a b V1.out _).mono ?_
  rintro e w3 ⟨rfl, hb3⟩
  have lw3_0 : w.heap.size + 1 < w3.heap.size := by (have hsz := hb3.size; first | omega | (simp at hsz; omega))
  have cw3_0_0 : w3.cell? ⟨w.heap.size + 1, 0, none⟩ = some (.int .i64 0) := by (rw [hb3.cell (by first | omega | (simp; done) | (simp; omega))]; first | assumption | (simp; done) | (simp [*]; done) | simp [go_sem, *])
  have fw3_0_0 : w3.frozen? ⟨w.heap.size + 1, 0, none⟩ = false := by (rw [hb3.frozen (by first | omega | (simp; done) | (simp; omega))]; first | assumption | (simp; done) | (simp [*]; done) | simp [go_sem, *])
  have cw3_0_1 : w3.cell? ⟨w.heap.size + 1, 1, none⟩ = some (.int .i64 0) := by (rw [hb3.cell (by first | omega | (simp; done) | (simp; omega))]; first | assumption | (simp; done) | (simp [*]; done) | simp [go_sem, *])
  have fw3_0_1 : w3.frozen? ⟨w.heap.size + 1, 1, none⟩ = false := by (rw [hb3.frozen (by first | omega | (simp; done) | (simp; omega))]; first | assumption | (simp; done) | (simp [*]; done) | simp [go_sem, *])
  have HB3 := Lib.hid (rebase (HB1.out.alloc (by omega) _) hb3)
  have hz3 : w.heap.size + 1 + 1 ≤ w3.heap.size := by have := hb3.size; simp at this; omega
  clear hb3 HB1 cw1_0_0 cw1_0_1 cw1_1_0 fw1_1_0 cw1_1_1 fw1_1_1 hz1
  go_wp2_with fail
  refine (HL.out _).mono ?_
  rintro e w4 ⟨rfl, hb⟩
  have lw4_0 : w.heap.size + 1 < w4.heap.size := by (have hsz := hb.size; first | omega | (simp at hsz; omega))
  have cw4_0_0 : w4.cell? ⟨w.heap.size + 1, 0, none⟩ = some (.int .i64 0) := by (rw [hb.cell (by first | omega | (simp; done) | (simp; omega))]; first | assumption | (simp; done) | (simp [*]; done) | simp [go_sem, *])
  have fw4_0_0 : w4.frozen? ⟨w.heap.size + 1, 0, none⟩ = false := by (rw [hb.frozen (by first | omega | (simp; done) | (simp; omega))]; first | assumption | (simp; done) | (simp [*]; done) | simp [go_sem, *])
  have cw4_0_1 : w4.cell? ⟨w.heap.size + 1, 1, none⟩ = some (.int .i64 0) := by (rw [hb.cell (by first | omega | (simp; done) | (simp; omega))]; first | assumption | (simp; done) | (simp [*]; done) | simp [go_sem, *])
  have fw4_0_1 : w4.frozen? ⟨w.heap.size + 1, 1, none⟩ = false := by (rw [hb.frozen (by first | omega | (simp; done) | (simp; omega))]; first | assumption | (simp; done) | (simp [*]; done) | simp [go_sem, *])
  have HB4 := Lib.hid (rebase HB3.out hb)
  clear hb cw3_0_0 cw3_0_1 fw3_0_0 fw3_0_1
  go_wp2_with fail
  exact bodyPost_ret (v := .tuple #[.agg #[.int .i64 r0, .int .i64 r1], .int .i64 ec]) (by simp [results, Try.results14, go_sem, cw4_0_0, cw4_0_1]) rfl
    ⟨rfl, (HB4.out.setCell (by simp) _).setCell (by simp) _⟩

/-- what Cut comes to -/
def cutF (a b n : Int) : Int × Int × Int :=
  if !validB a b || !okT n then (0, 0, 1) else if min b (a + n) ≤ a then (0, 0, 63) else (a, min b (a + n), 0)

theorem cut_any (a b n : Int) (w : World) :
    Calls Try.prog 14 #[.agg #[.int .i64 a, .int .i64 b], .int .i64 n] w fun e w' => e = .returned (.tuple #[.agg #[.int .i64 (cutF a b n).1, .int .i64 (cutF a b n).2.1], .int .i64 (cutF a b n).2.2]) ∧ Below w.heap.size w w' := by
  cases h1 : validB a b with
  | false =>
    have e : cutF a b n = (0, 0, 1) := by simp [cutF, h1]
    rw [e]
    exact cut_arg1 a b n h1 w
  | true =>
    cases h2 : okT n with
    | false =>
      have e : cutF a b n = (0, 0, 1) := by simp [cutF, h2]
      rw [e]
      exact cut_arg2 a b n h1 h2 w
    | true =>
      have v1 := valid_bounds h1
      have v2 : 0 ≤ n ∧ n ≤ 1099511627776 := by simp [okT] at h2; omega
      by_cases h3 : min b (a + n) ≤ a
      · have e : cutF a b n = (0, 0, 63) := by simp only [cutF, h1, h2]; rw [if_neg (by simp), if_pos h3]
        rw [e]
        exact cut_gen a b n 0 0 63 h1 h2 (fun w => left_no a (min b (a + n)) (by omega) h3 (by omega) w) w
      · have e : cutF a b n = (a, min b (a + n), 0) := by simp only [cutF, h1, h2]; rw [if_neg (by simp), if_neg h3]
        rw [e]
        exact cut_gen a b n _ _ 0 h1 h2 (fun w => left_yes a (min b (a + n)) (by omega) (by omega) (by omega) w) w

/-- what Near comes to -/
def nearF (a b n : Int) : Bool := (okT a && (okT b && okT n)) && (decide (a - b ≤ n) && decide (b - a ≤ n))

set_option maxHeartbeats 400000 in
theorem near_any (a b n : Int) (w : World) :
    Calls Try.prog 15 #[.int .i64 a, .int .i64 b, .int .i64 n] w fun e w' => e = .returned (.bool (nearF a b n)) ∧ Below w.heap.size w w' := by
  by_cases hv : (okT a && (okT b && okT n)) = true
  · have v : 0 ≤ a ∧ a ≤ 1099511627776 ∧ 0 ≤ b ∧ b ≤ 1099511627776 ∧ 0 ≤ n ∧ n ≤ 1099511627776 := by simp [okT] at hv; omega
    obtain ⟨v1, v2, v3, v4, v5, v6⟩ := v
    have HV := Lib.hid hv
    clear hv
    go_enter Try.func15, Try.ntmps15
    go_wp2_with fail
    refine (time_any _ 3 3 [a, b, n] _ rfl (by omega) (fun k hk => ?_)).mono ?_
    · match k, hk with
      | 0, _ => simp [go_sem]
      | 1, _ => simp [go_sem]
      | 2, _ => simp [go_sem]
    rintro e w2 ⟨rfl, rfl⟩
    rw [all3, HV.out]
    go_wp2_with fail
    all_goals
      go_ret
      refine ⟨ret_bool ?_, (Below.refl _ _).alloc (Nat.le_refl _) _⟩
      unfold nearF
      rw [HV.out, Bool.true_and, ← Bool.decide_and, decide_eq_decide]
      omega
  · have HV := Lib.hid (Bool.not_eq_true _ ▸ hv)
    clear hv
    go_enter Try.func15, Try.ntmps15
    go_wp2_with fail
    refine (time_any _ 3 3 [a, b, n] _ rfl (by omega) (fun k hk => ?_)).mono ?_
    · match k, hk with
      | 0, _ => simp [go_sem]
      | 1, _ => simp [go_sem]
      | 2, _ => simp [go_sem]
    rintro e w2 ⟨rfl, rfl⟩
    rw [all3, HV.out]
    go_wp2_with fail
    go_ret
    refine ⟨ret_bool ?_, (Below.refl _ _).alloc (Nat.le_refl _) _⟩
    unfold nearF
    rw [HV.out, Bool.false_and]

def ng (n : Int) : Nat := fb n + 9223372036854775808

set_option maxHeartbeats 400000 in
theorem check_arg1 (a b n k : Int) (h1 : validB a b = false) (w : World) :
    Calls Try.prog 13 #[.agg #[.int .i64 a, .int .i64 b], .int .i64 n, .int .i64 k] w fun e w' => e = .returned (.int .i64 1) ∧ Below w.heap.size w w' := by
  have V1 := Lib.hid h1
  clear h1
  go_enter Try.func13, Try.ntmps13
  go_wp2_with fail
  refine (valid_any a b _).mono ?_
  rintro e w1 ⟨rfl, hb1⟩
  rw [V1.out]
  have HB1 := Lib.hid (rebase ((Below.refl _ _).alloc (Nat.le_refl _) _) hb1)
  clear hb1
  go_wp2_with fail
  go_ret
  exact ⟨rfl, HB1.out⟩

set_option maxHeartbeats 400000 in
theorem check_arg2 (a b n k : Int) (h1 : validB a b = true) (h2 : (okT n && okT k) = false) (w : World) :
    Calls Try.prog 13 #[.agg #[.int .i64 a, .int .i64 b], .int .i64 n, .int .i64 k] w fun e w' => e = .returned (.int .i64 1) ∧ Below w.heap.size w w' := by
  have V1 := Lib.hid h1
  have V2 := Lib.hid h2
  clear h1 h2
  go_enter Try.func13, Try.ntmps13
  go_wp2_with fail
  refine (valid_any a b _).mono ?_
  rintro e w1 ⟨rfl, hb1⟩
  rw [V1.out]
  have hz1 := hb1.size
  have HB1 := Lib.hid (rebase ((Below.refl _ _).alloc (Nat.le_refl _) _) hb1)
  clear hb1
  go_wp2_with fail
  refine (time_any _ 2 2 [n, k] _ rfl (by omega) (fun k hk => ?_)).mono ?_
  · match k, hk with
    | 0, _ => simp [go_sem]
    | 1, _ => simp [go_sem]
  rintro e w2 ⟨rfl, rfl⟩
  rw [all2, V2.out]
  go_wp2_with fail
  go_ret
  exact ⟨rfl, HB1.out.alloc (by simp at hz1; omega) _⟩

/-- what Check comes to -/
def checkF (a b n k : Int) : Int :=
  if !validB a b || !(okT n && okT k) then 1 else if k < a - n then 31 else if b - n ≤ -k then 32 else 0

theorem ret_int {k : IntKind} {a b : Int} (h : a = b) : Ending.returned (.int k a) = .returned (.int k b) := by rw [h]

set_option maxHeartbeats 1000000 in
theorem check_yes (a b n k : Int) (h1 : validB a b = true) (h2 : (okT n && okT k) = true) (w : World) :
    Calls Try.prog 13 #[.agg #[.int .i64 a, .int .i64 b], .int .i64 n, .int .i64 k] w fun e w' => e = .returned (.int .i64 (checkF a b n k)) ∧ Below w.heap.size w w' := by
  have v1 := valid_bounds h1
  have v2 : 0 ≤ n ∧ n ≤ 1099511627776 ∧ 0 ≤ k ∧ k ≤ 1099511627776 := by simp [okT] at h2; omega
  have m1 := fun t => run_complex_sum (P := Try.prog) (w := t) .sub (.inr rfl) 25 .f64 (fb a) (fb b) (fb n) (fb n) (fb (a - n)) (fb (b - n)) (by
    have s1 : floatBits .sub .f64 (fb a) (fb n) = some (fb (a - n)) := sub_fb a n ⟨by omega, by omega⟩ ⟨by omega, by omega⟩
    have s2 : floatBits .sub .f64 (fb b) (fb n) = some (fb (b - n)) := sub_fb b n ⟨by omega, by omega⟩ ⟨by omega, by omega⟩
    simp [cSumBits, s1, s2])
  have m2 : Op.unary .neg (.float .f64 (fb k)) = pure (.float .f64 (ng k)) := by
    simp only [Op.unary, neg_fb k (by omega) ⟨by omega, by omega⟩, ng]
  have m3 := gtr_fb (a - n) k ⟨by omega, by omega⟩ ⟨by omega, by omega⟩
  have m4 := neg_leq (b - n) k ⟨by omega, by omega⟩ (by omega) ⟨by omega, by omega⟩
  have e1 := fb_eq n
  have e2 := fb_eq k
  have hF : checkF a b n k = if k < a - n then 31 else if b - n ≤ -k then 32 else 0 := by unfold checkF; rw [h1, h2, if_neg (by simp)]
  have HF := Lib.hid hF
  have V1 := Lib.hid h1
  have V2 := Lib.hid h2
  change (FloatKind.f64.format.order (fb (b - n)) (ng k) == some .lt || FloatKind.f64.format.order (fb (b - n)) (ng k) == some .eq) = _ at m4
  clear h1 h2 hF v1 v2
  go_enter Try.func13, Try.ntmps13
  go_wp2_with fail
  refine (valid_any a b _).mono ?_
  rintro e w1 ⟨rfl, hb1⟩
  rw [V1.out]
  have lw1_0 : w.heap.size < w1.heap.size := by (have hsz := hb1.size; first | omega | (simp at hsz; omega))
  have cw1_0_0 : w1.cell? ⟨w.heap.size, 0, none⟩ = some (.int .i64 a) := by (rw [hb1.cell (by first | omega | (simp; done) | (simp; omega))]; first | assumption | (simp; done) | (simp [*]; done) | simp [go_sem, *])
  have cw1_0_1 : w1.cell? ⟨w.heap.size, 1, none⟩ = some (.int .i64 b) := by (rw [hb1.cell (by first | omega | (simp; done) | (simp; omega))]; first | assumption | (simp; done) | (simp [*]; done) | simp [go_sem, *])
  have HB1 := Lib.hid (rebase ((Below.refl _ _).alloc (Nat.le_refl _) _) hb1)
  clear hb1
  go_wp2_with fail
  refine (time_any _ 2 2 [n, k] _ rfl (by omega) (fun k hk => ?_)).mono ?_
  · match k, hk with
    | 0, _ => simp [go_sem]
    | 1, _ => simp [go_sem]
  rintro e w2 ⟨rfl, rfl⟩
  rw [all2, V2.out]
  go_wp2_with fail
  refine (point_yes a b V1.out _).mono ?_
  rintro e w3 ⟨rfl, hb3⟩
  have HB3 := Lib.hid (rebase (HB1.out.alloc (by omega) _) hb3)
  clear hb3
  by_cases c1 : k < a - n
  · rw [decide_eq_true c1] at m3
    go_wp2_with fail
    go_ret
    exact ⟨ret_int (by rw [HF.out, if_pos c1]), HB3.out⟩
  · rw [decide_eq_false c1] at m3
    by_cases c2 : b - n ≤ -k
    · rw [decide_eq_true c2] at m4
      go_wp2_with fail
      go_ret
      exact ⟨ret_int (by rw [HF.out, if_neg (by omega), if_pos c2]), HB3.out⟩
    · rw [decide_eq_false c2] at m4
      go_wp2_with fail
      go_ret
      exact ⟨ret_int (by rw [HF.out, if_neg (by omega), if_neg (by omega)]), HB3.out⟩

theorem check_any (a b n k : Int) (w : World) :
    Calls Try.prog 13 #[.agg #[.int .i64 a, .int .i64 b], .int .i64 n, .int .i64 k] w fun e w' => e = .returned (.int .i64 (checkF a b n k)) ∧ Below w.heap.size w w' := by
  cases h1 : validB a b with
  | false =>
    have e : checkF a b n k = 1 := by simp [checkF, h1]
    rw [e]
    exact check_arg1 a b n k h1 w
  | true =>
    cases h2 : okT n && okT k with
    | false =>
      have e : checkF a b n k = 1 := by unfold checkF; rw [h2]; simp
      rw [e]
      exact check_arg2 a b n k h1 h2 w
    | true => exact check_yes a b n k h1 h2 w
end Go.Proofs.Ytjoipdjdonakeaa
