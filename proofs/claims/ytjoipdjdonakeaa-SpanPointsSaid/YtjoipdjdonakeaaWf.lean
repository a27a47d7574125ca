/- The walk of the statement SpanPoints: true, whatever it is given. -/
import Derived.Test.YtjoipdjdonakeaaWe
namespace Go.Proofs.Ytjoipdjdonakeaa
open Go.RowKit

def pR (f t : Int) : Nat := if validB f t then fb f else 0
def pI (f t : Int) : Nat := if validB f t then fb t else 0
theorem point_any (f t : Int) (w : World) :
    Calls Try.prog 9 #[.agg #[.int .i64 f, .int .i64 t]] w fun e w' => e = .returned (.complex .f64 (pR f t) (pI f t)) ∧ Below w.heap.size w w' := by
  cases h : validB f t with
  | true => simpa [pR, pI, h] using point_yes f t h w
  | false => simpa [pR, pI, h] using point_no f t h w

theorem of_next (a b : Int) (h0 : 0 ≤ a) (h1 : a ≤ b) (h2 : b ≤ 1099511627776) (w : World) :
    Calls Try.prog 11 #[.complex .f64 (fb (b + 1)) (fb a)] w fun e w' => e = .returned (.agg #[.int .i64 0, .int .i64 0]) ∧ Below w.heap.size w w' := by
  by_cases h : b + 1 ≤ 1099511627776
  · exact of_gt (b + 1) a (by omega) (by omega) h h0 w
  · exact of_odd _ _ (whole_big (b + 1) (by omega) (by omega) ⟨by omega, by omega⟩) w

theorem order00 : (FloatKind.f64.format.order 0 0 == some .eq) = true := by decide

set_option maxHeartbeats 1000000 in
theorem points_no (a b c d : Int) (h : validB a b = false) (w : World) :
    Calls Try.prog 3 #[.agg #[.int .i64 a, .int .i64 b], .agg #[.int .i64 c, .int .i64 d]] w fun e w' => e = .returned (.bool true) ∧ Below w.heap.size w w' := by
  have V := Lib.hid h
  have o := order00
  clear h
  go_enter Try.func3, Try.ntmps3
  go_wp2_with fail
  refine (works_any _).mono ?_
  rintro e w1 ⟨rfl, hb⟩
  have lw1_0 : w.heap.size < w1.heap.size := by (have hsz := hb.size; first | omega | (simp at hsz; omega))
  have cw1_0_0 : w1.cell? ⟨w.heap.size, 0, none⟩ = some (.int .i64 a) := by (rw [hb.cell (by first | omega | (simp; done) | (simp; omega))]; first | assumption | (simp; done) | (simp [*]; done) | simp [go_sem, *])
  have cw1_0_1 : w1.cell? ⟨w.heap.size, 1, none⟩ = some (.int .i64 b) := by (rw [hb.cell (by first | omega | (simp; done) | (simp; omega))]; first | assumption | (simp; done) | (simp [*]; done) | simp [go_sem, *])
  have lw1_1 : w.heap.size + 1 < w1.heap.size := by (have hsz := hb.size; first | omega | (simp at hsz; omega))
  have cw1_1_0 : w1.cell? ⟨w.heap.size + 1, 0, none⟩ = some (.int .i64 c) := by (rw [hb.cell (by first | omega | (simp; done) | (simp; omega))]; first | assumption | (simp; done) | (simp [*]; done) | simp [go_sem, *])
  have cw1_1_1 : w1.cell? ⟨w.heap.size + 1, 1, none⟩ = some (.int .i64 d) := by (rw [hb.cell (by first | omega | (simp; done) | (simp; omega))]; first | assumption | (simp; done) | (simp [*]; done) | simp [go_sem, *])
  have HB1 := Lib.hid (rebase (((Below.refl _ _).alloc (Nat.le_refl _) _).alloc (by simp) _) hb)
  clear hb
  go_wp2_with fail
  refine (point_no a b V.out _).mono ?_
  rintro e w2 ⟨rfl, hb⟩
  have lw2_0 : w.heap.size < w2.heap.size := by (have hsz := hb.size; first | omega | (simp at hsz; omega))
  have cw2_0_0 : w2.cell? ⟨w.heap.size, 0, none⟩ = some (.int .i64 a) := by (rw [hb.cell (by first | omega | (simp; done) | (simp; omega))]; first | assumption | (simp; done) | (simp [*]; done) | simp [go_sem, *])
  have cw2_0_1 : w2.cell? ⟨w.heap.size, 1, none⟩ = some (.int .i64 b) := by (rw [hb.cell (by first | omega | (simp; done) | (simp; omega))]; first | assumption | (simp; done) | (simp [*]; done) | simp [go_sem, *])
  have lw2_1 : w.heap.size + 1 < w2.heap.size := by (have hsz := hb.size; first | omega | (simp at hsz; omega))
  have cw2_1_0 : w2.cell? ⟨w.heap.size + 1, 0, none⟩ = some (.int .i64 c) := by (rw [hb.cell (by first | omega | (simp; done) | (simp; omega))]; first | assumption | (simp; done) | (simp [*]; done) | simp [go_sem, *])
  have cw2_1_1 : w2.cell? ⟨w.heap.size + 1, 1, none⟩ = some (.int .i64 d) := by (rw [hb.cell (by first | omega | (simp; done) | (simp; omega))]; first | assumption | (simp; done) | (simp [*]; done) | simp [go_sem, *])
  have HB2 := Lib.hid (rebase HB1.out hb)
  clear hb HB1 cw1_0_0 cw1_0_1 cw1_1_0 cw1_1_1 lw1_0 lw1_1
  go_wp2_with fail
  refine (point_any c d _).mono ?_
  rintro e w3 ⟨rfl, hb⟩
  have lw3_0 : w.heap.size < w3.heap.size := by (have hsz := hb.size; first | omega | (simp at hsz; omega))
  have cw3_0_0 : w3.cell? ⟨w.heap.size, 0, none⟩ = some (.int .i64 a) := by (rw [hb.cell (by first | omega | (simp; done) | (simp; omega))]; first | assumption | (simp; done) | (simp [*]; done) | simp [go_sem, *])
  have cw3_0_1 : w3.cell? ⟨w.heap.size, 1, none⟩ = some (.int .i64 b) := by (rw [hb.cell (by first | omega | (simp; done) | (simp; omega))]; first | assumption | (simp; done) | (simp [*]; done) | simp [go_sem, *])
  have lw3_1 : w.heap.size + 1 < w3.heap.size := by (have hsz := hb.size; first | omega | (simp at hsz; omega))
  have cw3_1_0 : w3.cell? ⟨w.heap.size + 1, 0, none⟩ = some (.int .i64 c) := by (rw [hb.cell (by first | omega | (simp; done) | (simp; omega))]; first | assumption | (simp; done) | (simp [*]; done) | simp [go_sem, *])
  have cw3_1_1 : w3.cell? ⟨w.heap.size + 1, 1, none⟩ = some (.int .i64 d) := by (rw [hb.cell (by first | omega | (simp; done) | (simp; omega))]; first | assumption | (simp; done) | (simp [*]; done) | simp [go_sem, *])
  have HB3 := Lib.hid (rebase HB2.out hb)
  clear hb HB2 cw2_0_0 cw2_0_1 cw2_1_0 cw2_1_1 lw2_0 lw2_1
  go_wp2_with fail
  refine (valid_any a b _).mono ?_
  rintro e w4 ⟨rfl, hb⟩
  have HB4 := Lib.hid (rebase HB3.out hb)
  rw [V.out]
  clear hb HB3
  go_wp2_with fail
  go_ret
  exact ⟨rfl, HB4.out⟩

theorem neq_fb (a : Int) (ha : Ok a) : (FloatKind.f64.format.order (fb a) (fb a) != some .eq) = false := by
  show (Ieee.double.order (fb a) (fb a) != some .eq) = _
  rw [order_fb a a ha ha, cmp_eq]
  rfl

set_option maxHeartbeats 2000000 in
theorem points_yes (a b c d : Int) (p q : Bool) (h : validB a b = true)
    (hq1 : validB c d = true → (FloatKind.f64.format.order (fb a) (pR c d) == some .eq) = p) (hq2 : validB c d = true → (FloatKind.f64.format.order (fb b) (pI c d) == some .eq) = q)
    (hq3 : (a == c) = p) (hq4 : (b == d) = q) (w : World) :
    Calls Try.prog 3 #[.agg #[.int .i64 a, .int .i64 b], .agg #[.int .i64 c, .int .i64 d]] w fun e w' => e = .returned (.bool true) ∧ Below w.heap.size w w' := by
  have v := valid_bounds h
  have o1 := neq_fb a ⟨by omega, by omega⟩
  have o2 := neq_fb b ⟨by omega, by omega⟩
  have e1 := fb_eq a
  have e2 := fb_eq b
  have OF := Lib.hid (of_yes a b (by omega) (by omega) (by omega))
  have ON := Lib.hid (of_next a b (by omega) (by omega) (by omega))
  have OH := Lib.hid (of_odd (fh a) (fb b) (whole_half a (by omega) ⟨by omega, by omega⟩))
  have m1 := fun t => run_float_arith (P := Try.prog) (w := t) .add 29 .f64 (fb b) 4607182418800017408 (fb (b + 1)) (by rw [one_fb]; exact add_fb b 1 ⟨by omega, by omega⟩ ⟨by omega, by omega⟩)
  have m2 := fun t => run_float_arith (P := Try.prog) (w := t) .add 29 .f64 (fb a) 4602678819172646912 (fh a) (half_fb a ⟨by omega, by omega⟩)
  have V := Lib.hid h
  clear h v
  have HQ1 := Lib.hid hq1
  have HQ2 := Lib.hid hq2
  have HQ3 := Lib.hid hq3
  have HQ4 := Lib.hid hq4
  clear hq1 hq2 hq3 hq4
  go_enter Try.func3, Try.ntmps3
  go_wp2_with fail
  refine (works_any _).mono ?_
  rintro e w1 ⟨rfl, hb⟩
  have lw1_0 : w.heap.size < w1.heap.size := by (have hsz := hb.size; first | omega | (simp at hsz; omega))
  have cw1_0_0 : w1.cell? ⟨w.heap.size, 0, none⟩ = some (.int .i64 a) := by (rw [hb.cell (by first | omega | (simp; done) | (simp; omega))]; first | assumption | (simp; done) | (simp [*]; done) | simp [go_sem, *])
  have cw1_0_1 : w1.cell? ⟨w.heap.size, 1, none⟩ = some (.int .i64 b) := by (rw [hb.cell (by first | omega | (simp; done) | (simp; omega))]; first | assumption | (simp; done) | (simp [*]; done) | simp [go_sem, *])
  have lw1_1 : w.heap.size + 1 < w1.heap.size := by (have hsz := hb.size; first | omega | (simp at hsz; omega))
  have cw1_1_0 : w1.cell? ⟨w.heap.size + 1, 0, none⟩ = some (.int .i64 c) := by (rw [hb.cell (by first | omega | (simp; done) | (simp; omega))]; first | assumption | (simp; done) | (simp [*]; done) | simp [go_sem, *])
  have cw1_1_1 : w1.cell? ⟨w.heap.size + 1, 1, none⟩ = some (.int .i64 d) := by (rw [hb.cell (by first | omega | (simp; done) | (simp; omega))]; first | assumption | (simp; done) | (simp [*]; done) | simp [go_sem, *])
  have HB1 := Lib.hid (rebase (((Below.refl _ _).alloc (Nat.le_refl _) _).alloc (by simp) _) hb)
  clear hb
  go_wp2_with fail
  refine (point_yes a b V.out _).mono ?_
  rintro e w2 ⟨rfl, hb⟩
  have lw2_0 : w.heap.size < w2.heap.size := by (have hsz := hb.size; first | omega | (simp at hsz; omega))
  have cw2_0_0 : w2.cell? ⟨w.heap.size, 0, none⟩ = some (.int .i64 a) := by (rw [hb.cell (by first | omega | (simp; done) | (simp; omega))]; first | assumption | (simp; done) | (simp [*]; done) | simp [go_sem, *])
  have cw2_0_1 : w2.cell? ⟨w.heap.size, 1, none⟩ = some (.int .i64 b) := by (rw [hb.cell (by first | omega | (simp; done) | (simp; omega))]; first | assumption | (simp; done) | (simp [*]; done) | simp [go_sem, *])
  have lw2_1 : w.heap.size + 1 < w2.heap.size := by (have hsz := hb.size; first | omega | (simp at hsz; omega))
  have cw2_1_0 : w2.cell? ⟨w.heap.size + 1, 0, none⟩ = some (.int .i64 c) := by (rw [hb.cell (by first | omega | (simp; done) | (simp; omega))]; first | assumption | (simp; done) | (simp [*]; done) | simp [go_sem, *])
  have cw2_1_1 : w2.cell? ⟨w.heap.size + 1, 1, none⟩ = some (.int .i64 d) := by (rw [hb.cell (by first | omega | (simp; done) | (simp; omega))]; first | assumption | (simp; done) | (simp [*]; done) | simp [go_sem, *])
  have HB2 := Lib.hid (rebase HB1.out hb)
  clear hb HB1 cw1_0_0 cw1_0_1 cw1_1_0 cw1_1_1 lw1_0 lw1_1
  go_wp2_with fail
  refine (point_any c d _).mono ?_
  rintro e w3 ⟨rfl, hb⟩
  have lw3_0 : w.heap.size < w3.heap.size := by (have hsz := hb.size; first | omega | (simp at hsz; omega))
  have cw3_0_0 : w3.cell? ⟨w.heap.size, 0, none⟩ = some (.int .i64 a) := by (rw [hb.cell (by first | omega | (simp; done) | (simp; omega))]; first | assumption | (simp; done) | (simp [*]; done) | simp [go_sem, *])
  have cw3_0_1 : w3.cell? ⟨w.heap.size, 1, none⟩ = some (.int .i64 b) := by (rw [hb.cell (by first | omega | (simp; done) | (simp; omega))]; first | assumption | (simp; done) | (simp [*]; done) | simp [go_sem, *])
  have lw3_1 : w.heap.size + 1 < w3.heap.size := by (have hsz := hb.size; first | omega | (simp at hsz; omega))
  have cw3_1_0 : w3.cell? ⟨w.heap.size + 1, 0, none⟩ = some (.int .i64 c) := by (rw [hb.cell (by first | omega | (simp; done) | (simp; omega))]; first | assumption | (simp; done) | (simp [*]; done) | simp [go_sem, *])
  have cw3_1_1 : w3.cell? ⟨w.heap.size + 1, 1, none⟩ = some (.int .i64 d) := by (rw [hb.cell (by first | omega | (simp; done) | (simp; omega))]; first | assumption | (simp; done) | (simp [*]; done) | simp [go_sem, *])
  have HB3 := Lib.hid (rebase HB2.out hb)
  clear hb HB2 cw2_0_0 cw2_0_1 cw2_1_0 cw2_1_1 lw2_0 lw2_1
  go_wp2_with fail
  refine (valid_any a b _).mono ?_
  rintro e w4 ⟨rfl, hb⟩
  have lw4_0 : w.heap.size < w4.heap.size := by (have hsz := hb.size; first | omega | (simp at hsz; omega))
  have cw4_0_0 : w4.cell? ⟨w.heap.size, 0, none⟩ = some (.int .i64 a) := by (rw [hb.cell (by first | omega | (simp; done) | (simp; omega))]; first | assumption | (simp; done) | (simp [*]; done) | simp [go_sem, *])
  have cw4_0_1 : w4.cell? ⟨w.heap.size, 1, none⟩ = some (.int .i64 b) := by (rw [hb.cell (by first | omega | (simp; done) | (simp; omega))]; first | assumption | (simp; done) | (simp [*]; done) | simp [go_sem, *])
  have lw4_1 : w.heap.size + 1 < w4.heap.size := by (have hsz := hb.size; first | omega | (simp at hsz; omega))
  have cw4_1_0 : w4.cell? ⟨w.heap.size + 1, 0, none⟩ = some (.int .i64 c) := by (rw [hb.cell (by first | omega | (simp; done) | (simp; omega))]; first | assumption | (simp; done) | (simp [*]; done) | simp [go_sem, *])
  have cw4_1_1 : w4.cell? ⟨w.heap.size + 1, 1, none⟩ = some (.int .i64 d) := by (rw [hb.cell (by first | omega | (simp; done) | (simp; omega))]; first | assumption | (simp; done) | (simp [*]; done) | simp [go_sem, *])
  have HB4 := Lib.hid (rebase HB3.out hb)
  rw [V.out]
  clear hb HB3 cw3_0_0 cw3_0_1 cw3_1_0 cw3_1_1 lw3_0 lw3_1
  go_wp2_with fail
  go_region_held3 (fun w' => w'.cell? ⟨w.heap.size, 0, none⟩ = some (.int .i64 a) ∧ w'.cell? ⟨w.heap.size, 1, none⟩ = some (.int .i64 b) ∧ w'.cell? ⟨w.heap.size + 1, 0, none⟩ = some (.int .i64 c) ∧ w'.cell? ⟨w.heap.size + 1, 1, none⟩ = some (.int .i64 d) ∧ Hid (Below w4.heap.size w4 w'))
    (first | assumption | exact keep4 (by assumption) (by assumption) (Nat.le_refl _) | exact start4 cw4_0_0 cw4_0_1 cw4_1_0 cw4_1_1)
    (first | (go_at_call 11; refine (OF.out _).mono ?_; rintro e w5 ⟨rfl, hb'⟩; have HB' := Lib.hid hb'; clear hb'))
  rename_i hH
  obtain ⟨cw5_0_0, cw5_0_1, cw5_1_0, cw5_1_1, hb5⟩ := hH
  have lw5_0 : w.heap.size < w5.heap.size := Nat.lt_of_lt_of_le lw4_0 hb5.out.size
  have lw5_1 : w.heap.size + 1 < w5.heap.size := Nat.lt_of_lt_of_le lw4_1 hb5.out.size
  have HB5 := Lib.hid (rebase HB4.out hb5.out)
  clear hb5 HB' HB4 cw4_0_0 cw4_0_1 cw4_1_0 cw4_1_1 lw4_0 lw4_1
  go_wp2_with fail
  refine (valid_any c d _).mono ?_
  rintro e w6 ⟨rfl, hb⟩
  have lw6_0 : w.heap.size < w6.heap.size := by (have hsz := hb.size; first | omega | (simp at hsz; omega))
  have cw6_0_0 : w6.cell? ⟨w.heap.size, 0, none⟩ = some (.int .i64 a) := by (rw [hb.cell (by first | omega | (simp; done) | (simp; omega))]; first | assumption | (simp; done) | (simp [*]; done) | simp [go_sem, *])
  have cw6_0_1 : w6.cell? ⟨w.heap.size, 1, none⟩ = some (.int .i64 b) := by (rw [hb.cell (by first | omega | (simp; done) | (simp; omega))]; first | assumption | (simp; done) | (simp [*]; done) | simp [go_sem, *])
  have lw6_1 : w.heap.size + 1 < w6.heap.size := by (have hsz := hb.size; first | omega | (simp at hsz; omega))
  have cw6_1_0 : w6.cell? ⟨w.heap.size + 1, 0, none⟩ = some (.int .i64 c) := by (rw [hb.cell (by first | omega | (simp; done) | (simp; omega))]; first | assumption | (simp; done) | (simp [*]; done) | simp [go_sem, *])
  have cw6_1_1 : w6.cell? ⟨w.heap.size + 1, 1, none⟩ = some (.int .i64 d) := by (rw [hb.cell (by first | omega | (simp; done) | (simp; omega))]; first | assumption | (simp; done) | (simp [*]; done) | simp [go_sem, *])
  have HB6 := Lib.hid (rebase HB5.out hb)
  clear hb HB5 cw5_0_0 cw5_0_1 cw5_1_0 cw5_1_1 lw5_0 lw5_1
  cases hv : validB c d with
  | false =>
    clear HQ1 HQ2 HQ3 HQ4
    go_wp2_with fail
    refine (ON.out _).mono ?_
    rintro e w7 ⟨rfl, hb⟩
    have lw7_0 : w.heap.size < w7.heap.size := by (have hsz := hb.size; first | omega | (simp at hsz; omega))
    have cw7_0_0 : w7.cell? ⟨w.heap.size, 0, none⟩ = some (.int .i64 a) := by (rw [hb.cell (by first | omega | (simp; done) | (simp; omega))]; first | assumption | (simp; done) | (simp [*]; done) | simp [go_sem, *])
    have cw7_0_1 : w7.cell? ⟨w.heap.size, 1, none⟩ = some (.int .i64 b) := by (rw [hb.cell (by first | omega | (simp; done) | (simp; omega))]; first | assumption | (simp; done) | (simp [*]; done) | simp [go_sem, *])
    have HB7 := Lib.hid (rebase HB6.out hb)
    clear hb HB6
    go_wp2_with fail
    refine (OH.out _).mono ?_
    rintro e w8 ⟨rfl, hb⟩
    have HB8 := Lib.hid (rebase HB7.out hb)
    clear hb HB7
    go_wp2_with fail
    go_ret
    exact ⟨rfl, HB8.out⟩
  | true =>
    have q1 := HQ1.out hv
    have q2 := HQ2.out hv
    have q3 := HQ3.out
    have q4 := HQ4.out
    clear HQ1 HQ2 HQ3 HQ4
    cases p <;> cases q
    all_goals
      go_wp2_with fail
      refine (ON.out _).mono ?_
      rintro e w7 ⟨rfl, hb⟩
      have lw7_0 : w.heap.size < w7.heap.size := by (have hsz := hb.size; first | omega | (simp at hsz; omega))
      have cw7_0_0 : w7.cell? ⟨w.heap.size, 0, none⟩ = some (.int .i64 a) := by (rw [hb.cell (by first | omega | (simp; done) | (simp; omega))]; first | assumption | (simp; done) | (simp [*]; done) | simp [go_sem, *])
      have cw7_0_1 : w7.cell? ⟨w.heap.size, 1, none⟩ = some (.int .i64 b) := by (rw [hb.cell (by first | omega | (simp; done) | (simp; omega))]; first | assumption | (simp; done) | (simp [*]; done) | simp [go_sem, *])
      have HB7 := Lib.hid (rebase HB6.out hb)
      clear hb HB6
      go_wp2_with fail
      refine (OH.out _).mono ?_
      rintro e w8 ⟨rfl, hb⟩
      have HB8 := Lib.hid (rebase HB7.out hb)
      clear hb HB7
      go_wp2_with fail
      go_ret
      exact ⟨rfl, HB8.out⟩

theorem points_any (a b c d : Int) (w : World) :
    Calls Try.prog 3 #[.agg #[.int .i64 a, .int .i64 b], .agg #[.int .i64 c, .int .i64 d]] w fun e w' => e = .returned (.bool true) ∧ Below w.heap.size w w' := by
  cases h : validB a b with
  | false => exact points_no a b c d h w
  | true =>
    have v := valid_bounds h
    refine points_yes a b c d (a == c) (b == d) h (fun hv => ?_) (fun hv => ?_) rfl rfl w
    · have v2 := valid_bounds hv
      have := eql_fb a c ⟨by omega, by omega⟩ ⟨by omega, by omega⟩
      simp only [pR, hv, if_true]
      rw [this]
      rfl
    · have v2 := valid_bounds hv
      have := eql_fb b d ⟨by omega, by omega⟩ ⟨by omega, by omega⟩
      simp only [pI, hv, if_true]
      rw [this]
      rfl
end Go.Proofs.Ytjoipdjdonakeaa
