/- The walks of package span's functions: Of, left, Both, Cut, Check, Near. -/
import Derived.Test.YtjoipdjdonakeaaWb
import Derived.Deep.RegionHeld3
namespace Go.Proofs.Ytjoipdjdonakeaa
open Go.RowKit

theorem conv_int (a : Int) (h0 : 0 ≤ a) (h1 : a ≤ 1099511627776) (w : World) : (convert 29 3 (.float .f64 (fb a))).run Try.prog w = .ok (.int .i64 a) w := by
  refine run_convert_float_int w 29 3 .f64 .i64 (fb a) a (by kernel_rfl) (by kernel_rfl) ?_
  unfold floatToIntVal
  rw [toInt_fb a h0 ⟨by omega, by omega⟩]
  have : IntKind.i64.min ≤ a ∧ a ≤ IntKind.i64.max := by
    have e1 : IntKind.i64.min = -9223372036854775808 := by decide
    have e2 : IntKind.i64.max = 9223372036854775807 := by decide
    omega
  simp only [if_pos this]

set_option maxHeartbeats 400000 in
theorem of_yes (a b : Int) (h0 : 0 ≤ a) (h1 : a ≤ b) (h2 : b ≤ 1099511627776) (w : World) :
    Calls Try.prog 11 #[.complex .f64 (fb a) (fb b)] w fun e w' => e = .returned (.agg #[.int .i64 a, .int .i64 b]) ∧ Below w.heap.size w w' := by
  have c1 := conv_int a h0 (by omega)
  have c2 := conv_int b (by omega) h2
  have e1 := gtr_fb a b ⟨by omega, by omega⟩ ⟨by omega, by omega⟩
  rw [decide_eq_false (by omega)] at e1
  have W1 := Lib.hid (whole_yes a h0 (by omega))
  have W2 := Lib.hid (whole_yes b (by omega) h2)
  go_enter Try.func11, Try.ntmps11
  go_wp2_with fail
  refine (W1.out _).mono ?_
  rintro e w1 ⟨rfl, rfl⟩
  go_wp2_with fail
  refine (W2.out _).mono ?_
  rintro e w1 ⟨rfl, rfl⟩
  go_wp2_with fail
  exact bodyPost_ret (v := .agg #[.int .i64 a, .int .i64 b]) (by simp [results, Try.results11, go_sem]) rfl ⟨rfl, (Below.refl _ _).alloc (Nat.le_refl _) _⟩

set_option maxHeartbeats 400000 in
theorem of_gt (a b : Int) (h0 : 0 ≤ a) (h1 : b < a) (h2 : a ≤ 1099511627776) (h3 : 0 ≤ b) (w : World) :
    Calls Try.prog 11 #[.complex .f64 (fb a) (fb b)] w fun e w' => e = .returned (.agg #[.int .i64 0, .int .i64 0]) ∧ Below w.heap.size w w' := by
  have e1 := gtr_fb a b ⟨by omega, by omega⟩ ⟨by omega, by omega⟩
  rw [decide_eq_true h1] at e1
  have W1 := Lib.hid (whole_yes a h0 (by omega))
  have W2 := Lib.hid (whole_yes b (by omega) (by omega))
  go_enter Try.func11, Try.ntmps11
  go_wp2_with fail
  refine (W1.out _).mono ?_
  rintro e w1 ⟨rfl, rfl⟩
  go_wp2_with fail
  refine (W2.out _).mono ?_
  rintro e w1 ⟨rfl, rfl⟩
  go_wp2_with fail
  exact bodyPost_ret (v := .agg #[.int .i64 0, .int .i64 0]) (by simp [results, Try.results11, go_sem]) rfl ⟨rfl, (Below.refl _ _).alloc (Nat.le_refl _) _⟩

set_option maxHeartbeats 400000 in
theorem of_odd (x y : Nat) (h : ∀ w, Calls Try.prog 17 #[.float .f64 x] w fun e w' => e = .returned (.bool false) ∧ w = w') (w : World) :
    Calls Try.prog 11 #[.complex .f64 x y] w fun e w' => e = .returned (.agg #[.int .i64 0, .int .i64 0]) ∧ Below w.heap.size w w' := by
  have W1 := Lib.hid h
  clear h
  go_enter Try.func11, Try.ntmps11
  go_wp2_with fail
  refine (W1.out _).mono ?_
  rintro e w1 ⟨rfl, rfl⟩
  go_wp2_with fail
  exact bodyPost_ret (v := .agg #[.int .i64 0, .int .i64 0]) (by simp [results, Try.results11, go_sem]) rfl ⟨rfl, (Below.refl _ _).alloc (Nat.le_refl _) _⟩

set_option maxHeartbeats 400000 in
theorem left_yes (a b : Int) (h0 : 0 ≤ a) (h1 : a < b) (h2 : b ≤ 1099511627776) (w : World) :
    Calls Try.prog 18 #[.complex .f64 (fb a) (fb b)] w fun e w' => e = .returned (.tuple #[.agg #[.int .i64 a, .int .i64 b], .int .i64 0]) ∧ Below w.heap.size w w' := by
  have e1 := leq_fb b a ⟨by omega, by omega⟩ ⟨by omega, by omega⟩
  rw [decide_eq_false (by omega)] at e1
  have W1 := Lib.hid (of_yes a b h0 (by omega) h2)
  go_enter Try.func18, Try.ntmps18
  go_wp2_with fail
  refine (W1.out _).mono ?_
  rintro e w1 ⟨rfl, hb⟩
  have HB := Lib.hid hb
  have hcell := hb.cell (p := ⟨w.heap.size, 0, none⟩) (by simp)
  have hcell2 := hb.cell (p := ⟨w.heap.size, 1, none⟩) (by simp)
  have hfr := hb.frozen (p := ⟨w.heap.size, 0, none⟩) (by simp)
  have hfr2 := hb.frozen (p := ⟨w.heap.size, 1, none⟩) (by simp)
  have hsz := hb.size
  clear hb
  go_wp2_with fail
  exact bodyPost_ret (v := .tuple #[.agg #[.int .i64 a, .int .i64 b], .int .i64 0]) (by simp [results, Try.results18, go_sem, hcell, hcell2]) rfl
    ⟨rfl, ((((Below.refl _ _).alloc (Nat.le_refl _) _).trans (HB.out.mono (by simp))).setCell (by simp) _).setCell (by simp) _⟩

set_option maxHeartbeats 400000 in
theorem left_no (a b : Int) (h0 : 0 ≤ b) (h1 : b ≤ a) (h2 : a ≤ 1099511627776) (w : World) :
    Calls Try.prog 18 #[.complex .f64 (fb a) (fb b)] w fun e w' => e = .returned (.tuple #[.agg #[.int .i64 0, .int .i64 0], .int .i64 63]) ∧ Below w.heap.size w w' := by
  have e1 := leq_fb b a ⟨by omega, by omega⟩ ⟨by omega, by omega⟩
  rw [decide_eq_true h1] at e1
  go_enter Try.func18, Try.ntmps18
  go_wp2_with fail
  exact bodyPost_ret (v := .tuple #[.agg #[.int .i64 0, .int .i64 0], .int .i64 63]) (by simp [results, Try.results18, go_sem]) rfl
    ⟨rfl, (Below.refl _ _).alloc (Nat.le_refl _) _⟩

theorem valid_bounds {f t : Int} (h : validB f t = true) : 0 ≤ f ∧ f ≤ t ∧ t ≤ 1099511627776 := by
  simp [validB, okT] at h; omega

/-- what 'max' and 'min' of such words are -/
theorem max_fb2 (a b : Int) (ha : Ok a) (hb : Ok b) (P : Program) (w : World) : (Builtin.max2 (.float .f64 (fb a)) (.float .f64 (fb b))).run P w = .ok (.float .f64 (fb (max a b))) w := by
  have e : FloatKind.f64.format.order (fb a) (fb b) = some (compare a b) := order_fb a b ha hb
  simp only [Builtin.max2, e]
  rcases Int.lt_trichotomy a b with h | h | h
  · rw [cmp_lt h]; simp [Int.max_eq_right (Int.le_of_lt h)]
  · subst h; rw [cmp_eq]; simp
  · rw [cmp_gt h]; simp [Int.max_eq_left (Int.le_of_lt h)]
theorem min_fb2 (a b : Int) (ha : Ok a) (hb : Ok b) (P : Program) (w : World) : (Builtin.min2 (.float .f64 (fb a)) (.float .f64 (fb b))).run P w = .ok (.float .f64 (fb (min a b))) w := by
  have e : FloatKind.f64.format.order (fb a) (fb b) = some (compare a b) := order_fb a b ha hb
  simp only [Builtin.min2, e]
  rcases Int.lt_trichotomy a b with h | h | h
  · rw [cmp_lt h]; simp [Int.min_eq_left (Int.le_of_lt h)]
  · subst h; rw [cmp_eq]; simp
  · rw [cmp_gt h]; simp [Int.min_eq_right (Int.le_of_lt h)]

theorem max_run (a b : Int) (ha : Ok a) (hb : Ok b) (ats : Array TypeId) (t : TypeId) (w : World) : Sem.run Try.prog (Builtin.max_ ats t #[.float .f64 (fb a), .float .f64 (fb b)]) w = .ok (.float .f64 (fb (max a b))) w := by
  have := max_fb2 a b ha hb Try.prog w
  simp [Builtin.max_, this]
theorem min_run (a b : Int) (ha : Ok a) (hb : Ok b) (ats : Array TypeId) (t : TypeId) (w : World) : Sem.run Try.prog (Builtin.min_ ats t #[.float .f64 (fb a), .float .f64 (fb b)]) w = .ok (.float .f64 (fb (min a b))) w := by
  have := min_fb2 a b ha hb Try.prog w
  simp [Builtin.min_, this]
theorem rebase {w W w1 : World} (h : Below w.heap.size w W) (hb : Below W.heap.size W w1) : Below w.heap.size w w1 := h.trans (hb.mono h.size)
def SV (a b : Int) : Value := .agg #[.int .i64 a, .int .i64 b]
theorem max0 {a b : Int} (ha : 0 ≤ a) : 0 ≤ max a b := by omega

/-- for a region: two cells of each of two blocks -/
theorem keep4 {B : Nat} {W w1 w2 : World} {x y : Nat} {v0 v1 u0 u1 : Value} (hb : Hid (Below w1.heap.size w1 w2))
    (h : w1.cell? ⟨x, 0, none⟩ = some v0 ∧ w1.cell? ⟨x, 1, none⟩ = some v1 ∧ w1.cell? ⟨y, 0, none⟩ = some u0 ∧ w1.cell? ⟨y, 1, none⟩ = some u1 ∧ Hid (Below B W w1)) (hB : B ≤ W.heap.size) :
    w2.cell? ⟨x, 0, none⟩ = some v0 ∧ w2.cell? ⟨x, 1, none⟩ = some v1 ∧ w2.cell? ⟨y, 0, none⟩ = some u0 ∧ w2.cell? ⟨y, 1, none⟩ = some u1 ∧ Hid (Below B W w2) := by
  obtain ⟨c0, c1, c2, c3, h⟩ := h
  exact ⟨cell_later hb.out c0, cell_later hb.out c1, cell_later hb.out c2, cell_later hb.out c3, h.out.trans (hb.out.mono (Nat.le_trans hB h.out.size))⟩
theorem start4 {B : Nat} {W : World} {x y : Nat} {v0 v1 u0 u1 : Value}
    (c0 : W.cell? ⟨x, 0, none⟩ = some v0) (c1 : W.cell? ⟨x, 1, none⟩ = some v1) (c2 : W.cell? ⟨y, 0, none⟩ = some u0) (c3 : W.cell? ⟨y, 1, none⟩ = some u1) :
    W.drew.cell? ⟨x, 0, none⟩ = some v0 ∧ W.drew.cell? ⟨x, 1, none⟩ = some v1 ∧ W.drew.cell? ⟨y, 0, none⟩ = some u0 ∧ W.drew.cell? ⟨y, 1, none⟩ = some u1 ∧ Hid (Below B W W.drew) := ⟨c0, c1, c2, c3, (Below.refl _ _).drew⟩

set_option maxHeartbeats 1000000 in
theorem both_gen (a b c d r0 r1 ec : Int) (h1 : validB a b = true) (h2 : validB c d = true)
    (hl : ∀ w, Calls Try.prog 18 #[.complex .f64 (fb (max a c)) (fb (min b d))] w fun e w' => e = .returned (.tuple #[.agg #[.int .i64 r0, .int .i64 r1], .int .i64 ec]) ∧ Below w.heap.size w w') (w : World) :
    Calls Try.prog 12 #[.agg #[.int .i64 a, .int .i64 b], .agg #[.int .i64 c, .int .i64 d]] w fun e w' => e = .returned (.tuple #[.agg #[.int .i64 r0, .int .i64 r1], .int .i64 ec]) ∧ Below w.heap.size w w' := by
  have V1 := Lib.hid h1
  have V2 := Lib.hid h2
  have HL := Lib.hid hl
  clear h1 h2 hl
  go_enter Try.func12, Try.ntmps12
  go_wp2_with fail
  refine (valid_any a b _).mono ?_
  rintro e w1 ⟨rfl, hb1⟩
  rw [V1.out]
  have lw1_0 : w.heap.size < w1.heap.size := by (have hsz := hb1.size; first | omega | (simp at hsz; omega))
  have cw1_0_0 : w1.cell? ⟨w.heap.size, 0, none⟩ = some (.int .i64 a) := by (rw [hb1.cell (by first | omega | (simp; done) | (simp; omega))]; first | assumption | (simp; done) | (simp [*]; done) | simp [go_sem, *])
  have cw1_0_1 : w1.cell? ⟨w.heap.size, 1, none⟩ = some (.int .i64 b) := by (rw [hb1.cell (by first | omega | (simp; done) | (simp; omega))]; first | assumption | (simp; done) | (simp [*]; done) | simp [go_sem, *])
  have lw1_1 : w.heap.size + 1 < w1.heap.size := by (have hsz := hb1.size; first | omega | (simp at hsz; omega))
  have cw1_1_0 : w1.cell? ⟨w.heap.size + 1, 0, none⟩ = some (.int .i64 c) := by (rw [hb1.cell (by first | omega | (simp; done) | (simp; omega))]; first | assumption | (simp; done) | (simp [*]; done) | simp [go_sem, *])
  have cw1_1_1 : w1.cell? ⟨w.heap.size + 1, 1, none⟩ = some (.int .i64 d) := by (rw [hb1.cell (by first | omega | (simp; done) | (simp; omega))]; first | assumption | (simp; done) | (simp [*]; done) | simp [go_sem, *])
  have lw1_2 : w.heap.size + 1 + 1 < w1.heap.size := by (have hsz := hb1.size; first | omega | (simp at hsz; omega))
  have cw1_2_0 : w1.cell? ⟨w.heap.size + 1 + 1, 0, none⟩ = some (.int .i64 0) := by (rw [hb1.cell (by first | omega | (simp; done) | (simp; omega))]; first | assumption | (simp; done) | (simp [*]; done) | simp [go_sem, *])
  have fw1_2_0 : w1.frozen? ⟨w.heap.size + 1 + 1, 0, none⟩ = false := by (rw [hb1.frozen (by first | omega | (simp; done) | (simp; omega))]; first | assumption | (simp; done) | (simp [*]; done) | simp [go_sem, *])
  have cw1_2_1 : w1.cell? ⟨w.heap.size + 1 + 1, 1, none⟩ = some (.int .i64 0) := by (rw [hb1.cell (by first | omega | (simp; done) | (simp; omega))]; first | assumption | (simp; done) | (simp [*]; done) | simp [go_sem, *])
  have fw1_2_1 : w1.frozen? ⟨w.heap.size + 1 + 1, 1, none⟩ = false := by (rw [hb1.frozen (by first | omega | (simp; done) | (simp; omega))]; first | assumption | (simp; done) | (simp [*]; done) | simp [go_sem, *])
  have hz1 : w.heap.size + 1 + 1 + 1 ≤ w1.heap.size := by have := hb1.size; simpa using this
  have HB1 := Lib.hid (rebase ((((Below.refl _ _).alloc (Nat.le_refl _) _).alloc (by simp) _).alloc (by simp; omega) _) hb1)
  clear hb1
  go_wp2_with fail
  refine (valid_any c d _).mono ?_
  rintro e w2 ⟨rfl, hb2⟩
  rw [V2.out]
  have lw2_0 : w.heap.size < w2.heap.size := by (have hsz := hb2.size; first | omega | (simp at hsz; omega))
  have cw2_0_0 : w2.cell? ⟨w.heap.size, 0, none⟩ = some (.int .i64 a) := by (rw [hb2.cell (by first | omega | (simp; done) | (simp; omega))]; first | assumption | (simp; done) | (simp [*]; done) | simp [go_sem, *])
  have cw2_0_1 : w2.cell? ⟨w.heap.size, 1, none⟩ = some (.int .i64 b) := by (rw [hb2.cell (by first | omega | (simp; done) | (simp; omega))]; first | assumption | (simp; done) | (simp [*]; done) | simp [go_sem, *])
  have lw2_1 : w.heap.size + 1 < w2.heap.size := by (have hsz := hb2.size; first | omega | (simp at hsz; omega))
  have cw2_1_0 : w2.cell? ⟨w.heap.size + 1, 0, none⟩ = some (.int .i64 c) := by (rw [hb2.cell (by first | omega | (simp; done) | (simp; omega))]; first | assumption | (simp; done) | (simp [*]; done) | simp [go_sem, *])
  have cw2_1_1 : w2.cell? ⟨w.heap.size + 1, 1, none⟩ = some (.int .i64 d) := by (rw [hb2.cell (by first | omega | (simp; done) | (simp; omega))]; first | assumption | (simp; done) | (simp [*]; done) | simp [go_sem, *])
  have lw2_2 : w.heap.size + 1 + 1 < w2.heap.size := by (have hsz := hb2.size; first | omega | (simp at hsz; omega))
  have cw2_2_0 : w2.cell? ⟨w.heap.size + 1 + 1, 0, none⟩ = some (.int .i64 0) := by (rw [hb2.cell (by first | omega | (simp; done) | (simp; omega))]; first | assumption | (simp; done) | (simp [*]; done) | simp [go_sem, *])
  have fw2_2_0 : w2.frozen? ⟨w.heap.size + 1 + 1, 0, none⟩ = false := by (rw [hb2.frozen (by first | omega | (simp; done) | (simp; omega))]; first | assumption | (simp; done) | (simp [*]; done) | simp [go_sem, *])
  have cw2_2_1 : w2.cell? ⟨w.heap.size + 1 + 1, 1, none⟩ = some (.int .i64 0) := by (rw [hb2.cell (by first | omega | (simp; done) | (simp; omega))]; first | assumption | (simp; done) | (simp [*]; done) | simp [go_sem, *])
  have fw2_2_1 : w2.frozen? ⟨w.heap.size + 1 + 1, 1, none⟩ = false := by (rw [hb2.frozen (by first | omega | (simp; done) | (simp; omega))]; first | assumption | (simp; done) | (simp [*]; done) | simp [go_sem, *])
  have hz2 := hb2.size
  have HB2 := Lib.hid (rebase HB1.out hb2)
  clear hb2 HB1
  clear cw1_0_0 cw1_0_1 cw1_1_0 cw1_1_1 cw1_2_0 cw1_2_1 fw1_2_0 fw1_2_1
  have hz3 : w.heap.size + 1 + 1 + 1 ≤ w2.heap.size := by omega
  clear hz1 hz2
  go_wp2_with fail
  go_region_held3 (fun w' => w'.cell? ⟨w.heap.size, 0, none⟩ = some (.int .i64 a) ∧ w'.cell? ⟨w.heap.size, 1, none⟩ = some (.int .i64 b) ∧ w'.cell? ⟨w.heap.size + 1, 0, none⟩ = some (.int .i64 c) ∧ w'.cell? ⟨w.heap.size + 1, 1, none⟩ = some (.int .i64 d) ∧ Hid (Below w2.heap.size w2 w')) (first | exact start4 cw2_0_0 cw2_0_1 cw2_1_0 cw2_1_1 | exact keep4 (by assumption) (by assumption) (Nat.le_refl _))
    (first | (go_at_call_of 9 (Value.int IntKind.i64 b); refine (point_yes a b V1.out _).mono ?_; rintro e w3 ⟨rfl, hb'⟩; have HB' := Lib.hid hb'; clear hb') | (go_at_call_of 9 (Value.int IntKind.i64 d); refine (point_yes c d V2.out _).mono ?_; rintro e w3 ⟨rfl, hb'⟩; have HB' := Lib.hid hb'; clear hb'))
  rename_i hH
  obtain ⟨hd0, hd1, hd2, hd3, hb3⟩ := hH
  have hb := hb3.out
  clear hb3 hd0 hd1 hd2 hd3
  have lw3_0 : w.heap.size + 1 + 1 < w3.heap.size := by (have hsz := hb.size; first | omega | (simp at hsz; omega))
  have cw3_0_0 : w3.cell? ⟨w.heap.size + 1 + 1, 0, none⟩ = some (.int .i64 0) := by (rw [hb.cell (by first | omega | (simp; done) | (simp; omega))]; first | assumption | (simp; done) | (simp [*]; done) | simp [go_sem, *])
  have fw3_0_0 : w3.frozen? ⟨w.heap.size + 1 + 1, 0, none⟩ = false := by (rw [hb.frozen (by first | omega | (simp; done) | (simp; omega))]; first | assumption | (simp; done) | (simp [*]; done) | simp [go_sem, *])
  have cw3_0_1 : w3.cell? ⟨w.heap.size + 1 + 1, 1, none⟩ = some (.int .i64 0) := by (rw [hb.cell (by first | omega | (simp; done) | (simp; omega))]; first | assumption | (simp; done) | (simp [*]; done) | simp [go_sem, *])
  have fw3_0_1 : w3.frozen? ⟨w.heap.size + 1 + 1, 1, none⟩ = false := by (rw [hb.frozen (by first | omega | (simp; done) | (simp; omega))]; first | assumption | (simp; done) | (simp [*]; done) | simp [go_sem, *])
  have hz4 : w.heap.size + 1 + 1 + 1 ≤ w3.heap.size := Nat.le_trans hz3 hb.size
  have HB3 := Lib.hid (rebase HB2.out hb)
  clear hb cw2_2_0 cw2_2_1 fw2_2_0 fw2_2_1 hz3 HB2
  have v1 := valid_bounds V1.out
  have v2 := valid_bounds V2.out
  have m1 := max_run a c ⟨by omega, by omega⟩ ⟨by omega, by omega⟩
  have m2 := min_run b d ⟨by omega, by omega⟩ ⟨by omega, by omega⟩
  clear v1 v2
  go_wp2_with fail
  refine (HL.out _).mono ?_
  rintro e w4 ⟨rfl, hb⟩
  have lw4_0 : w.heap.size + 1 + 1 < w4.heap.size := by (have hsz := hb.size; first | omega | (simp at hsz; omega))
  have cw4_0_0 : w4.cell? ⟨w.heap.size + 1 + 1, 0, none⟩ = some (.int .i64 0) := by (rw [hb.cell (by first | omega | (simp; done) | (simp; omega))]; first | assumption | (simp; done) | (simp [*]; done) | simp [go_sem, *])
  have fw4_0_0 : w4.frozen? ⟨w.heap.size + 1 + 1, 0, none⟩ = false := by (rw [hb.frozen (by first | omega | (simp; done) | (simp; omega))]; first | assumption | (simp; done) | (simp [*]; done) | simp [go_sem, *])
  have cw4_0_1 : w4.cell? ⟨w.heap.size + 1 + 1, 1, none⟩ = some (.int .i64 0) := by (rw [hb.cell (by first | omega | (simp; done) | (simp; omega))]; first | assumption | (simp; done) | (simp [*]; done) | simp [go_sem, *])
  have fw4_0_1 : w4.frozen? ⟨w.heap.size + 1 + 1, 1, none⟩ = false := by (rw [hb.frozen (by first | omega | (simp; done) | (simp; omega))]; first | assumption | (simp; done) | (simp [*]; done) | simp [go_sem, *])
  have HB4 := Lib.hid (rebase HB3.out hb)
  clear hb cw3_0_0 cw3_0_1 fw3_0_0 fw3_0_1
  go_wp2_with fail
  exact bodyPost_ret (v := .tuple #[.agg #[.int .i64 r0, .int .i64 r1], .int .i64 ec]) (by simp [results, Try.results12, go_sem, cw4_0_0, cw4_0_1]) rfl
    ⟨rfl, (HB4.out.setCell (by simp; omega) _).setCell (by simp; omega) _⟩
end Go.Proofs.Ytjoipdjdonakeaa
