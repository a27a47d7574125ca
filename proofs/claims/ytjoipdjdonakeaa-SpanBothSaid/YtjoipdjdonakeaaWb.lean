/- The walks of package span's functions on numbers that stand for spans: Trunc, whole, Point, Of, left. -/
import Derived.Test.YtjoipdjdonakeaaWa
namespace Go.Proofs.Ytjoipdjdonakeaa
open Go.RowKit

theorem dec_of (x : Nat) (d : Ieee.Datum) (h : FloatKind.f64.decode x = d) (hd : ∃ s m i, d = .number s m i) (y : Nat) (hy : FloatKind.f64.encode (d.integral .zero) = y) (P : Program) (w : World) :
    (Extern.MathFloor.toIntegral "math.archTrunc" .zero #[.float .f64 x]).run P w = .ok (.float .f64 y) w := by
  obtain ⟨s, m, i, rfl⟩ := hd
  show Sem.run P (match FloatKind.f64.decode x with | .nan s t => _ | d => _) w = _
  rw [h]
  rw [← hy]
  rfl

theorem call20 (x y : Nat) (hx : ∃ s m i, FloatKind.f64.decode x = .number s m i) (hy : FloatKind.f64.encode ((FloatKind.f64.decode x).integral .zero) = y) (w : World) :
    Sem.run Try.prog (callFunc 20 #[.float .f64 x]) w = .ok (.value (.float .f64 y)) w := by
  rw [run_callFunc_extern (fn := Try.f20) (e := Extern.MathFloor.toIntegral "math.archTrunc" .zero) Try.func20 (by kernel_rfl) (by kernel_rfl) (by kernel_rfl) (by kernel_rfl)]
  rw [dec_of x _ rfl (by obtain ⟨s, m, i, h⟩ := hx; exact ⟨s, m, i, h⟩) y hy]
  rfl

theorem trunc_x (x y : Nat) (hx : ∃ s m i, FloatKind.f64.decode x = .number s m i) (hy : FloatKind.f64.encode ((FloatKind.f64.decode x).integral .zero) = y) (w : World) :
    Calls Try.prog 19 #[.float .f64 x] w fun e w' => e = .returned (.float .f64 y) ∧ w = w' := by
  have h20 := call20 x y hx hy
  clear hx hy
  go_enter Try.func19, Try.ntmps19
  go_wp2
  go_ret
  exact ⟨rfl, rfl⟩

theorem cmp_lt {a b : Int} (h : a < b) : compare a b = .lt := by simp [compare, compareOfLessAndEq, h]
theorem cmp_eq (a : Int) : compare a a = .eq := by simp [compare, compareOfLessAndEq]
theorem cmp_gt {a b : Int} (h : b < a) : compare a b = .gt := by
  simp only [compare, compareOfLessAndEq]
  rw [if_neg (by omega), if_neg (by omega)]

/-- '<=' and '>' and '==' of such words -/
theorem leq_fb (a b : Int) (ha : Ok a) (hb : Ok b) : (FloatKind.f64.format.order (fb a) (fb b) == some .lt || FloatKind.f64.format.order (fb a) (fb b) == some .eq) = decide (a ≤ b) := by
  show (Ieee.double.order (fb a) (fb b) == some .lt || Ieee.double.order (fb a) (fb b) == some .eq) = _
  rw [order_fb a b ha hb]
  rcases Int.lt_trichotomy a b with h | h | h
  · rw [cmp_lt h]; simp; omega
  · subst h; rw [cmp_eq]; simp
  · rw [cmp_gt h]; simp; omega
theorem gtr_fb (a b : Int) (ha : Ok a) (hb : Ok b) : (FloatKind.f64.format.order (fb a) (fb b) == some .gt) = decide (b < a) := by
  show (Ieee.double.order (fb a) (fb b) == some .gt) = _
  rw [order_fb a b ha hb]
  rcases Int.lt_trichotomy a b with h | h | h
  · rw [cmp_lt h]; simp; omega
  · subst h; rw [cmp_eq]; simp
  · rw [cmp_gt h]; simp; omega
theorem eql_fb (a b : Int) (ha : Ok a) (hb : Ok b) : (FloatKind.f64.format.order (fb a) (fb b) == some .eq) = decide (a = b) := by
  show (Ieee.double.order (fb a) (fb b) == some .eq) = _
  rw [order_fb a b ha hb]
  rcases Int.lt_trichotomy a b with h | h | h
  · rw [cmp_lt h]; simp; omega
  · subst h; rw [cmp_eq]; simp
  · rw [cmp_gt h]; simp; omega
theorem neg_leq (a b : Int) (ha : Ok a) (h0 : 0 ≤ b) (hb : Ok b) : (FloatKind.f64.format.order (fb a) (fb b + 9223372036854775808) == some .lt || FloatKind.f64.format.order (fb a) (fb b + 9223372036854775808) == some .eq) = decide (a ≤ -b) := by
  show (Ieee.double.order (fb a) (fb b + 9223372036854775808) == some .lt || Ieee.double.order (fb a) (fb b + 9223372036854775808) == some .eq) = _
  rw [order_neg a b ha h0 hb]
  rcases Int.lt_trichotomy a (-b) with h | h | h
  · rw [cmp_lt h]; simp; omega
  · subst h; rw [cmp_eq]; simp
  · rw [cmp_gt h]; simp; omega

set_option maxHeartbeats 400000 in
theorem whole_yes (a : Int) (h0 : 0 ≤ a) (h1 : a ≤ 1099511627776) (w : World) :
    Calls Try.prog 17 #[.float .f64 (fb a)] w fun e w' => e = .returned (.bool true) ∧ w = w' := by
  have ha : Ok a := ⟨by omega, by omega⟩
  have h19 := fun w => trunc_x (fb a) (fb a) (decode_fb a ha) (trunc_fb a h0 ha) w
  have e1 := eql_fb a a ha ha
  have e2 := leq_fb 0 a ⟨by omega, by omega⟩ ha
  have e3 := leq_fb a 1099511627776 ha ⟨by omega, by omega⟩
  rw [decide_eq_true rfl] at e1
  rw [decide_eq_true h0, zero_fb] at e2
  rw [decide_eq_true h1, ← max_fb] at e3
  have H := Lib.hid h19
  clear h19 ha
  go_enter Try.func17, Try.ntmps17
  go_wp2_with (go_at_call 19; refine (H.out _).mono ?_; rintro e w' ⟨rfl, rfl⟩)
  go_ret
  exact ⟨rfl, rfl⟩

set_option maxHeartbeats 400000 in
theorem whole_big (a : Int) (h0 : 0 ≤ a) (h1 : 1099511627776 < a) (ha : Ok a) (w : World) :
    Calls Try.prog 17 #[.float .f64 (fb a)] w fun e w' => e = .returned (.bool false) ∧ w = w' := by
  have h19 := fun w => trunc_x (fb a) (fb a) (decode_fb a ha) (trunc_fb a h0 ha) w
  have e1 := eql_fb a a ha ha
  have e2 := leq_fb 0 a ⟨by omega, by omega⟩ ha
  have e3 := leq_fb a 1099511627776 ha ⟨by omega, by omega⟩
  rw [decide_eq_true rfl] at e1
  rw [decide_eq_true h0, zero_fb] at e2
  rw [decide_eq_false (by omega), ← max_fb] at e3
  have H := Lib.hid h19
  clear h19 ha
  go_enter Try.func17, Try.ntmps17
  go_wp2_with (go_at_call 19; refine (H.out _).mono ?_; rintro e w' ⟨rfl, rfl⟩)
  go_ret
  exact ⟨rfl, rfl⟩

set_option maxHeartbeats 400000 in
theorem whole_half (a : Int) (h0 : 0 ≤ a) (ha : Ok a) (w : World) :
    Calls Try.prog 17 #[.float .f64 (fh a)] w fun e w' => e = .returned (.bool false) ∧ w = w' := by
  have h19 := fun w => trunc_x (fh a) (fb a) (decode_fh a ha) (trunc_fh a h0 ha) w
  have e1 : (FloatKind.f64.format.order (fh a) (fb a) == some .eq) = false := by
    show (Ieee.double.order (fh a) (fb a) == some .eq) = _
    rw [order_fh_fb a a ha ha, cmp_gt (by omega)]
    rfl
  have H := Lib.hid h19
  clear h19 ha
  go_enter Try.func17, Try.ntmps17
  go_wp2_with (go_at_call 19; refine (H.out _).mono ?_; rintro e w' ⟨rfl, rfl⟩)
  go_ret
  exact ⟨rfl, rfl⟩

set_option maxHeartbeats 400000 in
theorem point_yes (f t : Int) (h : validB f t = true) (w : World) :
    Calls Try.prog 9 #[.agg #[.int .i64 f, .int .i64 t]] w fun e w' => e = .returned (.complex .f64 (fb f) (fb t)) ∧ Below w.heap.size w w' := by
  have H := Lib.hid h
  clear h
  go_enter Try.func9, Try.ntmps9
  go_wp2_with fail
  refine (valid_any f t _).mono ?_
  rintro e w1 ⟨rfl, hb⟩
  rw [H.out]
  have HB := Lib.hid hb
  have hcell := hb.cell (p := ⟨w.heap.size, 0, none⟩) (by simp)
  have hcell2 := hb.cell (p := ⟨w.heap.size, 1, none⟩) (by simp)
  have e1 := fb_eq f
  have e2 := fb_eq t
  clear hb
  go_wp2_with fail
  go_ret
  exact ⟨rfl, ((Below.refl _ _).alloc (Nat.le_refl _) _).trans (HB.out.mono (by simp))⟩

set_option maxHeartbeats 400000 in
theorem point_no (f t : Int) (h : validB f t = false) (w : World) :
    Calls Try.prog 9 #[.agg #[.int .i64 f, .int .i64 t]] w fun e w' => e = .returned (.complex .f64 0 0) ∧ Below w.heap.size w w' := by
  have H := Lib.hid h
  clear h
  go_enter Try.func9, Try.ntmps9
  go_wp2_with fail
  refine (valid_any f t _).mono ?_
  rintro e w1 ⟨rfl, hb⟩
  rw [H.out]
  have HB := Lib.hid hb
  clear hb
  go_wp2_with fail
  go_ret
  exact ⟨rfl, ((Below.refl _ _).alloc (Nat.le_refl _) _).trans (HB.out.mono (by simp))⟩
end Go.Proofs.Ytjoipdjdonakeaa
