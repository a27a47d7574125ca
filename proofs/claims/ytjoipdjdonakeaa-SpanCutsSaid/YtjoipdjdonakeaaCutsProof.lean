/- SpanCuts: for every span and all numbers the function returns true and its arguments read as before. No condition. -/
import Derived.Test.YtjoipdjdonakeaaRows
import Derived.Test.YtjoipdjdonakeaaLaw
import Derived.Lib.SmallJoins
import Derived.Test.YtjoipdjdonakeaaWg
import Derived.Test.YtjoipdjdonakeaaOp
namespace Go.Proofs.Ytjoipdjdonakeaa.cuts
open Go.ChangeShapes Go.WideShapes Go.ChangeAt Go.RowKit Go.Joins


set_option maxHeartbeats 1000000 in
theorem walk1 (s t a b k : Int) (h : 1099511627776 < a) (w : World) :
    Calls Try.prog 6 #[.agg #[.int .i64 s, .int .i64 t], .int .i64 a, .int .i64 b, .int .i64 k] w fun e w' => e = .returned (.bool true) ∧ Below w.heap.size w w' := by
  go_enter Try.func6, Try.ntmps6
  go_wp2_with fail
  refine (works_any _).mono ?_
  rintro e w1 ⟨rfl, hb⟩
  have lw1_0 : w.heap.size < w1.heap.size := by (have hsz := hb.size; first | omega | (simp at hsz; omega))
  have cw1_0_0 : w1.cell? ⟨w.heap.size, 0, none⟩ = some (.int .i64 s) := by (rw [hb.cell (by first | omega | (simp; done) | (simp; omega))]; first | assumption | (simp; done) | (simp [*]; done) | simp [go_sem, *])
  have cw1_0_1 : w1.cell? ⟨w.heap.size, 1, none⟩ = some (.int .i64 t) := by (rw [hb.cell (by first | omega | (simp; done) | (simp; omega))]; first | assumption | (simp; done) | (simp [*]; done) | simp [go_sem, *])
  have HB1 := Lib.hid (rebase ((Below.refl _ _).alloc (Nat.le_refl _) _) hb)
  clear hb
  go_wp2_with fail
  go_ret
  exact ⟨rfl, HB1.out⟩
set_option maxHeartbeats 1000000 in
theorem walk2 (s t a b k : Int) (h : a ≤ 1099511627776) (h2 : 1099511627776 < b) (w : World) :
    Calls Try.prog 6 #[.agg #[.int .i64 s, .int .i64 t], .int .i64 a, .int .i64 b, .int .i64 k] w fun e w' => e = .returned (.bool true) ∧ Below w.heap.size w w' := by
  go_enter Try.func6, Try.ntmps6
  go_wp2_with fail
  refine (works_any _).mono ?_
  rintro e w1 ⟨rfl, hb⟩
  have lw1_0 : w.heap.size < w1.heap.size := by (have hsz := hb.size; first | omega | (simp at hsz; omega))
  have cw1_0_0 : w1.cell? ⟨w.heap.size, 0, none⟩ = some (.int .i64 s) := by (rw [hb.cell (by first | omega | (simp; done) | (simp; omega))]; first | assumption | (simp; done) | (simp [*]; done) | simp [go_sem, *])
  have cw1_0_1 : w1.cell? ⟨w.heap.size, 1, none⟩ = some (.int .i64 t) := by (rw [hb.cell (by first | omega | (simp; done) | (simp; omega))]; first | assumption | (simp; done) | (simp [*]; done) | simp [go_sem, *])
  have HB1 := Lib.hid (rebase ((Below.refl _ _).alloc (Nat.le_refl _) _) hb)
  clear hb
  go_wp2_with fail
  go_ret
  exact ⟨rfl, HB1.out⟩

/-- how the three codes stand to each other -/
def Codes (e f g y0 y1 z0 z1 : Int) : Prop :=
  ((e == 0) = true ∧ (f == 0) = true ∧ (g != 0) = false ∧ y0 = z0 ∧ y1 = z1) ∨ ((e == 0) = false ∧ (g != 0) = true) ∨ ((e == 0) = true ∧ (f == 0) = false ∧ (g != 0) = true)

set_option maxHeartbeats 4000000 in
theorem walk3 (s t a b k x0 x1 e1 y0 y1 e2 z0 z1 e3 m : Int) (n1 : Bool) (h : a ≤ 1099511627776) (h2 : b ≤ 1099511627776) (hm : (b < a ∧ b = m) ∨ (a ≤ b ∧ a = m)) (ha : 0 ≤ a ∨ a < 0)
    (c1 : CutIs s t a x0 x1 e1) (c2 : CutIs x0 x1 b y0 y1 e2) (c3 : CutIs s t m z0 z1 e3) (r1 : NearIs a b k n1) (r2 : NearIs b a k n1) (r3 : NearIs a a 0 (decide (0 ≤ a)))
    (hc : Codes e1 e2 e3 y0 y1 z0 z1) (w : World) :
    Calls Try.prog 6 #[.agg #[.int .i64 s, .int .i64 t], .int .i64 a, .int .i64 b, .int .i64 k] w fun e w' => e = .returned (.bool true) ∧ Below w.heap.size w w' := by
  have C1 := Lib.hid c1
  have C2 := Lib.hid c2
  have C3 := Lib.hid c3
  have N1 := Lib.hid r1
  have N2 := Lib.hid r2
  have N3 := Lib.hid r3
  clear c1 c2 c3 r1 r2 r3
  rcases hm with ⟨hm, rfl⟩ | ⟨hm, rfl⟩ <;> rcases ha with ha | ha <;> rcases hc with ⟨p1, p2, p3, rfl, rfl⟩ | ⟨p1, p2⟩ | ⟨p1, p2, p3⟩
  all_goals
    go_enter Try.func6, Try.ntmps6
    go_wp2_with fail
    refine (works_any _).mono ?_
    rintro e w1 ⟨rfl, hb⟩
    have lw1_0 : w.heap.size < w1.heap.size := by (have hsz := hb.size; first | omega | (simp at hsz; omega))
    have cw1_0_0 : w1.cell? ⟨w.heap.size, 0, none⟩ = some (.int .i64 s) := by (rw [hb.cell (by first | omega | (simp; done) | (simp; omega))]; first | assumption | (simp; done) | (simp [*]; done) | simp [go_sem, *])
    have cw1_0_1 : w1.cell? ⟨w.heap.size, 1, none⟩ = some (.int .i64 t) := by (rw [hb.cell (by first | omega | (simp; done) | (simp; omega))]; first | assumption | (simp; done) | (simp [*]; done) | simp [go_sem, *])
    have HB1 := Lib.hid (rebase ((Below.refl _ _).alloc (Nat.le_refl _) _) hb)
    clear hb
    go_wp2_with fail
    refine (C1.out _).mono ?_
    rintro e w2 ⟨rfl, hb⟩
    have lw2_0 : w.heap.size < w2.heap.size := by (have hsz := hb.size; first | omega | (simp at hsz; omega))
    have cw2_0_0 : w2.cell? ⟨w.heap.size, 0, none⟩ = some (.int .i64 s) := by (rw [hb.cell (by first | omega | (simp; done) | (simp; omega))]; first | assumption | (simp; done) | (simp [*]; done) | simp [go_sem, *])
    have cw2_0_1 : w2.cell? ⟨w.heap.size, 1, none⟩ = some (.int .i64 t) := by (rw [hb.cell (by first | omega | (simp; done) | (simp; omega))]; first | assumption | (simp; done) | (simp [*]; done) | simp [go_sem, *])
    have HB2 := Lib.hid (rebase HB1.out hb)
    clear hb HB1 cw1_0_0 cw1_0_1 lw1_0
    go_wp2_with fail
    refine (C2.out _).mono ?_
    rintro e w3 ⟨rfl, hb⟩
    have lw3_0 : w.heap.size < w3.heap.size := by (have hsz := hb.size; first | omega | (simp at hsz; omega))
    have cw3_0_0 : w3.cell? ⟨w.heap.size, 0, none⟩ = some (.int .i64 s) := by (rw [hb.cell (by first | omega | (simp; done) | (simp; omega))]; first | assumption | (simp; done) | (simp [*]; done) | simp [go_sem, *])
    have cw3_0_1 : w3.cell? ⟨w.heap.size, 1, none⟩ = some (.int .i64 t) := by (rw [hb.cell (by first | omega | (simp; done) | (simp; omega))]; first | assumption | (simp; done) | (simp [*]; done) | simp [go_sem, *])
    have HB3 := Lib.hid (rebase (HB2.out.alloc (by omega) _) hb)
    clear hb HB2 cw2_0_0 cw2_0_1 lw2_0
    go_wp2_with fail
    refine (C3.out _).mono ?_
    rintro e w4 ⟨rfl, hb⟩
    have lw4_0 : w3.heap.size < w4.heap.size := by (have hsz := hb.size; first | omega | (simp at hsz; omega))
    have cw4_0_0 : w4.cell? ⟨w3.heap.size, 0, none⟩ = some (.int .i64 y0) := by (rw [hb.cell (by first | omega | (simp; done) | (simp; omega))]; first | assumption | (simp; done) | (simp [*]; done) | simp [go_sem, *])
    have cw4_0_1 : w4.cell? ⟨w3.heap.size, 1, none⟩ = some (.int .i64 y1) := by (rw [hb.cell (by first | omega | (simp; done) | (simp; omega))]; first | assumption | (simp; done) | (simp [*]; done) | simp [go_sem, *])
    have HB4 := Lib.hid (rebase (HB3.out.alloc (by omega) _) hb)
    clear hb HB3 cw3_0_0 cw3_0_1 lw3_0
    go_wp2_with fail
    refine (N1.out _).mono ?_
    rintro e w5 ⟨rfl, hb⟩
    have HB5 := Lib.hid (rebase (HB4.out.alloc HB4.out.size _) hb)
    clear hb HB4 cw4_0_0 cw4_0_1 lw4_0
    go_wp2_with fail
    refine (N2.out _).mono ?_
    rintro e w6 ⟨rfl, hb⟩
    have HB6 := Lib.hid (rebase HB5.out hb)
    clear hb HB5
    go_wp2_with fail
    refine (N3.out _).mono ?_
    rintro e w7 ⟨rfl, hb⟩
    have HB7 := Lib.hid (rebase HB6.out hb)
    clear hb HB6
    go_wp2_with fail
    go_ret
    exact ⟨rfl, HB7.out⟩

theorem near_comm (a b k : Int) : nearF a b k = nearF b a k := by
  unfold nearF
  cases okT a <;> cases okT b <;> cases okT k <;> simp [Bool.and_comm]
theorem near_self0 (a : Int) (h : a ≤ 1099511627776) : nearF a a 0 = decide (0 ≤ a) := by
  unfold nearF
  have : okT 0 = true := by decide
  rw [this]
  by_cases h0 : 0 ≤ a
  · have : okT a = true := by rw [okT_iff]; omega
    rw [this]
    simp [h0]
  · have : okT a = false := by rw [← Bool.not_eq_true, okT_iff]; omega
    rw [this]
    simp; omega

theorem cutF_iff (a b n : Int) : (cutF a b n).2.2 = 0 ∧ validB a b = true ∧ okT n = true ∧ a < min b (a + n) ∧ cutF a b n = (a, min b (a + n), 0) ∨ ((cutF a b n).2.2 ≠ 0 ∧ (cutF a b n).1 = 0 ∧ (cutF a b n).2.1 = 0) := by
  unfold cutF
  split
  · exact .inr ⟨by simp, rfl, rfl⟩
  · rename_i h1
    simp only [Bool.or_eq_true, Bool.not_eq_true', not_or, Bool.not_eq_false] at h1
    split
    · exact .inr ⟨by simp, rfl, rfl⟩
    · exact .inl ⟨rfl, h1.1, h1.2, by omega, rfl⟩
theorem cutF_yes {a b n : Int} (h1 : validB a b = true) (h2 : okT n = true) (h3 : a < min b (a + n)) : cutF a b n = (a, min b (a + n), 0) := by
  unfold cutF
  rw [h1, h2, if_neg (by simp), if_neg (by omega)]

theorem codes (s t a b m : Int) (hm : (b < a ∧ b = m) ∨ (a ≤ b ∧ a = m)) (ha : a ≤ 1099511627776) (hb : b ≤ 1099511627776) :
    Codes (cutF s t a).2.2 (cutF (cutF s t a).1 (cutF s t a).2.1 b).2.2 (cutF s t m).2.2 (cutF (cutF s t a).1 (cutF s t a).2.1 b).1 (cutF (cutF s t a).1 (cutF s t a).2.1 b).2.1 (cutF s t m).1 (cutF s t m).2.1 := by
  unfold Codes
  rcases cutF_iff s t a with ⟨g1, v1, o1, l1, e1⟩ | ⟨g1, x1, y1⟩
  · rw [e1]
    simp only
    have w1 := (valid_iff _ _).1 v1
    have u1 := (okT_iff _).1 o1
    have v2 : validB s (min t (s + a)) = true := by rw [valid_iff]; omega
    rcases cutF_iff s (min t (s + a)) b with ⟨g2, _, o2, l2, e2⟩ | ⟨g2, x2, y2⟩
    · have u2 := (okT_iff _).1 o2
      have om : okT m = true := by rw [okT_iff]; omega
      rw [e2, cutF_yes v1 om (by omega)]
      refine .inl ⟨rfl, rfl, rfl, rfl, ?_⟩
      simp only
      omega
    · refine .inr (.inr ⟨rfl, by simpa using g2, ?_⟩)
      rcases cutF_iff s t m with ⟨g3, _, o3, l3, e3⟩ | ⟨g3, _, _⟩
      · exfalso
        have u3 := (okT_iff _).1 o3
        have ob : okT b = true := by rw [okT_iff]; omega
        rw [cutF_yes v2 ob (by omega)] at g2
        exact g2 rfl
      · simpa using g3
  · refine .inr (.inl ⟨by simpa using g1, ?_⟩)
    rcases cutF_iff s t m with ⟨g3, v3, o3, l3, e3⟩ | ⟨g3, _, _⟩
    · exfalso
      have u3 := (okT_iff _).1 o3
      have w3 := (valid_iff _ _).1 v3
      have oa : okT a = true := by rw [okT_iff]; omega
      rw [cutF_yes v3 oa (by omega)] at g1
      exact g1 rfl
    · simpa using g3

theorem walk (s t a b k : Int) (w : World) :
    Calls Try.prog 6 #[.agg #[.int .i64 s, .int .i64 t], .int .i64 a, .int .i64 b, .int .i64 k] w fun e w' => e = .returned (.bool true) ∧ Below w.heap.size w w' := by
  by_cases h1 : 1099511627776 < a
  · exact walk1 s t a b k h1 w
  by_cases h2 : 1099511627776 < b
  · exact walk2 s t a b k (by omega) h2 w
  have r1 := near_self a b k
  have r2 := near_self b a k
  have r3 := near_self a a 0
  rw [near_comm b a k] at r2
  rw [near_self0 a (by omega)] at r3
  have hm : (b < a ∧ b = min a b) ∨ (a ≤ b ∧ a = min a b) := by omega
  exact walk3 s t a b k _ _ _ _ _ _ _ _ _ (min a b) _ (by omega) (by omega) hm (by omega) (cut_self s t a) (cut_self _ _ b) (cut_self s t (min a b)) r1 r2 r3 (codes s t a b _ hm (by omega) (by omega)) w

set_option maxRecDepth 100000 in
theorem lifted (os : Os) (started : os.Started) (H : Type) (enc : TypeId × Value → H) :
    ReturnsInHanded {} Try.checked os 6 .any (Rows.spanCutsSpec.pre6 enc Try.prog Try.f6 Rows.spanCutsRow.domain false) (Rows.spanCutsSpec.post enc Try.prog Try.f6 false true false false) := by
  refine returnsInHanded_of_change (C := Try.checked) ownTry started (by kernel_rfl) Try.func6
    (ChangeSpec.witness6 (enc := enc) (C := Try.checked) false ⟨#[], #[.agg #[.int .i64 0, .int .i64 0], .int .i64 0, .int .i64 0, .int .i64 0], []⟩ 8 (by kernel_rfl) (by kernel_rfl) (by kernel_rfl) (by kernel_rfl)) ?_
  intro W base args ds gs before hval0 hW _ _
  have hval : ∀ (j : Nat) t v, Try.f6.params[j]? = some t → args[j]? = some v → Value.okWide Try.prog W .any base t v := hval0
  have hW' := hW
  obtain ⟨p, q, hA0, hV, rfl, _, _⟩ := hW
  have hA : DataW.TrodAll enc Try.prog W 0 (fun _ => true) true Try.f6.params.toList args.toList ds p := hA0
  rw [Try.params6] at hA hval
  obtain ⟨v0, vs0, d0, ds0, p0, q0, hargs, rfl, rfl, h0, r0⟩ := trodAll_cons hA
  obtain ⟨v1, vs1, d1, ds1, p1, q1, rfl, rfl, rfl, h1, r1⟩ := trodAll_cons r0
  obtain ⟨v2, vs2, d2, ds2, p2, q2, rfl, rfl, rfl, h2, r2⟩ := trodAll_cons r1
  obtain ⟨v3, vs3, d3, ds3, p3, q3, rfl, rfl, rfl, h3, r3⟩ := trodAll_cons r2
  obtain ⟨rfl, rfl, rfl⟩ := trodAll_nil r3
  obtain rfl : args = #[v0, v1, v2, v3] := by cases args; simp_all
  obtain ⟨rfl, rfl⟩ := trodVars_none hV
  obtain ⟨a0, b0, rfl⟩ := open_span (hval 0 _ v0 rfl rfl) h0
  obtain ⟨n1, rfl, rfl, rfl, wf1⟩ := open_int Try.underlying3 (hval 1 _ v1 rfl rfl) h1
  obtain ⟨n2, rfl, rfl, rfl, wf2⟩ := open_int Try.underlying3 (hval 2 _ v2 rfl rfl) h2
  obtain ⟨n3, rfl, rfl, rfl, wf3⟩ := open_int Try.underlying3 (hval 3 _ v3 rfl rfl) h3
  refine (walk a0 b0 n1 n2 n3 W).mono fun e W' ⟨he, hb⟩ => ?_
  subst he
  exact ⟨_, rfl, law_post (by kernel_rfl) (by kernel_rfl) (by kernel_rfl) Try.underlying4 rfl rfl hW' hb⟩

theorem over : Rows.spanCutsRow.holds Try.pinned (OpenSpec.ofChange Rows.spanCutsSpec) :=
  OpenClaim.holds_of_wide 6 Try.f6 rfl rfl rfl rfl rfl rfl rfl ⟨rfl, rfl, rfl, rfl, rfl⟩ rfl rfl rfl rfl rfl (by kernel_rfl) Try.func6 (by kernel_rfl)
    (of_decide_eq_true (by kernel_rfl)) (by unfold Func.isWrapper; first | (rw [if_pos (by decide +kernel)]; kernel_rfl) | (rw [if_neg (by decide +kernel)]; exact ⟨rfl, rfl⟩))
    (fun os started H enc _ => lifted os started H enc)

/-- The statement. -/
theorem proved : Rows.SpanCutsSaid := over
#print axioms proved
end Go.Proofs.Ytjoipdjdonakeaa.cuts
