/- term.Order, term.Same: 0 just if the terms are one. -/
import Derived.Test.YtmbclhjhmghapaaOrd
namespace Go.Proofs.Ytmbclhjhmghapaa
open Go.RowKit

def OrdPost (P : Prop) (w : World) (e : Ending) (w' : World) : Prop := ∃ r : Int, e = .returned (.int .i64 r) ∧ (r = 0 ↔ P) ∧ Below w.heap.size w w'

/-- what Order does at these terms -/
def OrdIs (a : Tm) : Prop := ∀ (b : Tm) (I : Nat → Prop) (w : World) (ca cb : List Value), Old I w → Rep I w ca a → Rep I w cb b →
  Calls Try.prog 42 #[.agg ca.toArray, .agg cb.toArray] w (OrdPost (a = b) w)

set_option maxHeartbeats 1000000 in
theorem compareFunc_any (la lb : List Tm) (ih : ∀ t ∈ la, OrdIs t) (I : Nat → Prop) (w : World) (va vb : Value) (hI : Old I w) (ha : RTs I w va la) (hb : RTs I w vb lb) :
    Calls Try.prog 63 #[va, vb, .func (.func 42) #[] #[]] w (OrdPost (la = lb) w) := by
  obtain ⟨a1, c1, f1, rfl, s1, r1⟩ := ha
  obtain ⟨a2, c2, f2, rfl, s2, r2⟩ := hb
  have m1 : la.length ≤ 17592186044416 := s1.max
  have m2 : lb.length ≤ 17592186044416 := s2.max
  go_enter Try.func63, Try.ntmps63
  go_wp2
  go_outline
  go_loopw [13] (fun i wr => ∃ k : Nat, k ≤ la.length ∧ k ≤ lb.length ∧ i = .int .i64 k ∧ Hid (la.take k = lb.take k) ∧ Hid (Below w.heap.size w wr)) (fun i _ => la.length - (intOf i).toNat)
  case atStart => exact ⟨0, Nat.zero_le _, Nat.zero_le _, rfl, rfl, Below.refl _ _⟩
  case round =>
    obtain ⟨k, hk1, hk2, rfl, ht, hbl⟩ := hrel
    by_cases h1 : k < la.length
    · by_cases h2 : k < lb.length
      · obtain ⟨b1, o1, rfl, i1⟩ := s1.pos (by omega)
        obtain ⟨b2, o2, rfl, i2⟩ := s2.pos (by omega)
        obtain ⟨p1, n1, e1, q1, _⟩ := (r1 k h1).inv
        obtain ⟨p2, n2, e2, q2, _⟩ := (r2 k h2).inv
        have g1 := s1.cells h1
        have g2 := s2.cells h2
        rw [e1] at g1
        rw [e2] at g2
        obtain ⟨x0, x1, x2, x3⟩ := (g1.frame (hI.same hbl.out b1 i1)).at4
        obtain ⟨y0, y1, y2, y3⟩ := (g2.frame (hI.same hbl.out b2 i2)).at4
        have l1 : b1 < wr.heap.size := Nat.lt_of_lt_of_le (hI b1 i1) hbl.out.size
        have l2 : b2 < wr.heap.size := Nat.lt_of_lt_of_le (hI b2 i2) hbl.out.size
        have d2 : decide (lb.length ≤ k) = false := by simp; omega
        have r1k := r1 k h1
        have r2k := r2 k h2
        rw [e1] at r1k
        rw [e2] at r2k
        have IH := Lib.hid ih
        have R1 := Lib.hid r1k
        have R2 := Lib.hid r2k
        have S1 := Lib.hid s1
        have S2 := Lib.hid s2
        clear e1 e2 ih s1 s2 g1 g2 r1k r2k r1 r2 q1 q2
        go_wp2_with fail
        have hx : ∀ o o', Hid (Below w.heap.size w ((wr.alloc o).alloc o')) := fun o o' => (hbl.out.alloc hbl.out.size _).alloc (Nat.le_trans hbl.out.size (by simp)) _
        refine (IH.out la[k] (List.getElem_mem h1) lb[k] I _ _ _ (hI.on (hx _ _).out) (R1.out.on hI (hx _ _).out) (R2.out.on hI (hx _ _).out)).mono ?_
        rintro e w1 ⟨r, rfl, hr, hb⟩
        have HB := Lib.hid ((hx _ _).out.trans (hb.mono (hx _ _).out.size))
        by_cases hz : r = 0
        · have z2 : (r != 0) = false := by simp [hz]
          have EQ := Lib.hid (hr.1 hz)
          clear hr hb hz
          go_wp2_with fail
          go_roundw
          case rel =>
            refine ⟨k + 1, by omega, by omega, by go_num, ?_, HB.out⟩
            show _ = _
            rw [List.take_succ_eq_append_getElem h1, List.take_succ_eq_append_getElem h2, ht.out, EQ.out]
          case measure => simp [intOf]; omega
        · have z2 : (r != 0) = true := by simp [hz]
          have NE := Lib.hid (fun h => hz (hr.2 h))
          clear hr hb hz
          go_wp2_with fail
          go_ret
          refine ⟨_, rfl, ?_, HB.out⟩
          constructor
          · intro h
            simp [h] at z2
          · intro h
            exact absurd (by simp [h]) NE.out
      · have hle : lb.length ≤ k := by omega
        have d2 : decide (lb.length ≤ k) = true := by simp; omega
        obtain ⟨b1, o1, rfl, i1⟩ := s1.pos (by omega)
        obtain ⟨p1, n1, e1, q1, _⟩ := (r1 k h1).inv
        have g1 := s1.cells h1
        rw [e1] at g1
        obtain ⟨x0, x1, x2, x3⟩ := (g1.frame (hI.same hbl.out b1 i1)).at4
        have l1 : b1 < wr.heap.size := Nat.lt_of_lt_of_le (hI b1 i1) hbl.out.size
        clear e1 ih s1 s2 g1 r1 r2 q1
        go_wp2_with fail
        go_ret
        refine ⟨_, rfl, ?_, hbl.out.alloc hbl.out.size _⟩
        constructor
        · intro h; cases h
        · intro h; rw [h] at h1; omega
    · have hle : la.length ≤ k := by omega
      have htt : la = lb.take la.length := by have := ht.out; rw [List.take_of_length_le hle] at this; rw [this, List.length_take, Nat.min_eq_left hk2]
      have HT := Lib.hid htt
      clear htt ih s1 s2 r1 r2
      by_cases h3 : la.length < lb.length
      · have d3 : decide (la.length < lb.length) = true := by simp [h3]
        go_wp2_with fail
        go_ret
        refine ⟨_, rfl, ?_, hbl.out⟩
        constructor
        · intro h; cases h
        · intro h; rw [h] at h3; omega
      · have d3 : decide (la.length < lb.length) = false := by simp; omega
        go_wp2_with fail
        go_ret
        refine ⟨_, rfl, ?_, hbl.out⟩
        constructor
        · intro _
          have := HT.out
          rw [List.take_of_length_le (by omega)] at this
          exact this
        · intro _; rfl

theorem or4 (w : World) (c0 c1 c2 c3 : Int) (T : TypeId) :
    Calls Try.prog 59 #[.slice (some ⟨w.heap.size, 0, none⟩) 4 4] (w.alloc (.cells #[.int .i64 c0, .int .i64 c1, .int .i64 c2, .int .i64 c3] T))
      fun e w' => e = .returned (.int .i64 (orF [c0, c1, c2, c3])) ∧ w.alloc (.cells #[.int .i64 c0, .int .i64 c1, .int .i64 c2, .int .i64 c3] T) = w' := by
  refine or_any _ 4 4 [c0, c1, c2, c3] _ rfl (Nat.le_refl _) fun k hk => ?_
  match k, hk with
  | 0, _ => simp
  | 1, _ => simp
  | 2, _ => simp
  | 3, _ => simp

/-- two boxed terms' cells, in a world -/
theorem keep8 {B : Nat} {W w1 w2 : World} {x y : Nat} {v0 v1 v2 v3 u0 u1 u2 u3 : Value} (hb : Hid (Below w1.heap.size w1 w2))
    (h : w1.cell? ⟨x, 0, none⟩ = some v0 ∧ w1.cell? ⟨x, 1, none⟩ = some v1 ∧ w1.cell? ⟨x, 2, none⟩ = some v2 ∧ w1.cell? ⟨x, 3, none⟩ = some v3 ∧
      w1.cell? ⟨y, 0, none⟩ = some u0 ∧ w1.cell? ⟨y, 1, none⟩ = some u1 ∧ w1.cell? ⟨y, 2, none⟩ = some u2 ∧ w1.cell? ⟨y, 3, none⟩ = some u3 ∧ Hid (Below B W w1)) (hB : B ≤ W.heap.size) :
    w2.cell? ⟨x, 0, none⟩ = some v0 ∧ w2.cell? ⟨x, 1, none⟩ = some v1 ∧ w2.cell? ⟨x, 2, none⟩ = some v2 ∧ w2.cell? ⟨x, 3, none⟩ = some v3 ∧
      w2.cell? ⟨y, 0, none⟩ = some u0 ∧ w2.cell? ⟨y, 1, none⟩ = some u1 ∧ w2.cell? ⟨y, 2, none⟩ = some u2 ∧ w2.cell? ⟨y, 3, none⟩ = some u3 ∧ Hid (Below B W w2) := by
  obtain ⟨a0, a1, a2, a3, b0, b1, b2, b3, h⟩ := h
  exact ⟨cell_later hb.out a0, cell_later hb.out a1, cell_later hb.out a2, cell_later hb.out a3, cell_later hb.out b0, cell_later hb.out b1, cell_later hb.out b2, cell_later hb.out b3,
    h.out.trans (hb.out.mono (Nat.le_trans hB h.out.size))⟩
theorem s8 {B : Nat} {W w1 : World} {x y : Nat} {v0 v1 v2 v3 u0 u1 u2 u3 : Value}
    (h : w1.cell? ⟨x, 0, none⟩ = some v0 ∧ w1.cell? ⟨x, 1, none⟩ = some v1 ∧ w1.cell? ⟨x, 2, none⟩ = some v2 ∧ w1.cell? ⟨x, 3, none⟩ = some v3 ∧
      w1.cell? ⟨y, 0, none⟩ = some u0 ∧ w1.cell? ⟨y, 1, none⟩ = some u1 ∧ w1.cell? ⟨y, 2, none⟩ = some u2 ∧ w1.cell? ⟨y, 3, none⟩ = some u3 ∧ Hid (Below B W w1)) : Below B W w1 := h.2.2.2.2.2.2.2.2.out
theorem below_alloc (w : World) (o : Obj) : Hid (Below w.heap.size w (w.alloc o)) := (Below.refl _ _).alloc (Nat.le_refl _) _
theorem rebase {w W w1 : World} (h : Below w.heap.size w W) (hb : Below W.heap.size W w1) : Below w.heap.size w w1 := h.trans (hb.mono h.size)
theorem orF_zero (a b c d : Int) : orF [a, b, c, d] = 0 ↔ a = 0 ∧ b = 0 ∧ c = 0 ∧ d = 0 := by
  simp only [orF]
  split
  · split
    · split
      · split <;> omega
      · omega
    · omega
  · omega

set_option maxHeartbeats 2000000 in
theorem order_of (k n : Int) (s : ByteArray) (l : List Tm) (ih : ∀ t ∈ l, OrdIs t) : OrdIs (.mk k s n l) := by
  intro b I w ca cb hI ha hb
  have ha' := ha
  have hb' := hb
  obtain ⟨p1, n1, rfl, q1, _⟩ := ha.inv
  obtain ⟨p2, n2, rfl, q2, _⟩ := hb.inv
  have CF := Lib.hid (fun X (h : Below w.heap.size w X) => compareFunc_any l b.l ih I X _ _ (hI.on h) (q1.on hI h) (q2.on hI h))
  clear ih q1 q2 ha hb ha' hb'
  simp only [Tm.k, Tm.s, Tm.n, Tm.l]
  obtain ⟨k2, s2, n2', l2⟩ := b
  simp only [Tm.k, Tm.s, Tm.n, Tm.l] at CF ⊢
  go_enter Try.func42, Try.ntmps42
  go_wp2_with fail
  go_region_held3 (fun w' => w'.cell? ⟨w.heap.size, 0, none⟩ = some (.int .i64 k) ∧ w'.cell? ⟨w.heap.size, 1, none⟩ = some (.string s) ∧ w'.cell? ⟨w.heap.size, 2, none⟩ = some (.int .i64 n) ∧ w'.cell? ⟨w.heap.size, 3, none⟩ = some (.slice p1 l.length n1) ∧ w'.cell? ⟨w.heap.size + 1, 0, none⟩ = some (.int .i64 k2) ∧ w'.cell? ⟨w.heap.size + 1, 1, none⟩ = some (.string s2) ∧ w'.cell? ⟨w.heap.size + 1, 2, none⟩ = some (.int .i64 n2') ∧ w'.cell? ⟨w.heap.size + 1, 3, none⟩ = some (.slice p2 l2.length n2) ∧ Hid (Below w.heap.size w w'))
    (first | assumption | exact keep8 (by assumption) (by assumption) (Nat.le_refl _) | exact keep8 (below_alloc _ _) (by assumption) (Nat.le_refl _) | (exact ⟨by simp [go_sem], by simp [go_sem], by simp [go_sem], by simp [go_sem], by simp [go_sem], by simp [go_sem], by simp [go_sem], by simp [go_sem], (((Below.refl _ _).alloc (Nat.le_refl _) _).alloc (by simp) _).drew⟩))
    (first
      | (go_at_call 60; refine (compare_kind _ _ _).mono ?_; rintro e w1 ⟨rfl, rfl⟩)
      | (go_at_call 61; refine (compare_string _ _ _).mono ?_; rintro e w1 ⟨rfl, rfl⟩)
      | (go_at_call 62; refine (compare_int _ _ _).mono ?_; rintro e w1 ⟨rfl, rfl⟩)
      | (go_at_call 63; refine (CF.out _ (s8 (by assumption))).mono ?_; rintro e w1 ⟨r, rfl, hr, hb'⟩; have HB' := Lib.hid hb'; have HR := Lib.hid hr; clear hb' hr)
      | (go_at_call 59; refine (or4 _ _ _ _ _ _).mono ?_; rintro e w1 ⟨rfl, rfl⟩))
  rename_i hS
  have HB := Lib.hid (s8 hS)
  clear hS
  go_wp2_with fail
  go_ret
  refine ⟨_, rfl, ?_, HB.out⟩
  rw [orF_zero, cmpI_zero, cmpS_zero, cmpI_zero, HR.out, Tm.mk.injEq]

theorem order_any (a : Tm) : OrdIs a := Tm.ind (fun k s n l ih => order_of k n s l ih) a

noncomputable def sameB (a b : Tm) : Bool := by classical exact decide (a = b)
theorem sameB_iff (a b : Tm) : sameB a b = true ↔ a = b := by simp [sameB]

set_option maxHeartbeats 1000000 in
theorem same_any (a b : Tm) (I : Nat → Prop) (w : World) (ca cb : List Value) (hI : Old I w) (ha : Rep I w ca a) (hb : Rep I w cb b) :
    Calls Try.prog 21 #[.agg ca.toArray, .agg cb.toArray] w fun e w' => e = .returned (.bool (sameB a b)) ∧ Below w.heap.size w w' := by
  have OI := Lib.hid (fun X (h : Below w.heap.size w X) => order_any a b I X ca cb (hI.on h) (ha.on hI h) (hb.on hI h))
  obtain ⟨p1, n1, rfl, q1, _⟩ := ha.inv
  obtain ⟨p2, n2, rfl, q2, _⟩ := hb.inv
  clear q1 q2 ha hb
  go_enter Try.func21, Try.ntmps21
  go_wp2_with fail
  refine (OI.out _ (((Below.refl _ _).alloc (Nat.le_refl _) _).alloc (by simp) _)).mono ?_
  rintro e w1 ⟨r, rfl, hr, hb'⟩
  have HB := Lib.hid (rebase (((Below.refl _ _).alloc (Nat.le_refl _) _).alloc (by simp) _) hb')
  have hz : (r == 0) = sameB a b := by rw [Bool.eq_iff_iff, sameB_iff, beq_iff_eq, hr]
  clear hr hb'
  go_wp2_with fail
  go_ret
  exact ⟨rfl, HB.out⟩
end Go.Proofs.Ytmbclhjhmghapaa
