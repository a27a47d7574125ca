/- legateref08: sign, Order, Same, Size, Large. -/
import Derived.Test.YtmbclhjhmghapaaSame
import Derived.StillTailTactics
import Derived.Laws.Strings
namespace Go.Proofs.Ytmbclhjhmghapaa
open Go.RowKit

theorem str_ne {s t : ByteArray} (h : s ≠ t) : (s.toList == t.toList) = false := by
  rw [beq_eq_false_iff_ne, ByteArray.toList_eq, ByteArray.toList_eq]
  exact fun e => h (ByteArray.ext (Array.toList_inj.mp e))

theorem sign_any (w : World) (b : Bool) : Calls Try.prog 75 #[.bool b] w fun e w' => ∃ r : Int, e = .returned (.int .i64 r) ∧ r ≠ 0 ∧ w = w' := by
  cases b <;>
  · go_enter Try.func75, Try.ntmps75
    go_wp2_with fail
    go_ret
    exact ⟨_, rfl, by decide, rfl⟩

def ROrdIs (a : Tm) : Prop := ∀ (b : Tm) (I : Nat → Prop) (w : World) (ca cb : List Value), Old I w → Rep I w ca a → Rep I w cb b →
  Calls Try.prog 55 #[.agg ca.toArray, .agg cb.toArray] w (OrdPost (a = b) w)

set_option maxHeartbeats 2000000 in
set_option maxRecDepth 100000 in
theorem rorder_of (k n : Int) (s : ByteArray) (l : List Tm) (ih : ∀ t ∈ l, ROrdIs t) : ROrdIs (.mk k s n l) := by
  intro b I w ca cb hI ha hb
  obtain ⟨p1, n1, rfl, q1, _⟩ := ha.inv
  obtain ⟨p2, n2, rfl, q2, _⟩ := hb.inv
  obtain ⟨k2, s2, n2', l2⟩ := b
  simp only [Tm.k, Tm.s, Tm.n, Tm.l] at q1 q2 ⊢
  clear ha hb
  obtain ⟨_, _, f1, e1, t1, r1⟩ := q1
  injection e1 with e1 _ e2
  subst e1; subst e2
  obtain ⟨_, _, f2, e1, t2, r2⟩ := q2
  injection e1 with e1 _ e2
  subst e1; subst e2
  have m1 : l.length ≤ 17592186044416 := t1.max
  have m2 : l2.length ≤ 17592186044416 := t2.max
  have hA : ∀ o o', Hid (Below w.heap.size w ((w.alloc o).alloc o')) := fun o o' => ((Below.refl _ _).alloc (Nat.le_refl _) _).alloc (by simp) _
  go_enter Try.func55, Try.ntmps55
  by_cases hk : k = k2
  case neg =>
    have d1 : (k != k2) = true := by simp [hk]
    clear t1 t2 r1 r2 ih
    go_wp2_with fail
    refine (sign_any _ _).mono ?_
    rintro e w1 ⟨r, rfl, hr, rfl⟩
    go_wp2_with fail
    go_ret
    exact ⟨_, rfl, ⟨fun h => absurd h hr, fun h => by injection h with h; exact absurd h hk⟩, (hA _ _).out⟩
  subst hk
  have d1 : (k != k) = false := by simp
  by_cases hs : s = s2
  case neg =>
    have d2 := str_ne hs
    clear t1 t2 r1 r2 ih
    go_wp2_with fail
    refine (sign_any _ _).mono ?_
    rintro e w1 ⟨r, rfl, hr, rfl⟩
    go_wp2_with fail
    go_ret
    exact ⟨_, rfl, ⟨fun h => absurd h hr, fun h => by injection h with _ h; exact absurd h hs⟩, (hA _ _).out⟩
  subst hs
  have d2 : (s.toList == s.toList) = true := by simp
  by_cases hn : n = n2'
  case neg =>
    have d3 : (n != n2') = true := by simp [hn]
    clear t1 t2 r1 r2 ih
    go_wp2_with fail
    refine (sign_any _ _).mono ?_
    rintro e w1 ⟨r, rfl, hr, rfl⟩
    go_wp2_with fail
    go_ret
    exact ⟨_, rfl, ⟨fun h => absurd h hr, fun h => by injection h with _ _ h; exact absurd h hn⟩, (hA _ _).out⟩
  subst hn
  have d3 : (n != n) = false := by simp
  have IH := Lib.hid ih
  have T1 := Lib.hid t1
  have T2 := Lib.hid t2
  have R1 := Lib.hid r1
  have R2 := Lib.hid r2
  have HI := Lib.hid hI
  clear t1 t2 r1 r2 ih hI
  go_wp2_with fail
  go_loopw [5] (fun i wr => ∃ j : Nat, j ≤ l.length ∧ j ≤ l2.length ∧ i = .int .i64 j ∧ Hid (l.take j = l2.take j) ∧ w.heap.size + 1 < wr.heap.size ∧
    Hid (Below (w.heap.size + 2) ((w.alloc (.cells #[.int .i64 k, .string s, .int .i64 n, .slice p1 l.length n1] 26)).alloc (.cells #[.int .i64 k, .string s, .int .i64 n, .slice p2 l2.length n2] 26)) wr)) (fun i _ => l.length - (intOf i).toNat)
  case atStart => exact ⟨0, Nat.zero_le _, Nat.zero_le _, rfl, rfl, by simp, Below.refl _ _⟩
  case round =>
    obtain ⟨j, hj1, hj2, rfl, ht, hsz, hbl⟩ := hrel
    have hbw : Hid (Below w.heap.size w wr) := (hA _ _).out.trans (hbl.out.mono (by omega))
    have y3 := hbl.out.cell (p := ⟨w.heap.size, 3, none⟩) (by simp)
    have z3 := hbl.out.cell (p := ⟨w.heap.size + 1, 3, none⟩) (by simp)
    simp [go_sem] at y3 z3
    have lw : w.heap.size < wr.heap.size := by omega
    by_cases h1 : j < l.length
    · by_cases h2 : j < l2.length
      · obtain ⟨b1, o1, rfl, i1⟩ := T1.out.pos (by omega)
        obtain ⟨b2, o2, rfl, i2⟩ := T2.out.pos (by omega)
        obtain ⟨u1, c1, e1, v1, _⟩ := (R1.out j h1).inv
        obtain ⟨u2, c2, e2, v2, _⟩ := (R2.out j h2).inv
        have g1 := T1.out.cells h1
        have g2 := T2.out.cells h2
        rw [e1] at g1
        rw [e2] at g2
        obtain ⟨x0, x1, x2, x3⟩ := (g1.frame (HI.out.same hbw.out b1 i1)).at4
        obtain ⟨x4, x5, x6, x7⟩ := (g2.frame (HI.out.same hbw.out b2 i2)).at4
        have l1 : b1 < wr.heap.size := Nat.lt_of_lt_of_le (HI.out b1 i1) hbw.out.size
        have l2' : b2 < wr.heap.size := Nat.lt_of_lt_of_le (HI.out b2 i2) hbw.out.size
        have r1k := R1.out j h1
        have r2k := R2.out j h2
        rw [e1] at r1k
        rw [e2] at r2k
        have Q1 := Lib.hid r1k
        have Q2 := Lib.hid r2k
        clear e1 e2 g1 g2 r1k r2k v1 v2
        go_wp2_with fail
        refine wp_region_still_tail 10 (by kernel_rfl) (by kernel_rfl) ?_
        simp only [List.take_succ_cons, List.take_zero, List.drop_succ_cons, List.drop_zero]
        change wpStill _ _ (World.drew wr) _ _ _
        repeat still_step
        refine wpStill_nil ?_
        go_wp2_with fail
        have hbd : Hid (Below w.heap.size w wr.drew) := hbw.out.drew
        refine (IH.out l[j] (List.getElem_mem h1) l2[j] I _ _ _ (HI.out.on hbd.out) (Q1.out.on HI.out hbd.out) (Q2.out.on HI.out hbd.out)).mono ?_
        rintro e w1 ⟨r, rfl, hr, hb⟩
        have HB := Lib.hid (hbd.out.trans (hb.mono hbd.out.size))
        have HB1 := Lib.hid (hbl.out.drew.trans (hb.mono (by simp; omega)))
        by_cases hz : r = 0
        · have z2 : (r != 0) = false := by simp [hz]
          have EQ := Lib.hid (hr.1 hz)
          clear hr hb hz
          go_wp2_with fail
          go_roundw
          case rel =>
            refine ⟨j + 1, by omega, by omega, by go_num, ?_, by have := HB1.out.size; simp at this; omega, HB1.out⟩
            show _ = _
            rw [List.take_succ_eq_append_getElem h1, List.take_succ_eq_append_getElem h2, ht.out, EQ.out]
          case measure => simp [intOf]; omega
        · have z2 : (r != 0) = true := by simp [hz]
          have NE := Lib.hid (fun h => hz (hr.2 h))
          clear hr hb hz
          go_wp2_with fail
          go_ret
          refine ⟨_, rfl, ?_, HB.out⟩
          constructor
          · intro h
            simp [h] at z2
          · intro h
            exact absurd (by simp [h]) NE.out
      · have n1' : (l.length != l2.length) = true := by simp; omega
        have n2' : ((l.length : Int) != (l2.length : Int)) = true := by simp; omega
        have d4 : decide (l2.length ≤ j) = true := by simp; omega
        go_wp2_with fail
        refine (sign_any _ _).mono ?_
        rintro e w1 ⟨r, rfl, hr, rfl⟩
        go_wp2_with fail
        go_ret
        refine ⟨_, rfl, ⟨fun h => absurd h hr, fun h => ?_⟩, hbw.out⟩
        injection h with _ _ _ h
        rw [h] at h1
        omega
    · have hle : l.length ≤ j := by omega
      have htt : l = l2.take l.length := by have := ht.out; rw [List.take_of_length_le hle] at this; rw [this, List.length_take, Nat.min_eq_left (by omega)]
      have HT := Lib.hid htt
      clear htt
      by_cases h3 : l.length = l2.length
      · have n1' : (l.length != l2.length) = false := by simp [h3]
        have n2' : ((l.length : Int) != (l2.length : Int)) = false := by simp [h3]
        have H3 := Lib.hid h3
        clear h3
        go_wp2_with fail
        go_ret
        refine ⟨_, rfl, ⟨fun _ => ?_, fun _ => rfl⟩, hbw.out⟩
        have := HT.out
        rw [List.take_of_length_le (by rw [H3.out]; exact Nat.le_refl _)] at this
        rw [this]
      · have n1' : (l.length != l2.length) = true := by simp [h3]
        have n2' : ((l.length : Int) != (l2.length : Int)) = true := by simp; omega
        go_wp2_with fail
        refine (sign_any _ _).mono ?_
        rintro e w1 ⟨r, rfl, hr, rfl⟩
        go_wp2_with fail
        go_ret
        refine ⟨_, rfl, ⟨fun h => absurd h hr, fun h => ?_⟩, hbw.out⟩
        injection h with _ _ _ h
        exact absurd (by rw [h]) h3

theorem rorder_any (a : Tm) : ROrdIs a := Tm.ind (fun k s n l ih => rorder_of k n s l ih) a

set_option maxHeartbeats 1000000 in
theorem rsame_any (a b : Tm) (I : Nat → Prop) (w : World) (ca cb : List Value) (hI : Old I w) (ha : Rep I w ca a) (hb : Rep I w cb b) :
    Calls Try.prog 35 #[.agg ca.toArray, .agg cb.toArray] w fun e w' => e = .returned (.bool (sameB a b)) ∧ Below w.heap.size w w' := by
  have OI := Lib.hid (fun X (h : Below w.heap.size w X) => rorder_any a b I X ca cb (hI.on h) (ha.on hI h) (hb.on hI h))
  obtain ⟨p1, n1, rfl, q1, _⟩ := ha.inv
  obtain ⟨p2, n2, rfl, q2, _⟩ := hb.inv
  clear q1 q2 ha hb
  go_enter Try.func35, Try.ntmps35
  go_wp2_with fail
  refine (OI.out _ (((Below.refl _ _).alloc (Nat.le_refl _) _).alloc (by simp) _)).mono ?_
  rintro e w1 ⟨r, rfl, hr, hb'⟩
  have HB := Lib.hid (rebase (((Below.refl _ _).alloc (Nat.le_refl _) _).alloc (by simp) _) hb')
  have hz : (r == 0) = sameB a b := by rw [Bool.eq_iff_iff, sameB_iff, beq_iff_eq, hr]
  clear hr hb'
  go_wp2_with fail
  go_ret
  exact ⟨rfl, HB.out⟩

/-- some number, and only new blocks -/
def SizePost (w : World) (e : Ending) (w' : World) : Prop := ∃ r : Int, e = .returned (.int .i64 r) ∧ Below w.heap.size w w'
def SizeIs (a : Tm) : Prop := ∀ (I : Nat → Prop) (w : World) (ca : List Value), Old I w → Rep I w ca a → Calls Try.prog 40 #[.agg ca.toArray] w (SizePost w)

set_option maxHeartbeats 2000000 in
theorem size_of' (k n : Int) (s : ByteArray) (l : List Tm) (ih : ∀ t ∈ l, SizeIs t) : SizeIs (.mk k s n l) := by
  intro I w ca hI ha
  obtain ⟨p1, n1, rfl, q1, _⟩ := ha.inv
  simp only [Tm.k, Tm.s, Tm.n, Tm.l] at q1 ⊢
  clear ha
  obtain ⟨_, _, f1, e1, t1, r1⟩ := q1
  injection e1 with e1 _ e2
  subst e1; subst e2
  have m1 : l.length ≤ 17592186044416 := t1.max
  have IH := Lib.hid ih
  have T1 := Lib.hid t1
  have R1 := Lib.hid r1
  have HI := Lib.hid hI
  clear t1 r1 ih hI
  go_enter Try.func40, Try.ntmps40
  go_wp2_with fail
  go_loopw [3, 4] (fun v i wr => ∃ j : Nat, j ≤ l.length ∧ i = .int .i64 j ∧ (∃ r : Int, v = .int .i64 r) ∧ w.heap.size < wr.heap.size ∧
    Hid (Below (w.heap.size + 1) (w.alloc (.cells #[.int .i64 k, .string s, .int .i64 n, .slice p1 l.length n1] 26)) wr)) (fun _ i _ => l.length - (intOf i).toNat)
  case atStart => exact ⟨0, Nat.zero_le _, rfl, ⟨_, rfl⟩, by simp, Below.refl _ _⟩
  case round =>
    obtain ⟨j, hj1, rfl, ⟨r, rfl⟩, hsz, hbl⟩ := hrel
    have hbw : Hid (Below w.heap.size w wr) := ((Below.refl _ _).alloc (Nat.le_refl _) _).trans (hbl.out.mono (by omega))
    have y3 := hbl.out.cell (p := ⟨w.heap.size, 3, none⟩) (by simp)
    simp [go_sem] at y3
    by_cases h1 : j < l.length
    · obtain ⟨b1, o1, rfl, i1⟩ := T1.out.pos (by omega)
      obtain ⟨u1, c1, e1, v1, _⟩ := (R1.out j h1).inv
      have g1 := T1.out.cells h1
      rw [e1] at g1
      obtain ⟨x0, x1, x2, x3⟩ := (g1.frame (HI.out.same hbw.out b1 i1)).at4
      have l1 : b1 < wr.heap.size := Nat.lt_of_lt_of_le (HI.out b1 i1) hbw.out.size
      have r1k := R1.out j h1
      rw [e1] at r1k
      have Q1 := Lib.hid r1k
      clear e1 g1 r1k v1
      go_wp2_with fail
      refine (IH.out l[j] (List.getElem_mem h1) I _ _ (HI.out.on hbw.out) (Q1.out.on HI.out hbw.out)).mono ?_
      rintro e w1 ⟨r', rfl, hb⟩
      have HB1 := Lib.hid (hbl.out.trans (hb.mono (by omega)))
      clear hb
      go_wp2_with fail
      go_roundw
      case rel => exact ⟨j + 1, by omega, by go_num, ⟨_, rfl⟩, by have := HB1.out.size; simp at this; omega, HB1.out⟩
      case measure => simp [intOf]; omega
    · go_wp2_with fail
      go_ret
      exact ⟨_, rfl, hbw.out⟩
theorem size_any (a : Tm) : SizeIs a := Tm.ind (fun k s n l ih => size_of' k n s l ih) a

theorem large_any (a : Tm) (I : Nat → Prop) (w : World) (ca : List Value) (most : Int) (hI : Old I w) (ha : Rep I w ca a) :
    Calls Try.prog 12 #[.agg ca.toArray, .int .i64 most] w fun e w' => (∃ b : Bool, e = .returned (.bool b)) ∧ Below w.heap.size w w' := by
  have OI := Lib.hid (fun X (h : Below w.heap.size w X) => size_any a I X ca (hI.on h) (ha.on hI h))
  obtain ⟨p1, n1, rfl, q1, _⟩ := ha.inv
  clear q1 ha
  go_enter Try.func12, Try.ntmps12
  go_wp2_with fail
  refine (OI.out _ ((Below.refl _ _).alloc (Nat.le_refl _) _)).mono ?_
  rintro e w1 ⟨r, rfl, hb'⟩
  have HB := Lib.hid (rebase ((Below.refl _ _).alloc (Nat.le_refl _) _) hb')
  clear hb'
  go_wp2_with fail
  go_ret
  exact ⟨⟨_, rfl⟩, HB.out⟩
end Go.Proofs.Ytmbclhjhmghapaa
