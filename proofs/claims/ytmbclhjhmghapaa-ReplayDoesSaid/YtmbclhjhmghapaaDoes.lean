/- ReplayDoes: the walk. -/
import Derived.Test.YtmbclhjhmghapaaWorks
import Derived.Deep.RegionHeld3
namespace Go.Proofs.Ytmbclhjhmghapaa
open Go.RowKit

theorem keep5 {B : Nat} {W w1 w2 : World} {x y o : Nat} {v0 v1 v2 v3 v4 : Value} (hb : Hid (Below w1.heap.size w1 w2))
    (h : w1.cell? ⟨x, 0, none⟩ = some v0 ∧ w1.cell? ⟨x, 1, none⟩ = some v1 ∧ w1.cell? ⟨x, 2, none⟩ = some v2 ∧ w1.cell? ⟨x, 3, none⟩ = some v3 ∧ w1.cell? ⟨y, o, none⟩ = some v4 ∧ Hid (Below B W w1)) (hB : B ≤ W.heap.size) :
    w2.cell? ⟨x, 0, none⟩ = some v0 ∧ w2.cell? ⟨x, 1, none⟩ = some v1 ∧ w2.cell? ⟨x, 2, none⟩ = some v2 ∧ w2.cell? ⟨x, 3, none⟩ = some v3 ∧ w2.cell? ⟨y, o, none⟩ = some v4 ∧ Hid (Below B W w2) := by
  obtain ⟨a0, a1, a2, a3, a4, h⟩ := h
  exact ⟨cell_later hb.out a0, cell_later hb.out a1, cell_later hb.out a2, cell_later hb.out a3, cell_later hb.out a4, h.out.trans (hb.out.mono (Nat.le_trans hB h.out.size))⟩
theorem s5 {B : Nat} {W w1 : World} {x y o : Nat} {v0 v1 v2 v3 v4 : Value}
    (h : w1.cell? ⟨x, 0, none⟩ = some v0 ∧ w1.cell? ⟨x, 1, none⟩ = some v1 ∧ w1.cell? ⟨x, 2, none⟩ = some v2 ∧ w1.cell? ⟨x, 3, none⟩ = some v3 ∧ w1.cell? ⟨y, o, none⟩ = some v4 ∧ Hid (Below B W w1)) : Below B W w1 := h.2.2.2.2.2.out

abbrev PairPR (I : Nat → Prop) (W w : World) (g : Nat) (room : Int) (l : List (Tm × Int)) (g' : Nat) := PairS 75 81 78 83 I W w g room l g' room l

set_option maxHeartbeats 4000000 in
set_option maxRecDepth 100000 in
theorem does_any (W : World) (room now : Int) (va : Value) (l : List Act) (cm : List Value) (m : Tm) (ha : RActs (There W) W va l) (hm : Rep (There W) W cm m) :
    Calls Try.prog 3 #[.int .i64 room, va, .agg cm.toArray, .int .i64 now] W fun e w' => e = .returned (.bool true) ∧ Below W.heap.size W w' := by
  obtain ⟨a, cap, rfl, hmax⟩ := ha.form
  obtain ⟨am, nm, rfl, qm, _⟩ := hm.inv
  have HA := Lib.hid ha
  have HM := Lib.hid hm
  have HT := Lib.hid (There.old W)
  clear ha hm qm
  have hA : ∀ o, Hid (Below W.heap.size W (W.alloc o)) := fun o => (Below.refl _ _).alloc (Nat.le_refl _) _
  go_enter Try.func3, Try.ntmps3
  go_wp2_with fail
  generalize hW0 : W.alloc (.cells #[.int .i64 m.k, .string m.s, .int .i64 m.n, .slice am m.l.length nm] 26) = W0
  have HW0 : Hid (Below W.heap.size W W0) := hW0 ▸ (hA _).out
  have hbox : W0.heap[W.heap.size]? = some (.cells #[.int .i64 m.k, .string m.s, .int .i64 m.n, .slice am m.l.length nm] 26 (0, 0)) := by rw [← hW0]; exact heap_alloc_new W _
  have hsz0 : W0.heap.size = W.heap.size + 1 := by rw [← hW0]; simp
  have HBOX := Lib.hid hbox
  have HS0 := Lib.hid hsz0
  clear hW0 hbox hsz0
  have boxes : Hid (∀ w, Below W0.heap.size W0 w → w.cell? ⟨W.heap.size, 0, none⟩ = some (.int .i64 m.k) ∧ w.cell? ⟨W.heap.size, 1, none⟩ = some (.string m.s) ∧ w.cell? ⟨W.heap.size, 2, none⟩ = some (.int .i64 m.n) ∧ w.cell? ⟨W.heap.size, 3, none⟩ = some (.slice am m.l.length nm)) := by
    intro w hb
    have h := (hb.block W.heap.size (by rw [HS0.out]; omega)).trans HBOX.out
    refine ⟨?_, ?_, ?_, ?_⟩ <;> simp [World.cell?, h]
  refine (works_any W0).mono ?_
  rintro e w1 ⟨rfl, hb⟩
  have B1 := Lib.hid hb
  have D1 := Lib.hid (HW0.out.trans (hb.mono HW0.out.size))
  clear hb
  go_wp2_with fail
  refine (over_any (There W) w1 _ l (HT.out.on D1.out) (HA.out.on HT.out D1.out)).mono ?_
  rintro e w2 ⟨b, rfl, hov, hb⟩
  have B2 := Lib.hid (B1.out.trans (hb.mono B1.out.size))
  have D2 := Lib.hid (HW0.out.trans (B2.out.mono HW0.out.size))
  clear hb
  cases b with
  | true =>
    go_wp2_with fail
    go_ret
    exact ⟨rfl, D2.out⟩
  | false =>
    have hl60 := hov rfl
    clear hov
    obtain ⟨x0, x1, x2, x3⟩ := boxes.out w2 B2.out
    have hl2 : W.heap.size < w2.heap.size := by have := B2.out.size; have := HS0.out; omega
    go_wp2_with fail
    refine (large_any m (There W) w2 _ 20 (HT.out.on D2.out) (HM.out.on HT.out D2.out)).mono ?_
    rintro e w3 ⟨⟨r, rfl⟩, hb⟩
    have B3 := Lib.hid (B2.out.trans (hb.mono B2.out.size))
    have D3 := Lib.hid (HW0.out.trans (B3.out.mono HW0.out.size))
    clear hb x0 x1 x2 x3
    cases r with
    | true =>
      go_wp2_with fail
      go_ret
      exact ⟨rfl, D3.out⟩
    | false =>
      go_wp2_with fail
      refine (new_any w3 room).mono ?_
      rintro e w4 ⟨rfl, h4⟩
      have H4 := Lib.hid h4
      clear h4
      go_wp2_with fail
      refine (rnew_any w4 room).mono ?_
      rintro e w5 ⟨rfl, h5⟩
      have hP : PairPR (There W) W0 w5 w3.heap.size (roomF room) [] (w3.heap.size + 1) := by
        rw [h5, H4.out]
        exact PairS.of_new (HT.out.on D3.out) B3.out rfl rfl
      have h6 : w4.heap.size = w3.heap.size + 1 := by rw [H4.out]; simp
      have HP := Lib.hid hP
      rw [h6]
      generalize w3.heap.size = gc at *
      generalize roomF room = rm at *
      clear H4 h5 h6 hP
      go_wp2_with fail
      go_loopw [12] (fun i wr => ∃ (k : Nat) (ls : List (Tm × Int)), k ≤ l.length ∧ i = .int .i64 k ∧ ls.length ≤ k ∧ Hid (PairPR (There W) W0 wr gc rm ls (gc + 1))) (fun i _ => l.length - (intOf i).toNat)
      case atStart => exact ⟨0, [], Nat.zero_le _, rfl, by simp, HP.out⟩
      case round =>
        obtain ⟨k, ls, hk1, rfl, hls, hp⟩ := hrel
        have DR := Lib.hid (HW0.out.trans (hp.out.below.mono HW0.out.size))
        by_cases h1 : k < l.length
        · obtain ⟨b, o, u, c, rfl, hb, hr, ht1, ht2, c0, c1, c2, c3, c4, c5⟩ := (HA.out.on HT.out DR.out).at k h1
          have hbr : b < wr.heap.size := Nat.lt_of_lt_of_le hb DR.out.size
          have HR := Lib.hid hr
          clear hr
          go_wp2_with fail
          refine wp_region_still_tail 16 (by kernel_rfl) (by kernel_rfl) ?_
          simp only [List.take_succ_cons, List.take_zero, List.drop_succ_cons, List.drop_zero]
          change wpStill _ _ (World.drew wr) _ _ _
          repeat still_step
          refine wpStill_nil ?_
          go_wp2_with fail
          have X0 : Hid (Below wr.heap.size wr wr.drew) := (Below.refl _ _).drew
          refine (putP (hp.out.on (HT.out.on DR.out) X0.out) (HT.out.on (DR.out.drew)) (HR.out.on (HT.out.on DR.out) X0.out) ht1 (by omega)).mono ?_
          rintro e y1 ⟨rfl, hp1, _⟩
          have P1 := Lib.hid hp1
          have D4 := Lib.hid (HW0.out.trans (hp1.below.mono HW0.out.size))
          clear hp1 c0 c1 c2 c3 c4 c5
          obtain ⟨b', o', u', c', e', _, hr, _, _, c0, c1, c2, c3, c4, c5⟩ := (HA.out.on HT.out D4.out).at k h1
          injection e' with e'
          injection e' with e1 e2
          subst e1; subst e2
          have hbr1 : b < y1.heap.size := Nat.lt_of_lt_of_le hb D4.out.size
          have HR1 := Lib.hid hr
          clear hr HR
          go_wp2_with fail
          refine wp_region_still_tail 16 (by kernel_rfl) (by kernel_rfl) ?_
          simp only [List.take_succ_cons, List.take_zero, List.drop_succ_cons, List.drop_zero]
          change wpStill _ _ (World.drew y1) _ _ _
          repeat still_step
          refine wpStill_nil ?_
          go_wp2_with fail
          have X1 : Hid (Below y1.heap.size y1 y1.drew) := (Below.refl _ _).drew
          refine (putR (P1.out.on (HT.out.on D4.out) X1.out) (HT.out.on (D4.out.drew)) (HR1.out.on (HT.out.on D4.out) X1.out) ht1 (by omega)).mono ?_
          rintro e y2 ⟨rfl, hp2, _⟩
          have hln := putL_len rm ls l[k].m l[k].til l[k].now
          generalize putL rm ls l[k].m l[k].til l[k].now = pr at *
          obtain ⟨er, ls2⟩ := pr
          simp only at hp2 hln ⊢
          have P2 := Lib.hid hp2
          have D5 := Lib.hid (HW0.out.trans (hp2.below.mono HW0.out.size))
          have B5 := Lib.hid hp2.below
          clear hp2 c0 c1 c2 c3 c4 c5
          obtain ⟨b', o', u', c', e', _, _, _, _, _, _, _, _, _, c5⟩ := (HA.out.on HT.out D5.out).at k h1
          injection e' with e'
          injection e' with e1 e2
          subst e1; subst e2
          obtain ⟨x0, x1, x2, x3⟩ := boxes.out y2 B5.out
          have hbr2 : b < y2.heap.size := Nat.lt_of_lt_of_le hb D5.out.size
          have hsz : W.heap.size < y2.heap.size := by have := B5.out.size; have := HS0.out; omega
          have hl3 : ls2.length ≤ 1048576 := by omega
          have HI5 := Lib.hid (HT.out.on D5.out)
          have HM5 := Lib.hid (HM.out.on HT.out D5.out)
          clear P1 HR1
          go_wp2_with fail
          go_region_held3 (fun w'' => w''.cell? ⟨W.heap.size, 0, none⟩ = some (.int .i64 m.k) ∧ w''.cell? ⟨W.heap.size, 1, none⟩ = some (.string m.s) ∧ w''.cell? ⟨W.heap.size, 2, none⟩ = some (.int .i64 m.n) ∧ w''.cell? ⟨W.heap.size, 3, none⟩ = some (.slice am m.l.length nm) ∧ w''.cell? ⟨b, o + k * 6 + 5, none⟩ = some (.int .i64 l[k].now) ∧ Hid (Below y2.heap.size y2 w''))
            (first | assumption | exact keep5 (by assumption) (by assumption) (Nat.le_refl _) | (exact ⟨by simpa using x0, by simpa using x1, by simpa using x2, by simpa using x3, by simpa using c5, (Below.refl _ _).drew⟩))
            (first
              | (go_at_call 17; refine (lenP (P2.out.on HI5.out (s5 (by assumption))) (HI5.out.on (s5 (by assumption))) hl3).mono ?_; rintro e w1 ⟨rfl, hb'⟩; have HB' := Lib.hid hb'; clear hb')
              | (go_at_call 18; refine (lenR (P2.out.on HI5.out (s5 (by assumption))) (HI5.out.on (s5 (by assumption))) hl3).mono ?_; rintro e w1 ⟨rfl, hb'⟩; have HB' := Lib.hid hb'; clear hb')
              | (go_at_call 19; refine (hasP (P2.out.on HI5.out (s5 (by assumption))) (HI5.out.on (s5 (by assumption))) (HM5.out.on HI5.out (s5 (by assumption))) hl3).mono ?_; rintro e w1 ⟨rfl, hb'⟩; have HB' := Lib.hid hb'; clear hb')
              | (go_at_call 20; refine (hasR (P2.out.on HI5.out (s5 (by assumption))) (HI5.out.on (s5 (by assumption))) (HM5.out.on HI5.out (s5 (by assumption))) hl3).mono ?_; rintro e w1 ⟨rfl, hb'⟩; have HB' := Lib.hid hb'; clear hb'))
          rename_i hS
          have PE := Lib.hid (P2.out.on HI5.out (s5 hS))
          clear hS
          go_wp2_with fail
          go_roundw
          case rel => exact ⟨k + 1, ls2, by omega, by go_num, by omega, PE.out⟩
          case measure => simp [intOf]; omega
        · go_wp2_with fail
          go_ret
          exact ⟨rfl, DR.out⟩
end Go.Proofs.Ytmbclhjhmghapaa
