/- PolicyFlags: the walk. -/
import Derived.Test.YtmbclhjhmghapaaPoG
namespace Go.Proofs.Ytmbclhjhmghapaa
open Go.RowKit Go.Maps Go.WideMaps


set_option maxHeartbeats 4000000 in
set_option maxRecDepth 100000 in
theorem pflags_any (W : World) (va : Value) (l : List PAct) (a : ByteArray) (on : Bool) (c : ByteArray) (hl : RPActs (There W) W va l) (ha : InS a) (hc : InS c) :
    Calls Try.prog 8 #[va, .string a, .bool on, .string c] W fun e w' => e = .returned (.bool true) ∧ Below W.heap.size W w' := by
  obtain ⟨ap, cap, rfl, hmax⟩ := hl.form
  have HA := Lib.hid hl
  have HT := Lib.hid (There.old W)
  clear hl
  go_enter Try.func8, Try.ntmps8
  go_wp2_with fail
  refine (pworks_any W).mono ?_
  rintro e w1 ⟨rfl, hbw⟩
  have D1 := Lib.hid hbw
  clear hbw
  go_wp2_with fail
  refine (pover_any (There W) w1 _ l (HT.out.on D1.out) (HA.out.on HT.out D1.out)).mono ?_
  rintro e w2 ⟨bo, rfl, _, hbw⟩
  have D2 := Lib.hid (D1.out.trans (hbw.mono D1.out.size))
  clear hbw
  cases bo with
  | true =>
    go_wp2_with fail
    go_ret
    exact ⟨rfl, D2.out⟩
  | false =>
    go_wp2_with fail
    refine (newStore_any (acts_start HA.out D2.out)).mono ?_
    rintro e w3 ⟨sb, rfl, h3⟩
    have H3 := Lib.hid h3
    clear h3
    go_wp2_with fail
    go_loopw [11] (fun i wr => ∃ k : Nat, k ≤ l.length ∧ i = .int .i64 k ∧ Hid (Sta (storeA sb (doAll [] (l.take k)) :: actsA (.slice ap l.length cap) l :: []) (There W) FNone W wr)) (fun i _ => l.length - (intOf i).toNat)
    case atStart => exact ⟨0, Nat.zero_le _, rfl, H3.out⟩
    case round =>
      obtain ⟨k, hk1, rfl, hst⟩ := hrel
      by_cases h1 : k < l.length
      · obtain ⟨I, hI, hra⟩ := Sta.pers hst.out.f1
        obtain ⟨b, o, va, vb, vg, rfl, _, hact, _, _, _, hr⟩ := hra.at k h1
        have HS : Hid (Sta (actA (actCells l[k] va vb vg) l[k] :: storeA sb (doAll [] (l.take k)) :: actsA (.slice (some ⟨b, o, none⟩) l.length cap) l :: []) (There W) FNone W wr) := by
          have h5 := Sta.frompers (ψ := fun I w => RPAct I w (actCells l[k] va vb vg) l[k]) (hψ := fun h hw hI => h.frame hw hI) hst.out.f1 (by
            intro I' _ hra'
            obtain ⟨b', o', va', vb', vg', e, _, hact', _, _, _, hr'⟩ := hra'.at k h1
            injection e with e
            injection e with e1 e2
            subst e1; subst e2
            have e5 := (hr 5 _ rfl).symm.trans (hr' 5 _ rfl)
            have e6 := (hr 6 _ rfl).symm.trans (hr' 6 _ rfl)
            have e7 := (hr 7 _ rfl).symm.trans (hr' 7 _ rfl)
            injection e5 with e5
            injection e6 with e6
            injection e7 with e7
            subst e5; subst e6; subst e7
            exact hact')
          exact h5.f2.f1
        have r0 : wr.cell? ⟨b, o + k * 12, none⟩ = some (.int .i64 l[k].k) := hr 0 _ rfl
        have r1 : wr.cell? ⟨b, o + k * 12 + 1, none⟩ = some (.string l[k].p.name) := hr 1 _ rfl
        have r2 : wr.cell? ⟨b, o + k * 12 + 2, none⟩ = some (.int .i64 l[k].p.ver) := hr 2 _ rfl
        have r3 : wr.cell? ⟨b, o + k * 12 + 3, none⟩ = some (.bool l[k].p.tr) := hr 3 _ rfl
        have r4 : wr.cell? ⟨b, o + k * 12 + 4, none⟩ = some (.bool l[k].p.se) := hr 4 _ rfl
        have r5 : wr.cell? ⟨b, o + k * 12 + 5, none⟩ = some va := hr 5 _ rfl
        have r6 : wr.cell? ⟨b, o + k * 12 + 6, none⟩ = some vb := hr 6 _ rfl
        have r7 : wr.cell? ⟨b, o + k * 12 + 7, none⟩ = some vg := hr 7 _ rfl
        have r8 : wr.cell? ⟨b, o + k * 12 + 8, none⟩ = some (.int .i64 l[k].p.life) := hr 8 _ rfl
        have r9 : wr.cell? ⟨b, o + k * 12 + 9, none⟩ = some (.string l[k].a) := hr 9 _ rfl
        have r10 : wr.cell? ⟨b, o + k * 12 + 10, none⟩ = some (.string l[k].b) := hr 10 _ rfl
        have r11 : wr.cell? ⟨b, o + k * 12 + 11, none⟩ = some (.bool l[k].on) := hr 11 _ rfl
        clear hI hra hact hr
        go_wp2_with fail
        refine (done_any (cs := actCells l[k] va vb vg) HS.out).mono ?_
        rintro e w4 ⟨rfl, h4⟩
        have H4 := Lib.hid h4.drop
        clear h4 r0 r1 r2 r3 r4 r5 r6 r7 r8 r9 r10 r11
        go_wp2_with fail
        go_roundw
        case rel =>
          refine ⟨k + 1, by omega, by go_num, ?_⟩
          show Sta _ _ _ _ _
          rw [doAll_snoc [] h1]
          exact H4.out
        case measure => simp [intOf]; omega
      · have H := Lib.hid hst.out
        clear hst hk1
        generalize doAll [] (l.take k) = S at *
        obtain ⟨p, ep, gp⟩ : ∃ t k, getF S a = (t, k) := ⟨_, _, rfl⟩
        obtain ⟨q, eq, gq⟩ : ∃ t k, getF S c = (t, k) := ⟨_, _, rfl⟩
        have FL := Lib.hid (flags_law S a c on)
        have GP := Lib.hid gp
        have GQ := Lib.hid gq
        clear gp gq
        go_wp2_with fail
        refine (pget_is H.out a ha GP.out).mono ?_
        rintro e w4 ⟨a1, c1, a2, c2, a3, c3, rfl, h⟩
        have H4 := Lib.hid (h.lay [.string p.name, .int .i64 p.ver, .bool p.tr, .bool p.se, .slice a1 p.allowed.length c1, .slice a2 p.acts.length c2, .slice a3 p.groups.length c3, .int .i64 p.life] 49)
        clear h H
        go_wp2_with fail
        refine (pget_is H4.out.f2 c hc GQ.out).mono ?_
        rintro e w5 ⟨a4, c4, a5, c5, a6, c6, rfl, h⟩
        have H5 := Lib.hid (h.lay [.string q.name, .int .i64 q.ver, .bool q.tr, .bool q.se, .slice a4 q.allowed.length c4, .slice a5 q.acts.length c5, .slice a6 q.groups.length c6, .int .i64 q.life] 49)
        clear h H4
        go_wp2_with fail
        refine (trust_any H5.out.f2 a ha on).mono ?_
        rintro e w6 ⟨rfl, h⟩
        have H6 := Lib.hid h
        clear h H5
        generalize hS1 : (withF S a (trustF on)).1 = S1 at *
        generalize hf : (withF S a (trustF on)).2 = f at *
        clear hS1 hf
        go_wp2_with fail
        refine (sense_any H6.out a ha (!on)).mono ?_
        rintro e w7 ⟨rfl, h⟩
        have H7 := Lib.hid h
        clear h H6
        generalize hS2 : (withF S1 a (senseF (!on))).1 = S2 at *
        generalize hg : (withF S1 a (senseF (!on))).2 = g at *
        clear hS2 hg
        obtain ⟨x, ex, gx⟩ : ∃ t k, getF S2 a = (t, k) := ⟨_, _, rfl⟩
        obtain ⟨y, ey, gy⟩ : ∃ t k, getF S2 c = (t, k) := ⟨_, _, rfl⟩
        have GX := Lib.hid gx
        have GY := Lib.hid gy
        clear gx gy
        go_wp2_with fail
        refine (pget_is H7.out a ha GX.out).mono ?_
        rintro e w8 ⟨a7, c7, a8, c8, a9, c9, rfl, h⟩
        have H8 := Lib.hid (h.lay [.string x.name, .int .i64 x.ver, .bool x.tr, .bool x.se, .slice a7 x.allowed.length c7, .slice a8 x.acts.length c8, .slice a9 x.groups.length c9, .int .i64 x.life] 49)
        clear h H7
        go_wp2_with fail
        refine (pget_is H8.out.f2 c hc GY.out).mono ?_
        rintro e w9 ⟨b1, d1, b2, d2, b3, d3, rfl, h⟩
        have H9 := Lib.hid (h.lay [.string y.name, .int .i64 y.ver, .bool y.tr, .bool y.se, .slice b1 y.allowed.length d1, .slice b2 y.acts.length d2, .slice b3 y.groups.length d3, .int .i64 y.life] 49)
        clear h H8
        rcases FL.out with ⟨h1, h2, h3, h4⟩ | ⟨h1, h2, h3, h4, h5⟩
        · have q1 : ep = 40 := by have := h1; rw [GP.out] at this; exact this
          have q2 : f = 40 := h2
          have q3 : g = 40 := h3
          have E1 : Hid (q = y) := by have := h4; rw [GY.out, GQ.out] at this; exact this.symm
          clear h1 h2 h3 h4 FL GP GQ GX GY
          subst q1; subst q2; subst q3
          have p0 := Sta.cell (b := w5.heap.size) (cs := [.string q.name, .int .i64 q.ver, .bool q.tr, .bool q.se, .slice a4 q.allowed.length c4, .slice a5 q.acts.length c5, .slice a6 q.groups.length c6, .int .i64 q.life]) H9.out.f5 0 _ rfl
          have p1 := Sta.cell (b := w5.heap.size) (cs := [.string q.name, .int .i64 q.ver, .bool q.tr, .bool q.se, .slice a4 q.allowed.length c4, .slice a5 q.acts.length c5, .slice a6 q.groups.length c6, .int .i64 q.life]) H9.out.f5 1 _ rfl
          have p2 := Sta.cell (b := w5.heap.size) (cs := [.string q.name, .int .i64 q.ver, .bool q.tr, .bool q.se, .slice a4 q.allowed.length c4, .slice a5 q.acts.length c5, .slice a6 q.groups.length c6, .int .i64 q.life]) H9.out.f5 2 _ rfl
          have p3 := Sta.cell (b := w5.heap.size) (cs := [.string q.name, .int .i64 q.ver, .bool q.tr, .bool q.se, .slice a4 q.allowed.length c4, .slice a5 q.acts.length c5, .slice a6 q.groups.length c6, .int .i64 q.life]) H9.out.f5 3 _ rfl
          have p4 := Sta.cell (b := w5.heap.size) (cs := [.string q.name, .int .i64 q.ver, .bool q.tr, .bool q.se, .slice a4 q.allowed.length c4, .slice a5 q.acts.length c5, .slice a6 q.groups.length c6, .int .i64 q.life]) H9.out.f5 4 _ rfl
          have p5 := Sta.cell (b := w5.heap.size) (cs := [.string q.name, .int .i64 q.ver, .bool q.tr, .bool q.se, .slice a4 q.allowed.length c4, .slice a5 q.acts.length c5, .slice a6 q.groups.length c6, .int .i64 q.life]) H9.out.f5 5 _ rfl
          have p6 := Sta.cell (b := w5.heap.size) (cs := [.string q.name, .int .i64 q.ver, .bool q.tr, .bool q.se, .slice a4 q.allowed.length c4, .slice a5 q.acts.length c5, .slice a6 q.groups.length c6, .int .i64 q.life]) H9.out.f5 6 _ rfl
          have p7 := Sta.cell (b := w5.heap.size) (cs := [.string q.name, .int .i64 q.ver, .bool q.tr, .bool q.se, .slice a4 q.allowed.length c4, .slice a5 q.acts.length c5, .slice a6 q.groups.length c6, .int .i64 q.life]) H9.out.f5 7 _ rfl
          have q0 := Sta.cell (b := w9.heap.size) (cs := [.string y.name, .int .i64 y.ver, .bool y.tr, .bool y.se, .slice b1 y.allowed.length d1, .slice b2 y.acts.length d2, .slice b3 y.groups.length d3, .int .i64 y.life]) H9.out 0 _ rfl
          have q1 := Sta.cell (b := w9.heap.size) (cs := [.string y.name, .int .i64 y.ver, .bool y.tr, .bool y.se, .slice b1 y.allowed.length d1, .slice b2 y.acts.length d2, .slice b3 y.groups.length d3, .int .i64 y.life]) H9.out 1 _ rfl
          have q2 := Sta.cell (b := w9.heap.size) (cs := [.string y.name, .int .i64 y.ver, .bool y.tr, .bool y.se, .slice b1 y.allowed.length d1, .slice b2 y.acts.length d2, .slice b3 y.groups.length d3, .int .i64 y.life]) H9.out 2 _ rfl
          have q3 := Sta.cell (b := w9.heap.size) (cs := [.string y.name, .int .i64 y.ver, .bool y.tr, .bool y.se, .slice b1 y.allowed.length d1, .slice b2 y.acts.length d2, .slice b3 y.groups.length d3, .int .i64 y.life]) H9.out 3 _ rfl
          have q4 := Sta.cell (b := w9.heap.size) (cs := [.string y.name, .int .i64 y.ver, .bool y.tr, .bool y.se, .slice b1 y.allowed.length d1, .slice b2 y.acts.length d2, .slice b3 y.groups.length d3, .int .i64 y.life]) H9.out 4 _ rfl
          have q5 := Sta.cell (b := w9.heap.size) (cs := [.string y.name, .int .i64 y.ver, .bool y.tr, .bool y.se, .slice b1 y.allowed.length d1, .slice b2 y.acts.length d2, .slice b3 y.groups.length d3, .int .i64 y.life]) H9.out 5 _ rfl
          have q6 := Sta.cell (b := w9.heap.size) (cs := [.string y.name, .int .i64 y.ver, .bool y.tr, .bool y.se, .slice b1 y.allowed.length d1, .slice b2 y.acts.length d2, .slice b3 y.groups.length d3, .int .i64 y.life]) H9.out 6 _ rfl
          have q7 := Sta.cell (b := w9.heap.size) (cs := [.string y.name, .int .i64 y.ver, .bool y.tr, .bool y.se, .slice b1 y.allowed.length d1, .slice b2 y.acts.length d2, .slice b3 y.groups.length d3, .int .i64 y.life]) H9.out 7 _ rfl
          go_wp2_with fail
          refine (sameprin_is H9.out.f1.f6 E1.out).mono ?_
          rintro e w10 ⟨rfl, h⟩
          have H10 := Lib.hid (H9.out.go h)
          clear h H9
          clear p0 p1 p2 p3 p4 p5 p6 p7
          clear q0 q1 q2 q3 q4 q5 q6 q7
          go_wp2_with fail
          go_ret
          exact ⟨rfl, H10.out.below⟩
        · have q1 : ep = 0 := by have := h1; rw [GP.out] at this; exact this
          have q2 : f = 0 := h2
          have q3 : g = 0 := h3
          have E1 : Hid ({ p with tr := on, se := !on } = x) := by have := h4; rw [GX.out, GP.out] at this; exact this.symm
          have E2 : Hid (a ≠ c → q = y) := fun hne => by have := h5 hne; rw [GY.out, GQ.out] at this; exact this.symm
          clear h1 h2 h3 h4 h5 FL GP GQ GX GY
          subst q1; subst q2; subst q3
          have p0 := Sta.cell (b := w4.heap.size) (cs := [.string p.name, .int .i64 p.ver, .bool p.tr, .bool p.se, .slice a1 p.allowed.length c1, .slice a2 p.acts.length c2, .slice a3 p.groups.length c3, .int .i64 p.life]) H9.out.f7 0 _ rfl
          have p1 := Sta.cell (b := w4.heap.size) (cs := [.string p.name, .int .i64 p.ver, .bool p.tr, .bool p.se, .slice a1 p.allowed.length c1, .slice a2 p.acts.length c2, .slice a3 p.groups.length c3, .int .i64 p.life]) H9.out.f7 1 _ rfl
          have p2 := Sta.cell (b := w4.heap.size) (cs := [.string p.name, .int .i64 p.ver, .bool p.tr, .bool p.se, .slice a1 p.allowed.length c1, .slice a2 p.acts.length c2, .slice a3 p.groups.length c3, .int .i64 p.life]) H9.out.f7 2 _ rfl
          have p3 := Sta.cell (b := w4.heap.size) (cs := [.string p.name, .int .i64 p.ver, .bool p.tr, .bool p.se, .slice a1 p.allowed.length c1, .slice a2 p.acts.length c2, .slice a3 p.groups.length c3, .int .i64 p.life]) H9.out.f7 3 _ rfl
          have p4 := Sta.cell (b := w4.heap.size) (cs := [.string p.name, .int .i64 p.ver, .bool p.tr, .bool p.se, .slice a1 p.allowed.length c1, .slice a2 p.acts.length c2, .slice a3 p.groups.length c3, .int .i64 p.life]) H9.out.f7 4 _ rfl
          have p5 := Sta.cell (b := w4.heap.size) (cs := [.string p.name, .int .i64 p.ver, .bool p.tr, .bool p.se, .slice a1 p.allowed.length c1, .slice a2 p.acts.length c2, .slice a3 p.groups.length c3, .int .i64 p.life]) H9.out.f7 5 _ rfl
          have p6 := Sta.cell (b := w4.heap.size) (cs := [.string p.name, .int .i64 p.ver, .bool p.tr, .bool p.se, .slice a1 p.allowed.length c1, .slice a2 p.acts.length c2, .slice a3 p.groups.length c3, .int .i64 p.life]) H9.out.f7 6 _ rfl
          have p7 := Sta.cell (b := w4.heap.size) (cs := [.string p.name, .int .i64 p.ver, .bool p.tr, .bool p.se, .slice a1 p.allowed.length c1, .slice a2 p.acts.length c2, .slice a3 p.groups.length c3, .int .i64 p.life]) H9.out.f7 7 _ rfl
          have f2 := Sta.frozen (b := w4.heap.size) (cs := pcs p a1 c1 a2 c2 a3 c3) H9.out.f7 2
          have f3 := Sta.frozen (b := w4.heap.size) (cs := pcs p a1 c1 a2 c2 a3 c3) H9.out.f7 3
          have x0 := Sta.cell (b := w8.heap.size) (cs := [.string x.name, .int .i64 x.ver, .bool x.tr, .bool x.se, .slice a7 x.allowed.length c7, .slice a8 x.acts.length c8, .slice a9 x.groups.length c9, .int .i64 x.life]) H9.out.f3 0 _ rfl
          have x1 := Sta.cell (b := w8.heap.size) (cs := [.string x.name, .int .i64 x.ver, .bool x.tr, .bool x.se, .slice a7 x.allowed.length c7, .slice a8 x.acts.length c8, .slice a9 x.groups.length c9, .int .i64 x.life]) H9.out.f3 1 _ rfl
          have x2 := Sta.cell (b := w8.heap.size) (cs := [.string x.name, .int .i64 x.ver, .bool x.tr, .bool x.se, .slice a7 x.allowed.length c7, .slice a8 x.acts.length c8, .slice a9 x.groups.length c9, .int .i64 x.life]) H9.out.f3 2 _ rfl
          have x3 := Sta.cell (b := w8.heap.size) (cs := [.string x.name, .int .i64 x.ver, .bool x.tr, .bool x.se, .slice a7 x.allowed.length c7, .slice a8 x.acts.length c8, .slice a9 x.groups.length c9, .int .i64 x.life]) H9.out.f3 3 _ rfl
          have x4 := Sta.cell (b := w8.heap.size) (cs := [.string x.name, .int .i64 x.ver, .bool x.tr, .bool x.se, .slice a7 x.allowed.length c7, .slice a8 x.acts.length c8, .slice a9 x.groups.length c9, .int .i64 x.life]) H9.out.f3 4 _ rfl
          have x5 := Sta.cell (b := w8.heap.size) (cs := [.string x.name, .int .i64 x.ver, .bool x.tr, .bool x.se, .slice a7 x.allowed.length c7, .slice a8 x.acts.length c8, .slice a9 x.groups.length c9, .int .i64 x.life]) H9.out.f3 5 _ rfl
          have x6 := Sta.cell (b := w8.heap.size) (cs := [.string x.name, .int .i64 x.ver, .bool x.tr, .bool x.se, .slice a7 x.allowed.length c7, .slice a8 x.acts.length c8, .slice a9 x.groups.length c9, .int .i64 x.life]) H9.out.f3 6 _ rfl
          have x7 := Sta.cell (b := w8.heap.size) (cs := [.string x.name, .int .i64 x.ver, .bool x.tr, .bool x.se, .slice a7 x.allowed.length c7, .slice a8 x.acts.length c8, .slice a9 x.groups.length c9, .int .i64 x.life]) H9.out.f3 7 _ rfl
          have n1 := Lib.hid (Sta.bne (b := w8.heap.size) (b' := w4.heap.size) H9.out.f7.f4)
          have n2 : w8.heap.size ≠ w4.heap.size := n1.out
          have n3 : w4.heap.size ≠ w8.heap.size := Ne.symm n1.out
          have HP := Lib.hid (Sta.imp0 (P' := rprinA _ { p with tr := on, se := !on }) (Sta.set (Sta.set (b := w4.heap.size) H9.out.f7 2 (.bool on)) 3 (.bool !on)).f8 fun I F h => ⟨RPrin.flags h.1 on (!on), h.2⟩)
          clear n1
          go_wp2_with fail
          refine (sameprin_is HP.out.f6.f1 E1.out).mono ?_
          rintro e w10 ⟨rfl, h⟩
          have H10 := Lib.hid (HP.out.go h)
          clear h H9 HP n2 n3 f2 f3
          clear p0 p1 p2 p3 p4 p5 p6 p7
          clear x0 x1 x2 x3 x4 x5 x6 x7
          by_cases hac : a = c
          · have z4 : (a.toList == c.toList) = true := by rw [hac]; exact str_self c
            clear hac
            go_wp2_with fail
            go_ret
            exact ⟨rfl, H10.out.below⟩
          · have z4 : (a.toList == c.toList) = false := str_ne hac
            have HE2 := Lib.hid (E2.out hac)
            clear hac
            have q0 := Sta.cell (b := w5.heap.size) (cs := [.string q.name, .int .i64 q.ver, .bool q.tr, .bool q.se, .slice a4 q.allowed.length c4, .slice a5 q.acts.length c5, .slice a6 q.groups.length c6, .int .i64 q.life]) H10.out.f7 0 _ rfl
            have q1 := Sta.cell (b := w5.heap.size) (cs := [.string q.name, .int .i64 q.ver, .bool q.tr, .bool q.se, .slice a4 q.allowed.length c4, .slice a5 q.acts.length c5, .slice a6 q.groups.length c6, .int .i64 q.life]) H10.out.f7 1 _ rfl
            have q2 := Sta.cell (b := w5.heap.size) (cs := [.string q.name, .int .i64 q.ver, .bool q.tr, .bool q.se, .slice a4 q.allowed.length c4, .slice a5 q.acts.length c5, .slice a6 q.groups.length c6, .int .i64 q.life]) H10.out.f7 2 _ rfl
            have q3 := Sta.cell (b := w5.heap.size) (cs := [.string q.name, .int .i64 q.ver, .bool q.tr, .bool q.se, .slice a4 q.allowed.length c4, .slice a5 q.acts.length c5, .slice a6 q.groups.length c6, .int .i64 q.life]) H10.out.f7 3 _ rfl
            have q4 := Sta.cell (b := w5.heap.size) (cs := [.string q.name, .int .i64 q.ver, .bool q.tr, .bool q.se, .slice a4 q.allowed.length c4, .slice a5 q.acts.length c5, .slice a6 q.groups.length c6, .int .i64 q.life]) H10.out.f7 4 _ rfl
            have q5 := Sta.cell (b := w5.heap.size) (cs := [.string q.name, .int .i64 q.ver, .bool q.tr, .bool q.se, .slice a4 q.allowed.length c4, .slice a5 q.acts.length c5, .slice a6 q.groups.length c6, .int .i64 q.life]) H10.out.f7 5 _ rfl
            have q6 := Sta.cell (b := w5.heap.size) (cs := [.string q.name, .int .i64 q.ver, .bool q.tr, .bool q.se, .slice a4 q.allowed.length c4, .slice a5 q.acts.length c5, .slice a6 q.groups.length c6, .int .i64 q.life]) H10.out.f7 6 _ rfl
            have q7 := Sta.cell (b := w5.heap.size) (cs := [.string q.name, .int .i64 q.ver, .bool q.tr, .bool q.se, .slice a4 q.allowed.length c4, .slice a5 q.acts.length c5, .slice a6 q.groups.length c6, .int .i64 q.life]) H10.out.f7 7 _ rfl
            have y0 := Sta.cell (b := w9.heap.size) (cs := [.string y.name, .int .i64 y.ver, .bool y.tr, .bool y.se, .slice b1 y.allowed.length d1, .slice b2 y.acts.length d2, .slice b3 y.groups.length d3, .int .i64 y.life]) H10.out.f2 0 _ rfl
            have y1 := Sta.cell (b := w9.heap.size) (cs := [.string y.name, .int .i64 y.ver, .bool y.tr, .bool y.se, .slice b1 y.allowed.length d1, .slice b2 y.acts.length d2, .slice b3 y.groups.length d3, .int .i64 y.life]) H10.out.f2 1 _ rfl
            have y2 := Sta.cell (b := w9.heap.size) (cs := [.string y.name, .int .i64 y.ver, .bool y.tr, .bool y.se, .slice b1 y.allowed.length d1, .slice b2 y.acts.length d2, .slice b3 y.groups.length d3, .int .i64 y.life]) H10.out.f2 2 _ rfl
            have y3 := Sta.cell (b := w9.heap.size) (cs := [.string y.name, .int .i64 y.ver, .bool y.tr, .bool y.se, .slice b1 y.allowed.length d1, .slice b2 y.acts.length d2, .slice b3 y.groups.length d3, .int .i64 y.life]) H10.out.f2 3 _ rfl
            have y4 := Sta.cell (b := w9.heap.size) (cs := [.string y.name, .int .i64 y.ver, .bool y.tr, .bool y.se, .slice b1 y.allowed.length d1, .slice b2 y.acts.length d2, .slice b3 y.groups.length d3, .int .i64 y.life]) H10.out.f2 4 _ rfl
            have y5 := Sta.cell (b := w9.heap.size) (cs := [.string y.name, .int .i64 y.ver, .bool y.tr, .bool y.se, .slice b1 y.allowed.length d1, .slice b2 y.acts.length d2, .slice b3 y.groups.length d3, .int .i64 y.life]) H10.out.f2 5 _ rfl
            have y6 := Sta.cell (b := w9.heap.size) (cs := [.string y.name, .int .i64 y.ver, .bool y.tr, .bool y.se, .slice b1 y.allowed.length d1, .slice b2 y.acts.length d2, .slice b3 y.groups.length d3, .int .i64 y.life]) H10.out.f2 6 _ rfl
            have y7 := Sta.cell (b := w9.heap.size) (cs := [.string y.name, .int .i64 y.ver, .bool y.tr, .bool y.se, .slice b1 y.allowed.length d1, .slice b2 y.acts.length d2, .slice b3 y.groups.length d3, .int .i64 y.life]) H10.out.f2 7 _ rfl
            go_wp2_with fail
            refine (sameprin_is H10.out.f3.f8 HE2.out).mono ?_
            rintro e w11 ⟨rfl, h⟩
            have H11 := Lib.hid (H10.out.go h)
            clear h H10
            clear q0 q1 q2 q3 q4 q5 q6 q7
            clear y0 y1 y2 y3 y4 y5 y6 y7
            go_wp2_with fail
            go_ret
            exact ⟨rfl, H11.out.below⟩
end Go.Proofs.Ytmbclhjhmghapaa
