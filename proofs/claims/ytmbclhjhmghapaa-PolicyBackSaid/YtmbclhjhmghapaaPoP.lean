/- PolicyBack: the walk. -/
import Derived.Test.YtmbclhjhmghapaaPoN
namespace Go.Proofs.Ytmbclhjhmghapaa
open Go.RowKit Go.Maps Go.WideMaps
theorem hop_codes (S : List Prin) (a b : ByteArray) (f : Prin → Prin × Int) (hf : ∀ p, (f p).2 = 0 ∨ (f p).2 = 53) : (hopF S a b f).2 = 0 ∨ (hopF S a b f).2 = 40 ∨ (hopF S a b f).2 = 53 := by
  cases hb : findP S b with
  | none => rw [hopF_none hb]; exact .inr (.inl rfl)
  | some q =>
    rw [hopF_some hb, with_code]
    cases findP S a with
    | none => exact .inr (.inl rfl)
    | some p => exact (hf p).imp_right .inr



set_option maxHeartbeats 4000000 in
set_option maxRecDepth 100000 in
theorem pback_any (W : World) (va : Value) (l : List PAct) (a b c : ByteArray) (hl : RPActs (There W) W va l) (ha : InS a) (hb : InS b) (hc : InS c) :
    Calls Try.prog 9 #[va, .string a, .string b, .string c] W fun e w' => e = .returned (.bool true) ∧ Below W.heap.size W w' := by
  obtain ⟨ap, cap, rfl, hmax⟩ := hl.form
  have HA := Lib.hid hl
  have HT := Lib.hid (There.old W)
  clear hl
  go_enter Try.func9, Try.ntmps9
  go_wp2_with fail
  refine (pworks_any W).mono ?_
  rintro e w1 ⟨rfl, hbw⟩
  have D1 := Lib.hid hbw
  clear hbw
  go_wp2_with fail
  refine (pover_any (There W) w1 _ l (HT.out.on D1.out) (HA.out.on HT.out D1.out)).mono ?_
  rintro e w2 ⟨bo, rfl, _, hbw⟩
  have D2 := Lib.hid (D1.out.trans (hbw.mono D1.out.size))
  clear hbw
  cases bo with
  | true =>
    go_wp2_with fail
    go_ret
    exact ⟨rfl, D2.out⟩
  | false =>
    go_wp2_with fail
    refine (newStore_any (acts_start HA.out D2.out)).mono ?_
    rintro e w3 ⟨sb, rfl, h3⟩
    have H3 := Lib.hid h3
    clear h3
    go_wp2_with fail
    go_loopw [11] (fun i wr => ∃ k : Nat, k ≤ l.length ∧ i = .int .i64 k ∧ Hid (Sta (storeA sb (doAll [] (l.take k)) :: actsA (.slice ap l.length cap) l :: []) (There W) FNone W wr)) (fun i _ => l.length - (intOf i).toNat)
    case atStart => exact ⟨0, Nat.zero_le _, rfl, H3.out⟩
    case round =>
      obtain ⟨k, hk1, rfl, hst⟩ := hrel
      by_cases h1 : k < l.length
      · obtain ⟨I, hI, hra⟩ := Sta.pers hst.out.f1
        obtain ⟨b, o, va, vb, vg, rfl, _, hact, _, _, _, hr⟩ := hra.at k h1
        have HS : Hid (Sta (actA (actCells l[k] va vb vg) l[k] :: storeA sb (doAll [] (l.take k)) :: actsA (.slice (some ⟨b, o, none⟩) l.length cap) l :: []) (There W) FNone W wr) := by
          have h5 := Sta.frompers (ψ := fun I w => RPAct I w (actCells l[k] va vb vg) l[k]) (hψ := fun h hw hI => h.frame hw hI) hst.out.f1 (by
            intro I' _ hra'
            obtain ⟨b', o', va', vb', vg', e, _, hact', _, _, _, hr'⟩ := hra'.at k h1
            injection e with e
            injection e with e1 e2
            subst e1; subst e2
            have e5 := (hr 5 _ rfl).symm.trans (hr' 5 _ rfl)
            have e6 := (hr 6 _ rfl).symm.trans (hr' 6 _ rfl)
            have e7 := (hr 7 _ rfl).symm.trans (hr' 7 _ rfl)
            injection e5 with e5
            injection e6 with e6
            injection e7 with e7
            subst e5; subst e6; subst e7
            exact hact')
          exact h5.f2.f1
        have r0 : wr.cell? ⟨b, o + k * 12, none⟩ = some (.int .i64 l[k].k) := hr 0 _ rfl
        have r1 : wr.cell? ⟨b, o + k * 12 + 1, none⟩ = some (.string l[k].p.name) := hr 1 _ rfl
        have r2 : wr.cell? ⟨b, o + k * 12 + 2, none⟩ = some (.int .i64 l[k].p.ver) := hr 2 _ rfl
        have r3 : wr.cell? ⟨b, o + k * 12 + 3, none⟩ = some (.bool l[k].p.tr) := hr 3 _ rfl
        have r4 : wr.cell? ⟨b, o + k * 12 + 4, none⟩ = some (.bool l[k].p.se) := hr 4 _ rfl
        have r5 : wr.cell? ⟨b, o + k * 12 + 5, none⟩ = some va := hr 5 _ rfl
        have r6 : wr.cell? ⟨b, o + k * 12 + 6, none⟩ = some vb := hr 6 _ rfl
        have r7 : wr.cell? ⟨b, o + k * 12 + 7, none⟩ = some vg := hr 7 _ rfl
        have r8 : wr.cell? ⟨b, o + k * 12 + 8, none⟩ = some (.int .i64 l[k].p.life) := hr 8 _ rfl
        have r9 : wr.cell? ⟨b, o + k * 12 + 9, none⟩ = some (.string l[k].a) := hr 9 _ rfl
        have r10 : wr.cell? ⟨b, o + k * 12 + 10, none⟩ = some (.string l[k].b) := hr 10 _ rfl
        have r11 : wr.cell? ⟨b, o + k * 12 + 11, none⟩ = some (.bool l[k].on) := hr 11 _ rfl
        clear hI hra hact hr
        go_wp2_with fail
        refine (done_any (cs := actCells l[k] va vb vg) HS.out).mono ?_
        rintro e w4 ⟨rfl, h4⟩
        have H4 := Lib.hid h4.drop
        clear h4 r0 r1 r2 r3 r4 r5 r6 r7 r8 r9 r10 r11
        go_wp2_with fail
        go_roundw
        case rel =>
          refine ⟨k + 1, by omega, by go_num, ?_⟩
          show Sta _ _ _ _ _
          rw [doAll_snoc [] h1]
          exact H4.out
        case measure => simp [intOf]; omega
      · have H := Lib.hid hst.out
        clear hst hk1
        generalize doAll [] (l.take k) = S at *
        obtain ⟨x, y, hx⟩ : ∃ t k, mayF S a b = (t, k) := ⟨_, _, rfl⟩
        have MX := Lib.hid hx
        clear hx
        go_wp2_with fail
        refine (may_is H.out a b ha hb MX.out).mono ?_
        rintro e w4 ⟨rfl, h⟩
        have H4 := Lib.hid (H.out.go h)
        clear h H
        cases x with
        | true =>
          go_wp2_with fail
          go_ret
          exact ⟨rfl, H4.out.below⟩
        | false =>
          cases y with
          | true =>
            go_wp2_with fail
            go_ret
            exact ⟨rfl, H4.out.below⟩
          | false =>
            obtain ⟨p, ep, gp⟩ : ∃ t k, getF S c = (t, k) := ⟨_, _, rfl⟩
            obtain ⟨S1, er, hr⟩ : ∃ t k, hopF S a b (allowF b true) = (t, k) := ⟨_, _, rfl⟩
            obtain ⟨S2, fr, hr2⟩ : ∃ t k, hopF S1 b a (actsF a true) = (t, k) := ⟨_, _, rfl⟩
            obtain ⟨u, v, hu⟩ : ∃ t k, mayF S2 a b = (t, k) := ⟨_, _, rfl⟩
            obtain ⟨S3, gr, hr3⟩ : ∃ t k, hopF S2 a b (allowF b false) = (t, k) := ⟨_, _, rfl⟩
            obtain ⟨S4, jr, hr4⟩ : ∃ t k, hopF S3 b a (actsF a false) = (t, k) := ⟨_, _, rfl⟩
            obtain ⟨m, n, hm⟩ : ∃ t k, mayF S4 a b = (t, k) := ⟨_, _, rfl⟩
            obtain ⟨q, eq, gq⟩ : ∃ t k, getF S4 c = (t, k) := ⟨_, _, rfl⟩
            have BL : BackOk S S2 S4 a b er fr gr jr := by
              have := back_law S a b MX.out
              rw [hr] at this
              dsimp only at this
              rw [hr2] at this
              dsimp only at this
              rw [hr3] at this
              dsimp only at this
              rw [hr4] at this
              exact this
            have E1 : Hid (p = q) := by
              have := congrArg Prod.fst (getF_congr (BL.all c))
              rw [gq, gp] at this
              exact this.symm
            have M1 := may_view BL.all a b
            rw [hm, MX.out] at M1
            have em : m = false := congrArg Prod.fst M1
            have en : n = false := congrArg Prod.snd M1
            have eu : u = (er == 0) := by have := BL.u; rw [hu] at this; exact this
            have ev : v = (fr == 0) := by have := BL.v; rw [hu] at this; exact this
            have CE : er = 0 ∨ er = 40 ∨ er = 53 := by
              have := hop_codes S a b (allowF b true) fun p => (setF_code p.allowed b true).imp_right And.left
              rw [hr] at this
              exact this
            have CF : fr = 0 ∨ fr = 40 ∨ fr = 53 := by
              have := hop_codes S1 b a (actsF a true) fun p => (setF_code p.acts a true).imp_right And.left
              rw [hr2] at this
              exact this
            have HCE := Lib.hid CE
            have HCF := Lib.hid CF
            clear CE CF
            have EG := Lib.hid BL.g
            have EJ := Lib.hid BL.h
            subst em
            subst en
            clear BL M1 MX
            have GP := Lib.hid gp
            have MU := Lib.hid hu
            have HR1 := Lib.hid hr
            have HR2 := Lib.hid hr2
            have HR3 := Lib.hid hr3
            have HR4 := Lib.hid hr4
            have MM := Lib.hid hm
            have GQ := Lib.hid gq
            have EU := Lib.hid eu
            have EV := Lib.hid ev
            clear gp hu hr hr2 hr3 hr4 hm gq eu ev
            go_wp2_with fail
            refine (pget_is H4.out c hc GP.out).mono ?_
            rintro e w5 ⟨a1, c1, a2, c2, a3, c3, rfl, h⟩
            have H5 := Lib.hid (h.lay [.string p.name, .int .i64 p.ver, .bool p.tr, .bool p.se, .slice a1 p.allowed.length c1, .slice a2 p.acts.length c2, .slice a3 p.groups.length c3, .int .i64 p.life] 49)
            clear h H4
            go_wp2_with fail
            refine (allow_is H5.out.f2 a b true ha hb HR1.out).mono ?_
            rintro e w6 ⟨rfl, h⟩
            have H6 := Lib.hid h
            clear h H5
            go_wp2_with fail
            refine (acts_is H6.out b a true hb ha HR2.out).mono ?_
            rintro e w7 ⟨rfl, h⟩
            have H7 := Lib.hid h
            clear h H6
            go_wp2_with fail
            refine (may_is H7.out a b ha hb MU.out).mono ?_
            rintro e w8 ⟨rfl, h⟩
            have H8 := Lib.hid (H7.out.go h)
            clear h H7
            go_wp2_with fail
            refine (allow_is H8.out a b false ha hb HR3.out).mono ?_
            rintro e w9 ⟨rfl, h⟩
            have H9 := Lib.hid h
            clear h H8
            go_wp2_with fail
            refine (acts_is H9.out b a false hb ha HR4.out).mono ?_
            rintro e w10 ⟨rfl, h⟩
            have H10 := Lib.hid h
            clear h H9
            go_wp2_with fail
            refine (may_is H10.out a b ha hb MM.out).mono ?_
            rintro e w11 ⟨rfl, h⟩
            have H11 := Lib.hid (H10.out.go h)
            clear h H10
            go_wp2_with fail
            refine (pget_is H11.out c hc GQ.out).mono ?_
            rintro e w12 ⟨a4, c4, a5, c5, a6, c6, rfl, h⟩
            have H12 := Lib.hid (h.lay [.string q.name, .int .i64 q.ver, .bool q.tr, .bool q.se, .slice a4 q.allowed.length c4, .slice a5 q.acts.length c5, .slice a6 q.groups.length c6, .int .i64 q.life] 49)
            clear h H11 GP MU HR1 HR2 HR3 HR4 MM GQ
            rcases HCE.out with h0 | h0 | h0
            · have eu := EU.out
              have hg := EG.out h0
              subst h0
              subst hg
              have eu2 : u = true := eu
              subst eu2
              clear eu
              rcases HCF.out with h2 | h2 | h2
              · have ev := EV.out
                have hj := EJ.out h2
                subst h2
                subst hj
                have ev2 : v = true := ev
                subst ev2
                clear ev EU EV EG EJ HCE HCF
                have p0 := Sta.cell (b := w5.heap.size) (cs := [.string p.name,.int .i64 p.ver,.bool p.tr,.bool p.se,.slice a1 p.allowed.length c1,.slice a2 p.acts.length c2,.slice a3 p.groups.length c3,.int .i64 p.life]) H12.out.f3 0 _ rfl
                have p1 := Sta.cell (b := w5.heap.size) (cs := [.string p.name,.int .i64 p.ver,.bool p.tr,.bool p.se,.slice a1 p.allowed.length c1,.slice a2 p.acts.length c2,.slice a3 p.groups.length c3,.int .i64 p.life]) H12.out.f3 1 _ rfl
                have p2 := Sta.cell (b := w5.heap.size) (cs := [.string p.name,.int .i64 p.ver,.bool p.tr,.bool p.se,.slice a1 p.allowed.length c1,.slice a2 p.acts.length c2,.slice a3 p.groups.length c3,.int .i64 p.life]) H12.out.f3 2 _ rfl
                have p3 := Sta.cell (b := w5.heap.size) (cs := [.string p.name,.int .i64 p.ver,.bool p.tr,.bool p.se,.slice a1 p.allowed.length c1,.slice a2 p.acts.length c2,.slice a3 p.groups.length c3,.int .i64 p.life]) H12.out.f3 3 _ rfl
                have p4 := Sta.cell (b := w5.heap.size) (cs := [.string p.name,.int .i64 p.ver,.bool p.tr,.bool p.se,.slice a1 p.allowed.length c1,.slice a2 p.acts.length c2,.slice a3 p.groups.length c3,.int .i64 p.life]) H12.out.f3 4 _ rfl
                have p5 := Sta.cell (b := w5.heap.size) (cs := [.string p.name,.int .i64 p.ver,.bool p.tr,.bool p.se,.slice a1 p.allowed.length c1,.slice a2 p.acts.length c2,.slice a3 p.groups.length c3,.int .i64 p.life]) H12.out.f3 5 _ rfl
                have p6 := Sta.cell (b := w5.heap.size) (cs := [.string p.name,.int .i64 p.ver,.bool p.tr,.bool p.se,.slice a1 p.allowed.length c1,.slice a2 p.acts.length c2,.slice a3 p.groups.length c3,.int .i64 p.life]) H12.out.f3 6 _ rfl
                have p7 := Sta.cell (b := w5.heap.size) (cs := [.string p.name,.int .i64 p.ver,.bool p.tr,.bool p.se,.slice a1 p.allowed.length c1,.slice a2 p.acts.length c2,.slice a3 p.groups.length c3,.int .i64 p.life]) H12.out.f3 7 _ rfl
                have q0 := Sta.cell (b := w12.heap.size) (cs := [.string q.name,.int .i64 q.ver,.bool q.tr,.bool q.se,.slice a4 q.allowed.length c4,.slice a5 q.acts.length c5,.slice a6 q.groups.length c6,.int .i64 q.life]) H12.out 0 _ rfl
                have q1 := Sta.cell (b := w12.heap.size) (cs := [.string q.name,.int .i64 q.ver,.bool q.tr,.bool q.se,.slice a4 q.allowed.length c4,.slice a5 q.acts.length c5,.slice a6 q.groups.length c6,.int .i64 q.life]) H12.out 1 _ rfl
                have q2 := Sta.cell (b := w12.heap.size) (cs := [.string q.name,.int .i64 q.ver,.bool q.tr,.bool q.se,.slice a4 q.allowed.length c4,.slice a5 q.acts.length c5,.slice a6 q.groups.length c6,.int .i64 q.life]) H12.out 2 _ rfl
                have q3 := Sta.cell (b := w12.heap.size) (cs := [.string q.name,.int .i64 q.ver,.bool q.tr,.bool q.se,.slice a4 q.allowed.length c4,.slice a5 q.acts.length c5,.slice a6 q.groups.length c6,.int .i64 q.life]) H12.out 3 _ rfl
                have q4 := Sta.cell (b := w12.heap.size) (cs := [.string q.name,.int .i64 q.ver,.bool q.tr,.bool q.se,.slice a4 q.allowed.length c4,.slice a5 q.acts.length c5,.slice a6 q.groups.length c6,.int .i64 q.life]) H12.out 4 _ rfl
                have q5 := Sta.cell (b := w12.heap.size) (cs := [.string q.name,.int .i64 q.ver,.bool q.tr,.bool q.se,.slice a4 q.allowed.length c4,.slice a5 q.acts.length c5,.slice a6 q.groups.length c6,.int .i64 q.life]) H12.out 5 _ rfl
                have q6 := Sta.cell (b := w12.heap.size) (cs := [.string q.name,.int .i64 q.ver,.bool q.tr,.bool q.se,.slice a4 q.allowed.length c4,.slice a5 q.acts.length c5,.slice a6 q.groups.length c6,.int .i64 q.life]) H12.out 6 _ rfl
                have q7 := Sta.cell (b := w12.heap.size) (cs := [.string q.name,.int .i64 q.ver,.bool q.tr,.bool q.se,.slice a4 q.allowed.length c4,.slice a5 q.acts.length c5,.slice a6 q.groups.length c6,.int .i64 q.life]) H12.out 7 _ rfl
                go_wp2_with fail
                refine (sameprin_is H12.out.f1.f4 E1.out).mono ?_
                rintro e w13 ⟨rfl, h⟩
                have H13 := Lib.hid (H12.out.go h)
                clear h H12
                clear p0 p1 p2 p3 p4 p5 p6 p7
                clear q0 q1 q2 q3 q4 q5 q6 q7
                go_wp2_with fail
                go_ret
                exact ⟨rfl, H13.out.below⟩
              · have ev := EV.out
                subst h2
                have ev2 : v = false := ev
                subst ev2
                clear ev EU EV EG EJ HCE HCF
                have p0 := Sta.cell (b := w5.heap.size) (cs := [.string p.name,.int .i64 p.ver,.bool p.tr,.bool p.se,.slice a1 p.allowed.length c1,.slice a2 p.acts.length c2,.slice a3 p.groups.length c3,.int .i64 p.life]) H12.out.f3 0 _ rfl
                have p1 := Sta.cell (b := w5.heap.size) (cs := [.string p.name,.int .i64 p.ver,.bool p.tr,.bool p.se,.slice a1 p.allowed.length c1,.slice a2 p.acts.length c2,.slice a3 p.groups.length c3,.int .i64 p.life]) H12.out.f3 1 _ rfl
                have p2 := Sta.cell (b := w5.heap.size) (cs := [.string p.name,.int .i64 p.ver,.bool p.tr,.bool p.se,.slice a1 p.allowed.length c1,.slice a2 p.acts.length c2,.slice a3 p.groups.length c3,.int .i64 p.life]) H12.out.f3 2 _ rfl
                have p3 := Sta.cell (b := w5.heap.size) (cs := [.string p.name,.int .i64 p.ver,.bool p.tr,.bool p.se,.slice a1 p.allowed.length c1,.slice a2 p.acts.length c2,.slice a3 p.groups.length c3,.int .i64 p.life]) H12.out.f3 3 _ rfl
                have p4 := Sta.cell (b := w5.heap.size) (cs := [.string p.name,.int .i64 p.ver,.bool p.tr,.bool p.se,.slice a1 p.allowed.length c1,.slice a2 p.acts.length c2,.slice a3 p.groups.length c3,.int .i64 p.life]) H12.out.f3 4 _ rfl
                have p5 := Sta.cell (b := w5.heap.size) (cs := [.string p.name,.int .i64 p.ver,.bool p.tr,.bool p.se,.slice a1 p.allowed.length c1,.slice a2 p.acts.length c2,.slice a3 p.groups.length c3,.int .i64 p.life]) H12.out.f3 5 _ rfl
                have p6 := Sta.cell (b := w5.heap.size) (cs := [.string p.name,.int .i64 p.ver,.bool p.tr,.bool p.se,.slice a1 p.allowed.length c1,.slice a2 p.acts.length c2,.slice a3 p.groups.length c3,.int .i64 p.life]) H12.out.f3 6 _ rfl
                have p7 := Sta.cell (b := w5.heap.size) (cs := [.string p.name,.int .i64 p.ver,.bool p.tr,.bool p.se,.slice a1 p.allowed.length c1,.slice a2 p.acts.length c2,.slice a3 p.groups.length c3,.int .i64 p.life]) H12.out.f3 7 _ rfl
                have q0 := Sta.cell (b := w12.heap.size) (cs := [.string q.name,.int .i64 q.ver,.bool q.tr,.bool q.se,.slice a4 q.allowed.length c4,.slice a5 q.acts.length c5,.slice a6 q.groups.length c6,.int .i64 q.life]) H12.out 0 _ rfl
                have q1 := Sta.cell (b := w12.heap.size) (cs := [.string q.name,.int .i64 q.ver,.bool q.tr,.bool q.se,.slice a4 q.allowed.length c4,.slice a5 q.acts.length c5,.slice a6 q.groups.length c6,.int .i64 q.life]) H12.out 1 _ rfl
                have q2 := Sta.cell (b := w12.heap.size) (cs := [.string q.name,.int .i64 q.ver,.bool q.tr,.bool q.se,.slice a4 q.allowed.length c4,.slice a5 q.acts.length c5,.slice a6 q.groups.length c6,.int .i64 q.life]) H12.out 2 _ rfl
                have q3 := Sta.cell (b := w12.heap.size) (cs := [.string q.name,.int .i64 q.ver,.bool q.tr,.bool q.se,.slice a4 q.allowed.length c4,.slice a5 q.acts.length c5,.slice a6 q.groups.length c6,.int .i64 q.life]) H12.out 3 _ rfl
                have q4 := Sta.cell (b := w12.heap.size) (cs := [.string q.name,.int .i64 q.ver,.bool q.tr,.bool q.se,.slice a4 q.allowed.length c4,.slice a5 q.acts.length c5,.slice a6 q.groups.length c6,.int .i64 q.life]) H12.out 4 _ rfl
                have q5 := Sta.cell (b := w12.heap.size) (cs := [.string q.name,.int .i64 q.ver,.bool q.tr,.bool q.se,.slice a4 q.allowed.length c4,.slice a5 q.acts.length c5,.slice a6 q.groups.length c6,.int .i64 q.life]) H12.out 5 _ rfl
                have q6 := Sta.cell (b := w12.heap.size) (cs := [.string q.name,.int .i64 q.ver,.bool q.tr,.bool q.se,.slice a4 q.allowed.length c4,.slice a5 q.acts.length c5,.slice a6 q.groups.length c6,.int .i64 q.life]) H12.out 6 _ rfl
                have q7 := Sta.cell (b := w12.heap.size) (cs := [.string q.name,.int .i64 q.ver,.bool q.tr,.bool q.se,.slice a4 q.allowed.length c4,.slice a5 q.acts.length c5,.slice a6 q.groups.length c6,.int .i64 q.life]) H12.out 7 _ rfl
                go_wp2_with fail
                refine (sameprin_is H12.out.f1.f4 E1.out).mono ?_
                rintro e w13 ⟨rfl, h⟩
                have H13 := Lib.hid (H12.out.go h)
                clear h H12
                clear p0 p1 p2 p3 p4 p5 p6 p7
                clear q0 q1 q2 q3 q4 q5 q6 q7
                go_wp2_with fail
                go_ret
                exact ⟨rfl, H13.out.below⟩
              · have ev := EV.out
                subst h2
                have ev2 : v = false := ev
                subst ev2
                clear ev EU EV EG EJ HCE HCF
                have p0 := Sta.cell (b := w5.heap.size) (cs := [.string p.name,.int .i64 p.ver,.bool p.tr,.bool p.se,.slice a1 p.allowed.length c1,.slice a2 p.acts.length c2,.slice a3 p.groups.length c3,.int .i64 p.life]) H12.out.f3 0 _ rfl
                have p1 := Sta.cell (b := w5.heap.size) (cs := [.string p.name,.int .i64 p.ver,.bool p.tr,.bool p.se,.slice a1 p.allowed.length c1,.slice a2 p.acts.length c2,.slice a3 p.groups.length c3,.int .i64 p.life]) H12.out.f3 1 _ rfl
                have p2 := Sta.cell (b := w5.heap.size) (cs := [.string p.name,.int .i64 p.ver,.bool p.tr,.bool p.se,.slice a1 p.allowed.length c1,.slice a2 p.acts.length c2,.slice a3 p.groups.length c3,.int .i64 p.life]) H12.out.f3 2 _ rfl
                have p3 := Sta.cell (b := w5.heap.size) (cs := [.string p.name,.int .i64 p.ver,.bool p.tr,.bool p.se,.slice a1 p.allowed.length c1,.slice a2 p.acts.length c2,.slice a3 p.groups.length c3,.int .i64 p.life]) H12.out.f3 3 _ rfl
                have p4 := Sta.cell (b := w5.heap.size) (cs := [.string p.name,.int .i64 p.ver,.bool p.tr,.bool p.se,.slice a1 p.allowed.length c1,.slice a2 p.acts.length c2,.slice a3 p.groups.length c3,.int .i64 p.life]) H12.out.f3 4 _ rfl
                have p5 := Sta.cell (b := w5.heap.size) (cs := [.string p.name,.int .i64 p.ver,.bool p.tr,.bool p.se,.slice a1 p.allowed.length c1,.slice a2 p.acts.length c2,.slice a3 p.groups.length c3,.int .i64 p.life]) H12.out.f3 5 _ rfl
                have p6 := Sta.cell (b := w5.heap.size) (cs := [.string p.name,.int .i64 p.ver,.bool p.tr,.bool p.se,.slice a1 p.allowed.length c1,.slice a2 p.acts.length c2,.slice a3 p.groups.length c3,.int .i64 p.life]) H12.out.f3 6 _ rfl
                have p7 := Sta.cell (b := w5.heap.size) (cs := [.string p.name,.int .i64 p.ver,.bool p.tr,.bool p.se,.slice a1 p.allowed.length c1,.slice a2 p.acts.length c2,.slice a3 p.groups.length c3,.int .i64 p.life]) H12.out.f3 7 _ rfl
                have q0 := Sta.cell (b := w12.heap.size) (cs := [.string q.name,.int .i64 q.ver,.bool q.tr,.bool q.se,.slice a4 q.allowed.length c4,.slice a5 q.acts.length c5,.slice a6 q.groups.length c6,.int .i64 q.life]) H12.out 0 _ rfl
                have q1 := Sta.cell (b := w12.heap.size) (cs := [.string q.name,.int .i64 q.ver,.bool q.tr,.bool q.se,.slice a4 q.allowed.length c4,.slice a5 q.acts.length c5,.slice a6 q.groups.length c6,.int .i64 q.life]) H12.out 1 _ rfl
                have q2 := Sta.cell (b := w12.heap.size) (cs := [.string q.name,.int .i64 q.ver,.bool q.tr,.bool q.se,.slice a4 q.allowed.length c4,.slice a5 q.acts.length c5,.slice a6 q.groups.length c6,.int .i64 q.life]) H12.out 2 _ rfl
                have q3 := Sta.cell (b := w12.heap.size) (cs := [.string q.name,.int .i64 q.ver,.bool q.tr,.bool q.se,.slice a4 q.allowed.length c4,.slice a5 q.acts.length c5,.slice a6 q.groups.length c6,.int .i64 q.life]) H12.out 3 _ rfl
                have q4 := Sta.cell (b := w12.heap.size) (cs := [.string q.name,.int .i64 q.ver,.bool q.tr,.bool q.se,.slice a4 q.allowed.length c4,.slice a5 q.acts.length c5,.slice a6 q.groups.length c6,.int .i64 q.life]) H12.out 4 _ rfl
                have q5 := Sta.cell (b := w12.heap.size) (cs := [.string q.name,.int .i64 q.ver,.bool q.tr,.bool q.se,.slice a4 q.allowed.length c4,.slice a5 q.acts.length c5,.slice a6 q.groups.length c6,.int .i64 q.life]) H12.out 5 _ rfl
                have q6 := Sta.cell (b := w12.heap.size) (cs := [.string q.name,.int .i64 q.ver,.bool q.tr,.bool q.se,.slice a4 q.allowed.length c4,.slice a5 q.acts.length c5,.slice a6 q.groups.length c6,.int .i64 q.life]) H12.out 6 _ rfl
                have q7 := Sta.cell (b := w12.heap.size) (cs := [.string q.name,.int .i64 q.ver,.bool q.tr,.bool q.se,.slice a4 q.allowed.length c4,.slice a5 q.acts.length c5,.slice a6 q.groups.length c6,.int .i64 q.life]) H12.out 7 _ rfl
                go_wp2_with fail
                refine (sameprin_is H12.out.f1.f4 E1.out).mono ?_
                rintro e w13 ⟨rfl, h⟩
                have H13 := Lib.hid (H12.out.go h)
                clear h H12
                clear p0 p1 p2 p3 p4 p5 p6 p7
                clear q0 q1 q2 q3 q4 q5 q6 q7
                go_wp2_with fail
                go_ret
                exact ⟨rfl, H13.out.below⟩
            · have eu := EU.out
              subst h0
              have eu2 : u = false := eu
              subst eu2
              clear eu
              rcases HCF.out with h2 | h2 | h2
              · have ev := EV.out
                have hj := EJ.out h2
                subst h2
                subst hj
                have ev2 : v = true := ev
                subst ev2
                clear ev EU EV EG EJ HCE HCF
                have p0 := Sta.cell (b := w5.heap.size) (cs := [.string p.name,.int .i64 p.ver,.bool p.tr,.bool p.se,.slice a1 p.allowed.length c1,.slice a2 p.acts.length c2,.slice a3 p.groups.length c3,.int .i64 p.life]) H12.out.f3 0 _ rfl
                have p1 := Sta.cell (b := w5.heap.size) (cs := [.string p.name,.int .i64 p.ver,.bool p.tr,.bool p.se,.slice a1 p.allowed.length c1,.slice a2 p.acts.length c2,.slice a3 p.groups.length c3,.int .i64 p.life]) H12.out.f3 1 _ rfl
                have p2 := Sta.cell (b := w5.heap.size) (cs := [.string p.name,.int .i64 p.ver,.bool p.tr,.bool p.se,.slice a1 p.allowed.length c1,.slice a2 p.acts.length c2,.slice a3 p.groups.length c3,.int .i64 p.life]) H12.out.f3 2 _ rfl
                have p3 := Sta.cell (b := w5.heap.size) (cs := [.string p.name,.int .i64 p.ver,.bool p.tr,.bool p.se,.slice a1 p.allowed.length c1,.slice a2 p.acts.length c2,.slice a3 p.groups.length c3,.int .i64 p.life]) H12.out.f3 3 _ rfl
                have p4 := Sta.cell (b := w5.heap.size) (cs := [.string p.name,.int .i64 p.ver,.bool p.tr,.bool p.se,.slice a1 p.allowed.length c1,.slice a2 p.acts.length c2,.slice a3 p.groups.length c3,.int .i64 p.life]) H12.out.f3 4 _ rfl
                have p5 := Sta.cell (b := w5.heap.size) (cs := [.string p.name,.int .i64 p.ver,.bool p.tr,.bool p.se,.slice a1 p.allowed.length c1,.slice a2 p.acts.length c2,.slice a3 p.groups.length c3,.int .i64 p.life]) H12.out.f3 5 _ rfl
                have p6 := Sta.cell (b := w5.heap.size) (cs := [.string p.name,.int .i64 p.ver,.bool p.tr,.bool p.se,.slice a1 p.allowed.length c1,.slice a2 p.acts.length c2,.slice a3 p.groups.length c3,.int .i64 p.life]) H12.out.f3 6 _ rfl
                have p7 := Sta.cell (b := w5.heap.size) (cs := [.string p.name,.int .i64 p.ver,.bool p.tr,.bool p.se,.slice a1 p.allowed.length c1,.slice a2 p.acts.length c2,.slice a3 p.groups.length c3,.int .i64 p.life]) H12.out.f3 7 _ rfl
                have q0 := Sta.cell (b := w12.heap.size) (cs := [.string q.name,.int .i64 q.ver,.bool q.tr,.bool q.se,.slice a4 q.allowed.length c4,.slice a5 q.acts.length c5,.slice a6 q.groups.length c6,.int .i64 q.life]) H12.out 0 _ rfl
                have q1 := Sta.cell (b := w12.heap.size) (cs := [.string q.name,.int .i64 q.ver,.bool q.tr,.bool q.se,.slice a4 q.allowed.length c4,.slice a5 q.acts.length c5,.slice a6 q.groups.length c6,.int .i64 q.life]) H12.out 1 _ rfl
                have q2 := Sta.cell (b := w12.heap.size) (cs := [.string q.name,.int .i64 q.ver,.bool q.tr,.bool q.se,.slice a4 q.allowed.length c4,.slice a5 q.acts.length c5,.slice a6 q.groups.length c6,.int .i64 q.life]) H12.out 2 _ rfl
                have q3 := Sta.cell (b := w12.heap.size) (cs := [.string q.name,.int .i64 q.ver,.bool q.tr,.bool q.se,.slice a4 q.allowed.length c4,.slice a5 q.acts.length c5,.slice a6 q.groups.length c6,.int .i64 q.life]) H12.out 3 _ rfl
                have q4 := Sta.cell (b := w12.heap.size) (cs := [.string q.name,.int .i64 q.ver,.bool q.tr,.bool q.se,.slice a4 q.allowed.length c4,.slice a5 q.acts.length c5,.slice a6 q.groups.length c6,.int .i64 q.life]) H12.out 4 _ rfl
                have q5 := Sta.cell (b := w12.heap.size) (cs := [.string q.name,.int .i64 q.ver,.bool q.tr,.bool q.se,.slice a4 q.allowed.length c4,.slice a5 q.acts.length c5,.slice a6 q.groups.length c6,.int .i64 q.life]) H12.out 5 _ rfl
                have q6 := Sta.cell (b := w12.heap.size) (cs := [.string q.name,.int .i64 q.ver,.bool q.tr,.bool q.se,.slice a4 q.allowed.length c4,.slice a5 q.acts.length c5,.slice a6 q.groups.length c6,.int .i64 q.life]) H12.out 6 _ rfl
                have q7 := Sta.cell (b := w12.heap.size) (cs := [.string q.name,.int .i64 q.ver,.bool q.tr,.bool q.se,.slice a4 q.allowed.length c4,.slice a5 q.acts.length c5,.slice a6 q.groups.length c6,.int .i64 q.life]) H12.out 7 _ rfl
                go_wp2_with fail
                refine (sameprin_is H12.out.f1.f4 E1.out).mono ?_
                rintro e w13 ⟨rfl, h⟩
                have H13 := Lib.hid (H12.out.go h)
                clear h H12
                clear p0 p1 p2 p3 p4 p5 p6 p7
                clear q0 q1 q2 q3 q4 q5 q6 q7
                go_wp2_with fail
                go_ret
                exact ⟨rfl, H13.out.below⟩
              · have ev := EV.out
                subst h2
                have ev2 : v = false := ev
                subst ev2
                clear ev EU EV EG EJ HCE HCF
                have p0 := Sta.cell (b := w5.heap.size) (cs := [.string p.name,.int .i64 p.ver,.bool p.tr,.bool p.se,.slice a1 p.allowed.length c1,.slice a2 p.acts.length c2,.slice a3 p.groups.length c3,.int .i64 p.life]) H12.out.f3 0 _ rfl
                have p1 := Sta.cell (b := w5.heap.size) (cs := [.string p.name,.int .i64 p.ver,.bool p.tr,.bool p.se,.slice a1 p.allowed.length c1,.slice a2 p.acts.length c2,.slice a3 p.groups.length c3,.int .i64 p.life]) H12.out.f3 1 _ rfl
                have p2 := Sta.cell (b := w5.heap.size) (cs := [.string p.name,.int .i64 p.ver,.bool p.tr,.bool p.se,.slice a1 p.allowed.length c1,.slice a2 p.acts.length c2,.slice a3 p.groups.length c3,.int .i64 p.life]) H12.out.f3 2 _ rfl
                have p3 := Sta.cell (b := w5.heap.size) (cs := [.string p.name,.int .i64 p.ver,.bool p.tr,.bool p.se,.slice a1 p.allowed.length c1,.slice a2 p.acts.length c2,.slice a3 p.groups.length c3,.int .i64 p.life]) H12.out.f3 3 _ rfl
                have p4 := Sta.cell (b := w5.heap.size) (cs := [.string p.name,.int .i64 p.ver,.bool p.tr,.bool p.se,.slice a1 p.allowed.length c1,.slice a2 p.acts.length c2,.slice a3 p.groups.length c3,.int .i64 p.life]) H12.out.f3 4 _ rfl
                have p5 := Sta.cell (b := w5.heap.size) (cs := [.string p.name,.int .i64 p.ver,.bool p.tr,.bool p.se,.slice a1 p.allowed.length c1,.slice a2 p.acts.length c2,.slice a3 p.groups.length c3,.int .i64 p.life]) H12.out.f3 5 _ rfl
                have p6 := Sta.cell (b := w5.heap.size) (cs := [.string p.name,.int .i64 p.ver,.bool p.tr,.bool p.se,.slice a1 p.allowed.length c1,.slice a2 p.acts.length c2,.slice a3 p.groups.length c3,.int .i64 p.life]) H12.out.f3 6 _ rfl
                have p7 := Sta.cell (b := w5.heap.size) (cs := [.string p.name,.int .i64 p.ver,.bool p.tr,.bool p.se,.slice a1 p.allowed.length c1,.slice a2 p.acts.length c2,.slice a3 p.groups.length c3,.int .i64 p.life]) H12.out.f3 7 _ rfl
                have q0 := Sta.cell (b := w12.heap.size) (cs := [.string q.name,.int .i64 q.ver,.bool q.tr,.bool q.se,.slice a4 q.allowed.length c4,.slice a5 q.acts.length c5,.slice a6 q.groups.length c6,.int .i64 q.life]) H12.out 0 _ rfl
                have q1 := Sta.cell (b := w12.heap.size) (cs := [.string q.name,.int .i64 q.ver,.bool q.tr,.bool q.se,.slice a4 q.allowed.length c4,.slice a5 q.acts.length c5,.slice a6 q.groups.length c6,.int .i64 q.life]) H12.out 1 _ rfl
                have q2 := Sta.cell (b := w12.heap.size) (cs := [.string q.name,.int .i64 q.ver,.bool q.tr,.bool q.se,.slice a4 q.allowed.length c4,.slice a5 q.acts.length c5,.slice a6 q.groups.length c6,.int .i64 q.life]) H12.out 2 _ rfl
                have q3 := Sta.cell (b := w12.heap.size) (cs := [.string q.name,.int .i64 q.ver,.bool q.tr,.bool q.se,.slice a4 q.allowed.length c4,.slice a5 q.acts.length c5,.slice a6 q.groups.length c6,.int .i64 q.life]) H12.out 3 _ rfl
                have q4 := Sta.cell (b := w12.heap.size) (cs := [.string q.name,.int .i64 q.ver,.bool q.tr,.bool q.se,.slice a4 q.allowed.length c4,.slice a5 q.acts.length c5,.slice a6 q.groups.length c6,.int .i64 q.life]) H12.out 4 _ rfl
                have q5 := Sta.cell (b := w12.heap.size) (cs := [.string q.name,.int .i64 q.ver,.bool q.tr,.bool q.se,.slice a4 q.allowed.length c4,.slice a5 q.acts.length c5,.slice a6 q.groups.length c6,.int .i64 q.life]) H12.out 5 _ rfl
                have q6 := Sta.cell (b := w12.heap.size) (cs := [.string q.name,.int .i64 q.ver,.bool q.tr,.bool q.se,.slice a4 q.allowed.length c4,.slice a5 q.acts.length c5,.slice a6 q.groups.length c6,.int .i64 q.life]) H12.out 6 _ rfl
                have q7 := Sta.cell (b := w12.heap.size) (cs := [.string q.name,.int .i64 q.ver,.bool q.tr,.bool q.se,.slice a4 q.allowed.length c4,.slice a5 q.acts.length c5,.slice a6 q.groups.length c6,.int .i64 q.life]) H12.out 7 _ rfl
                go_wp2_with fail
                refine (sameprin_is H12.out.f1.f4 E1.out).mono ?_
                rintro e w13 ⟨rfl, h⟩
                have H13 := Lib.hid (H12.out.go h)
                clear h H12
                clear p0 p1 p2 p3 p4 p5 p6 p7
                clear q0 q1 q2 q3 q4 q5 q6 q7
                go_wp2_with fail
                go_ret
                exact ⟨rfl, H13.out.below⟩
              · have ev := EV.out
                subst h2
                have ev2 : v = false := ev
                subst ev2
                clear ev EU EV EG EJ HCE HCF
                have p0 := Sta.cell (b := w5.heap.size) (cs := [.string p.name,.int .i64 p.ver,.bool p.tr,.bool p.se,.slice a1 p.allowed.length c1,.slice a2 p.acts.length c2,.slice a3 p.groups.length c3,.int .i64 p.life]) H12.out.f3 0 _ rfl
                have p1 := Sta.cell (b := w5.heap.size) (cs := [.string p.name,.int .i64 p.ver,.bool p.tr,.bool p.se,.slice a1 p.allowed.length c1,.slice a2 p.acts.length c2,.slice a3 p.groups.length c3,.int .i64 p.life]) H12.out.f3 1 _ rfl
                have p2 := Sta.cell (b := w5.heap.size) (cs := [.string p.name,.int .i64 p.ver,.bool p.tr,.bool p.se,.slice a1 p.allowed.length c1,.slice a2 p.acts.length c2,.slice a3 p.groups.length c3,.int .i64 p.life]) H12.out.f3 2 _ rfl
                have p3 := Sta.cell (b := w5.heap.size) (cs := [.string p.name,.int .i64 p.ver,.bool p.tr,.bool p.se,.slice a1 p.allowed.length c1,.slice a2 p.acts.length c2,.slice a3 p.groups.length c3,.int .i64 p.life]) H12.out.f3 3 _ rfl
                have p4 := Sta.cell (b := w5.heap.size) (cs := [.string p.name,.int .i64 p.ver,.bool p.tr,.bool p.se,.slice a1 p.allowed.length c1,.slice a2 p.acts.length c2,.slice a3 p.groups.length c3,.int .i64 p.life]) H12.out.f3 4 _ rfl
                have p5 := Sta.cell (b := w5.heap.size) (cs := [.string p.name,.int .i64 p.ver,.bool p.tr,.bool p.se,.slice a1 p.allowed.length c1,.slice a2 p.acts.length c2,.slice a3 p.groups.length c3,.int .i64 p.life]) H12.out.f3 5 _ rfl
                have p6 := Sta.cell (b := w5.heap.size) (cs := [.string p.name,.int .i64 p.ver,.bool p.tr,.bool p.se,.slice a1 p.allowed.length c1,.slice a2 p.acts.length c2,.slice a3 p.groups.length c3,.int .i64 p.life]) H12.out.f3 6 _ rfl
                have p7 := Sta.cell (b := w5.heap.size) (cs := [.string p.name,.int .i64 p.ver,.bool p.tr,.bool p.se,.slice a1 p.allowed.length c1,.slice a2 p.acts.length c2,.slice a3 p.groups.length c3,.int .i64 p.life]) H12.out.f3 7 _ rfl
                have q0 := Sta.cell (b := w12.heap.size) (cs := [.string q.name,.int .i64 q.ver,.bool q.tr,.bool q.se,.slice a4 q.allowed.length c4,.slice a5 q.acts.length c5,.slice a6 q.groups.length c6,.int .i64 q.life]) H12.out 0 _ rfl
                have q1 := Sta.cell (b := w12.heap.size) (cs := [.string q.name,.int .i64 q.ver,.bool q.tr,.bool q.se,.slice a4 q.allowed.length c4,.slice a5 q.acts.length c5,.slice a6 q.groups.length c6,.int .i64 q.life]) H12.out 1 _ rfl
                have q2 := Sta.cell (b := w12.heap.size) (cs := [.string q.name,.int .i64 q.ver,.bool q.tr,.bool q.se,.slice a4 q.allowed.length c4,.slice a5 q.acts.length c5,.slice a6 q.groups.length c6,.int .i64 q.life]) H12.out 2 _ rfl
                have q3 := Sta.cell (b := w12.heap.size) (cs := [.string q.name,.int .i64 q.ver,.bool q.tr,.bool q.se,.slice a4 q.allowed.length c4,.slice a5 q.acts.length c5,.slice a6 q.groups.length c6,.int .i64 q.life]) H12.out 3 _ rfl
                have q4 := Sta.cell (b := w12.heap.size) (cs := [.string q.name,.int .i64 q.ver,.bool q.tr,.bool q.se,.slice a4 q.allowed.length c4,.slice a5 q.acts.length c5,.slice a6 q.groups.length c6,.int .i64 q.life]) H12.out 4 _ rfl
                have q5 := Sta.cell (b := w12.heap.size) (cs := [.string q.name,.int .i64 q.ver,.bool q.tr,.bool q.se,.slice a4 q.allowed.length c4,.slice a5 q.acts.length c5,.slice a6 q.groups.length c6,.int .i64 q.life]) H12.out 5 _ rfl
                have q6 := Sta.cell (b := w12.heap.size) (cs := [.string q.name,.int .i64 q.ver,.bool q.tr,.bool q.se,.slice a4 q.allowed.length c4,.slice a5 q.acts.length c5,.slice a6 q.groups.length c6,.int .i64 q.life]) H12.out 6 _ rfl
                have q7 := Sta.cell (b := w12.heap.size) (cs := [.string q.name,.int .i64 q.ver,.bool q.tr,.bool q.se,.slice a4 q.allowed.length c4,.slice a5 q.acts.length c5,.slice a6 q.groups.length c6,.int .i64 q.life]) H12.out 7 _ rfl
                go_wp2_with fail
                refine (sameprin_is H12.out.f1.f4 E1.out).mono ?_
                rintro e w13 ⟨rfl, h⟩
                have H13 := Lib.hid (H12.out.go h)
                clear h H12
                clear p0 p1 p2 p3 p4 p5 p6 p7
                clear q0 q1 q2 q3 q4 q5 q6 q7
                go_wp2_with fail
                go_ret
                exact ⟨rfl, H13.out.below⟩
            · have eu := EU.out
              subst h0
              have eu2 : u = false := eu
              subst eu2
              clear eu
              rcases HCF.out with h2 | h2 | h2
              · have ev := EV.out
                have hj := EJ.out h2
                subst h2
                subst hj
                have ev2 : v = true := ev
                subst ev2
                clear ev EU EV EG EJ HCE HCF
                have p0 := Sta.cell (b := w5.heap.size) (cs := [.string p.name,.int .i64 p.ver,.bool p.tr,.bool p.se,.slice a1 p.allowed.length c1,.slice a2 p.acts.length c2,.slice a3 p.groups.length c3,.int .i64 p.life]) H12.out.f3 0 _ rfl
                have p1 := Sta.cell (b := w5.heap.size) (cs := [.string p.name,.int .i64 p.ver,.bool p.tr,.bool p.se,.slice a1 p.allowed.length c1,.slice a2 p.acts.length c2,.slice a3 p.groups.length c3,.int .i64 p.life]) H12.out.f3 1 _ rfl
                have p2 := Sta.cell (b := w5.heap.size) (cs := [.string p.name,.int .i64 p.ver,.bool p.tr,.bool p.se,.slice a1 p.allowed.length c1,.slice a2 p.acts.length c2,.slice a3 p.groups.length c3,.int .i64 p.life]) H12.out.f3 2 _ rfl
                have p3 := Sta.cell (b := w5.heap.size) (cs := [.string p.name,.int .i64 p.ver,.bool p.tr,.bool p.se,.slice a1 p.allowed.length c1,.slice a2 p.acts.length c2,.slice a3 p.groups.length c3,.int .i64 p.life]) H12.out.f3 3 _ rfl
                have p4 := Sta.cell (b := w5.heap.size) (cs := [.string p.name,.int .i64 p.ver,.bool p.tr,.bool p.se,.slice a1 p.allowed.length c1,.slice a2 p.acts.length c2,.slice a3 p.groups.length c3,.int .i64 p.life]) H12.out.f3 4 _ rfl
                have p5 := Sta.cell (b := w5.heap.size) (cs := [.string p.name,.int .i64 p.ver,.bool p.tr,.bool p.se,.slice a1 p.allowed.length c1,.slice a2 p.acts.length c2,.slice a3 p.groups.length c3,.int .i64 p.life]) H12.out.f3 5 _ rfl
                have p6 := Sta.cell (b := w5.heap.size) (cs := [.string p.name,.int .i64 p.ver,.bool p.tr,.bool p.se,.slice a1 p.allowed.length c1,.slice a2 p.acts.length c2,.slice a3 p.groups.length c3,.int .i64 p.life]) H12.out.f3 6 _ rfl
                have p7 := Sta.cell (b := w5.heap.size) (cs := [.string p.name,.int .i64 p.ver,.bool p.tr,.bool p.se,.slice a1 p.allowed.length c1,.slice a2 p.acts.length c2,.slice a3 p.groups.length c3,.int .i64 p.life]) H12.out.f3 7 _ rfl
                have q0 := Sta.cell (b := w12.heap.size) (cs := [.string q.name,.int .i64 q.ver,.bool q.tr,.bool q.se,.slice a4 q.allowed.length c4,.slice a5 q.acts.length c5,.slice a6 q.groups.length c6,.int .i64 q.life]) H12.out 0 _ rfl
                have q1 := Sta.cell (b := w12.heap.size) (cs := [.string q.name,.int .i64 q.ver,.bool q.tr,.bool q.se,.slice a4 q.allowed.length c4,.slice a5 q.acts.length c5,.slice a6 q.groups.length c6,.int .i64 q.life]) H12.out 1 _ rfl
                have q2 := Sta.cell (b := w12.heap.size) (cs := [.string q.name,.int .i64 q.ver,.bool q.tr,.bool q.se,.slice a4 q.allowed.length c4,.slice a5 q.acts.length c5,.slice a6 q.groups.length c6,.int .i64 q.life]) H12.out 2 _ rfl
                have q3 := Sta.cell (b := w12.heap.size) (cs := [.string q.name,.int .i64 q.ver,.bool q.tr,.bool q.se,.slice a4 q.allowed.length c4,.slice a5 q.acts.length c5,.slice a6 q.groups.length c6,.int .i64 q.life]) H12.out 3 _ rfl
                have q4 := Sta.cell (b := w12.heap.size) (cs := [.string q.name,.int .i64 q.ver,.bool q.tr,.bool q.se,.slice a4 q.allowed.length c4,.slice a5 q.acts.length c5,.slice a6 q.groups.length c6,.int .i64 q.life]) H12.out 4 _ rfl
                have q5 := Sta.cell (b := w12.heap.size) (cs := [.string q.name,.int .i64 q.ver,.bool q.tr,.bool q.se,.slice a4 q.allowed.length c4,.slice a5 q.acts.length c5,.slice a6 q.groups.length c6,.int .i64 q.life]) H12.out 5 _ rfl
                have q6 := Sta.cell (b := w12.heap.size) (cs := [.string q.name,.int .i64 q.ver,.bool q.tr,.bool q.se,.slice a4 q.allowed.length c4,.slice a5 q.acts.length c5,.slice a6 q.groups.length c6,.int .i64 q.life]) H12.out 6 _ rfl
                have q7 := Sta.cell (b := w12.heap.size) (cs := [.string q.name,.int .i64 q.ver,.bool q.tr,.bool q.se,.slice a4 q.allowed.length c4,.slice a5 q.acts.length c5,.slice a6 q.groups.length c6,.int .i64 q.life]) H12.out 7 _ rfl
                go_wp2_with fail
                refine (sameprin_is H12.out.f1.f4 E1.out).mono ?_
                rintro e w13 ⟨rfl, h⟩
                have H13 := Lib.hid (H12.out.go h)
                clear h H12
                clear p0 p1 p2 p3 p4 p5 p6 p7
                clear q0 q1 q2 q3 q4 q5 q6 q7
                go_wp2_with fail
                go_ret
                exact ⟨rfl, H13.out.below⟩
              · have ev := EV.out
                subst h2
                have ev2 : v = false := ev
                subst ev2
                clear ev EU EV EG EJ HCE HCF
                have p0 := Sta.cell (b := w5.heap.size) (cs := [.string p.name,.int .i64 p.ver,.bool p.tr,.bool p.se,.slice a1 p.allowed.length c1,.slice a2 p.acts.length c2,.slice a3 p.groups.length c3,.int .i64 p.life]) H12.out.f3 0 _ rfl
                have p1 := Sta.cell (b := w5.heap.size) (cs := [.string p.name,.int .i64 p.ver,.bool p.tr,.bool p.se,.slice a1 p.allowed.length c1,.slice a2 p.acts.length c2,.slice a3 p.groups.length c3,.int .i64 p.life]) H12.out.f3 1 _ rfl
                have p2 := Sta.cell (b := w5.heap.size) (cs := [.string p.name,.int .i64 p.ver,.bool p.tr,.bool p.se,.slice a1 p.allowed.length c1,.slice a2 p.acts.length c2,.slice a3 p.groups.length c3,.int .i64 p.life]) H12.out.f3 2 _ rfl
                have p3 := Sta.cell (b := w5.heap.size) (cs := [.string p.name,.int .i64 p.ver,.bool p.tr,.bool p.se,.slice a1 p.allowed.length c1,.slice a2 p.acts.length c2,.slice a3 p.groups.length c3,.int .i64 p.life]) H12.out.f3 3 _ rfl
                have p4 := Sta.cell (b := w5.heap.size) (cs := [.string p.name,.int .i64 p.ver,.bool p.tr,.bool p.se,.slice a1 p.allowed.length c1,.slice a2 p.acts.length c2,.slice a3 p.groups.length c3,.int .i64 p.life]) H12.out.f3 4 _ rfl
                have p5 := Sta.cell (b := w5.heap.size) (cs := [.string p.name,.int .i64 p.ver,.bool p.tr,.bool p.se,.slice a1 p.allowed.length c1,.slice a2 p.acts.length c2,.slice a3 p.groups.length c3,.int .i64 p.life]) H12.out.f3 5 _ rfl
                have p6 := Sta.cell (b := w5.heap.size) (cs := [.string p.name,.int .i64 p.ver,.bool p.tr,.bool p.se,.slice a1 p.allowed.length c1,.slice a2 p.acts.length c2,.slice a3 p.groups.length c3,.int .i64 p.life]) H12.out.f3 6 _ rfl
                have p7 := Sta.cell (b := w5.heap.size) (cs := [.string p.name,.int .i64 p.ver,.bool p.tr,.bool p.se,.slice a1 p.allowed.length c1,.slice a2 p.acts.length c2,.slice a3 p.groups.length c3,.int .i64 p.life]) H12.out.f3 7 _ rfl
                have q0 := Sta.cell (b := w12.heap.size) (cs := [.string q.name,.int .i64 q.ver,.bool q.tr,.bool q.se,.slice a4 q.allowed.length c4,.slice a5 q.acts.length c5,.slice a6 q.groups.length c6,.int .i64 q.life]) H12.out 0 _ rfl
                have q1 := Sta.cell (b := w12.heap.size) (cs := [.string q.name,.int .i64 q.ver,.bool q.tr,.bool q.se,.slice a4 q.allowed.length c4,.slice a5 q.acts.length c5,.slice a6 q.groups.length c6,.int .i64 q.life]) H12.out 1 _ rfl
                have q2 := Sta.cell (b := w12.heap.size) (cs := [.string q.name,.int .i64 q.ver,.bool q.tr,.bool q.se,.slice a4 q.allowed.length c4,.slice a5 q.acts.length c5,.slice a6 q.groups.length c6,.int .i64 q.life]) H12.out 2 _ rfl
                have q3 := Sta.cell (b := w12.heap.size) (cs := [.string q.name,.int .i64 q.ver,.bool q.tr,.bool q.se,.slice a4 q.allowed.length c4,.slice a5 q.acts.length c5,.slice a6 q.groups.length c6,.int .i64 q.life]) H12.out 3 _ rfl
                have q4 := Sta.cell (b := w12.heap.size) (cs := [.string q.name,.int .i64 q.ver,.bool q.tr,.bool q.se,.slice a4 q.allowed.length c4,.slice a5 q.acts.length c5,.slice a6 q.groups.length c6,.int .i64 q.life]) H12.out 4 _ rfl
                have q5 := Sta.cell (b := w12.heap.size) (cs := [.string q.name,.int .i64 q.ver,.bool q.tr,.bool q.se,.slice a4 q.allowed.length c4,.slice a5 q.acts.length c5,.slice a6 q.groups.length c6,.int .i64 q.life]) H12.out 5 _ rfl
                have q6 := Sta.cell (b := w12.heap.size) (cs := [.string q.name,.int .i64 q.ver,.bool q.tr,.bool q.se,.slice a4 q.allowed.length c4,.slice a5 q.acts.length c5,.slice a6 q.groups.length c6,.int .i64 q.life]) H12.out 6 _ rfl
                have q7 := Sta.cell (b := w12.heap.size) (cs := [.string q.name,.int .i64 q.ver,.bool q.tr,.bool q.se,.slice a4 q.allowed.length c4,.slice a5 q.acts.length c5,.slice a6 q.groups.length c6,.int .i64 q.life]) H12.out 7 _ rfl
                go_wp2_with fail
                refine (sameprin_is H12.out.f1.f4 E1.out).mono ?_
                rintro e w13 ⟨rfl, h⟩
                have H13 := Lib.hid (H12.out.go h)
                clear h H12
                clear p0 p1 p2 p3 p4 p5 p6 p7
                clear q0 q1 q2 q3 q4 q5 q6 q7
                go_wp2_with fail
                go_ret
                exact ⟨rfl, H13.out.below⟩
              · have ev := EV.out
                subst h2
                have ev2 : v = false := ev
                subst ev2
                clear ev EU EV EG EJ HCE HCF
                have p0 := Sta.cell (b := w5.heap.size) (cs := [.string p.name,.int .i64 p.ver,.bool p.tr,.bool p.se,.slice a1 p.allowed.length c1,.slice a2 p.acts.length c2,.slice a3 p.groups.length c3,.int .i64 p.life]) H12.out.f3 0 _ rfl
                have p1 := Sta.cell (b := w5.heap.size) (cs := [.string p.name,.int .i64 p.ver,.bool p.tr,.bool p.se,.slice a1 p.allowed.length c1,.slice a2 p.acts.length c2,.slice a3 p.groups.length c3,.int .i64 p.life]) H12.out.f3 1 _ rfl
                have p2 := Sta.cell (b := w5.heap.size) (cs := [.string p.name,.int .i64 p.ver,.bool p.tr,.bool p.se,.slice a1 p.allowed.length c1,.slice a2 p.acts.length c2,.slice a3 p.groups.length c3,.int .i64 p.life]) H12.out.f3 2 _ rfl
                have p3 := Sta.cell (b := w5.heap.size) (cs := [.string p.name,.int .i64 p.ver,.bool p.tr,.bool p.se,.slice a1 p.allowed.length c1,.slice a2 p.acts.length c2,.slice a3 p.groups.length c3,.int .i64 p.life]) H12.out.f3 3 _ rfl
                have p4 := Sta.cell (b := w5.heap.size) (cs := [.string p.name,.int .i64 p.ver,.bool p.tr,.bool p.se,.slice a1 p.allowed.length c1,.slice a2 p.acts.length c2,.slice a3 p.groups.length c3,.int .i64 p.life]) H12.out.f3 4 _ rfl
                have p5 := Sta.cell (b := w5.heap.size) (cs := [.string p.name,.int .i64 p.ver,.bool p.tr,.bool p.se,.slice a1 p.allowed.length c1,.slice a2 p.acts.length c2,.slice a3 p.groups.length c3,.int .i64 p.life]) H12.out.f3 5 _ rfl
                have p6 := Sta.cell (b := w5.heap.size) (cs := [.string p.name,.int .i64 p.ver,.bool p.tr,.bool p.se,.slice a1 p.allowed.length c1,.slice a2 p.acts.length c2,.slice a3 p.groups.length c3,.int .i64 p.life]) H12.out.f3 6 _ rfl
                have p7 := Sta.cell (b := w5.heap.size) (cs := [.string p.name,.int .i64 p.ver,.bool p.tr,.bool p.se,.slice a1 p.allowed.length c1,.slice a2 p.acts.length c2,.slice a3 p.groups.length c3,.int .i64 p.life]) H12.out.f3 7 _ rfl
                have q0 := Sta.cell (b := w12.heap.size) (cs := [.string q.name,.int .i64 q.ver,.bool q.tr,.bool q.se,.slice a4 q.allowed.length c4,.slice a5 q.acts.length c5,.slice a6 q.groups.length c6,.int .i64 q.life]) H12.out 0 _ rfl
                have q1 := Sta.cell (b := w12.heap.size) (cs := [.string q.name,.int .i64 q.ver,.bool q.tr,.bool q.se,.slice a4 q.allowed.length c4,.slice a5 q.acts.length c5,.slice a6 q.groups.length c6,.int .i64 q.life]) H12.out 1 _ rfl
                have q2 := Sta.cell (b := w12.heap.size) (cs := [.string q.name,.int .i64 q.ver,.bool q.tr,.bool q.se,.slice a4 q.allowed.length c4,.slice a5 q.acts.length c5,.slice a6 q.groups.length c6,.int .i64 q.life]) H12.out 2 _ rfl
                have q3 := Sta.cell (b := w12.heap.size) (cs := [.string q.name,.int .i64 q.ver,.bool q.tr,.bool q.se,.slice a4 q.allowed.length c4,.slice a5 q.acts.length c5,.slice a6 q.groups.length c6,.int .i64 q.life]) H12.out 3 _ rfl
                have q4 := Sta.cell (b := w12.heap.size) (cs := [.string q.name,.int .i64 q.ver,.bool q.tr,.bool q.se,.slice a4 q.allowed.length c4,.slice a5 q.acts.length c5,.slice a6 q.groups.length c6,.int .i64 q.life]) H12.out 4 _ rfl
                have q5 := Sta.cell (b := w12.heap.size) (cs := [.string q.name,.int .i64 q.ver,.bool q.tr,.bool q.se,.slice a4 q.allowed.length c4,.slice a5 q.acts.length c5,.slice a6 q.groups.length c6,.int .i64 q.life]) H12.out 5 _ rfl
                have q6 := Sta.cell (b := w12.heap.size) (cs := [.string q.name,.int .i64 q.ver,.bool q.tr,.bool q.se,.slice a4 q.allowed.length c4,.slice a5 q.acts.length c5,.slice a6 q.groups.length c6,.int .i64 q.life]) H12.out 6 _ rfl
                have q7 := Sta.cell (b := w12.heap.size) (cs := [.string q.name,.int .i64 q.ver,.bool q.tr,.bool q.se,.slice a4 q.allowed.length c4,.slice a5 q.acts.length c5,.slice a6 q.groups.length c6,.int .i64 q.life]) H12.out 7 _ rfl
                go_wp2_with fail
                refine (sameprin_is H12.out.f1.f4 E1.out).mono ?_
                rintro e w13 ⟨rfl, h⟩
                have H13 := Lib.hid (H12.out.go h)
                clear h H12
                clear p0 p1 p2 p3 p4 p5 p6 p7
                clear q0 q1 q2 q3 q4 q5 q6 q7
                go_wp2_with fail
                go_ret
                exact ⟨rfl, H13.out.below⟩
end Go.Proofs.Ytmbclhjhmghapaa
