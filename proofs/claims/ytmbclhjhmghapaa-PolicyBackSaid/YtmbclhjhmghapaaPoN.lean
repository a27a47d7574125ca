/- PolicySets: the walk. -/
import Derived.Test.YtmbclhjhmghapaaPoM
namespace Go.Proofs.Ytmbclhjhmghapaa
open Go.RowKit Go.Maps Go.WideMaps
section
variable {R : List Asn} {I0 F0 : Nat → Prop} {w0 w : World} {sb : Nat} {S : List Prin}
theorem may_is (h : Sta (storeA sb S :: R) I0 F0 w0 w) (a b : ByteArray) (ha : InS a) (hb : InS b) {x y : Bool} (e : mayF S a b = (x, y)) :
    Calls Try.prog 30 #[PtrTo sb, .string a, .string b] w fun e w' => e = .returned (.tuple #[.bool x, .bool y]) ∧ Below w.heap.size w w' := by
  have := may_any h a b ha hb
  rw [e] at this
  exact this
theorem allow_is (h : Sta (storeA sb S :: R) I0 F0 w0 w) (a x : ByteArray) (on : Bool) (ha : InS a) (hx : InS x) {S' : List Prin} {c : Int} (e : hopF S a x (allowF x on) = (S', c)) :
    Calls Try.prog 31 #[PtrTo sb, .string a, .string x, .bool on] w fun e w' => e = .returned (.int .i64 c) ∧ Sta (storeA sb S' :: R) I0 F0 w0 w' := by
  have := allow_any h a x on ha hx
  rw [e] at this
  exact this
theorem acts_is (h : Sta (storeA sb S :: R) I0 F0 w0 w) (a x : ByteArray) (on : Bool) (ha : InS a) (hx : InS x) {S' : List Prin} {c : Int} (e : hopF S a x (actsF x on) = (S', c)) :
    Calls Try.prog 38 #[PtrTo sb, .string a, .string x, .bool on] w fun e w' => e = .returned (.int .i64 c) ∧ Sta (storeA sb S' :: R) I0 F0 w0 w' := by
  have := acts_any h a x on ha hx
  rw [e] at this
  exact this
theorem bool_same {a b : Bool} (h : a = b) : (a == b) = true := by rw [h]; exact beq_self_eq_true _
end



set_option maxHeartbeats 4000000 in
set_option maxRecDepth 100000 in
theorem psets_any (W : World) (va : Value) (l : List PAct) (a b : ByteArray) (on : Bool) (c d : ByteArray) (hl : RPActs (There W) W va l) (ha : InS a) (hb : InS b) (hc : InS c) (hd : InS d) :
    Calls Try.prog 6 #[va, .string a, .string b, .bool on, .string c, .string d] W fun e w' => e = .returned (.bool true) ∧ Below W.heap.size W w' := by
  obtain ⟨ap, cap, rfl, hmax⟩ := hl.form
  have HA := Lib.hid hl
  have HT := Lib.hid (There.old W)
  clear hl
  go_enter Try.func6, Try.ntmps6
  go_wp2_with fail
  refine (pworks_any W).mono ?_
  rintro e w1 ⟨rfl, hbw⟩
  have D1 := Lib.hid hbw
  clear hbw
  go_wp2_with fail
  refine (pover_any (There W) w1 _ l (HT.out.on D1.out) (HA.out.on HT.out D1.out)).mono ?_
  rintro e w2 ⟨bo, rfl, _, hbw⟩
  have D2 := Lib.hid (D1.out.trans (hbw.mono D1.out.size))
  clear hbw
  cases bo with
  | true =>
    go_wp2_with fail
    go_ret
    exact ⟨rfl, D2.out⟩
  | false =>
    go_wp2_with fail
    refine (newStore_any (acts_start HA.out D2.out)).mono ?_
    rintro e w3 ⟨sb, rfl, h3⟩
    have H3 := Lib.hid h3
    clear h3
    go_wp2_with fail
    go_loopw [15] (fun i wr => ∃ k : Nat, k ≤ l.length ∧ i = .int .i64 k ∧ Hid (Sta (storeA sb (doAll [] (l.take k)) :: actsA (.slice ap l.length cap) l :: []) (There W) FNone W wr)) (fun i _ => l.length - (intOf i).toNat)
    case atStart => exact ⟨0, Nat.zero_le _, rfl, H3.out⟩
    case round =>
      obtain ⟨k, hk1, rfl, hst⟩ := hrel
      by_cases h1 : k < l.length
      · obtain ⟨I, hI, hra⟩ := Sta.pers hst.out.f1
        obtain ⟨b, o, va, vb, vg, rfl, _, hact, _, _, _, hr⟩ := hra.at k h1
        have HS : Hid (Sta (actA (actCells l[k] va vb vg) l[k] :: storeA sb (doAll [] (l.take k)) :: actsA (.slice (some ⟨b, o, none⟩) l.length cap) l :: []) (There W) FNone W wr) := by
          have h5 := Sta.frompers (ψ := fun I w => RPAct I w (actCells l[k] va vb vg) l[k]) (hψ := fun h hw hI => h.frame hw hI) hst.out.f1 (by
            intro I' _ hra'
            obtain ⟨b', o', va', vb', vg', e, _, hact', _, _, _, hr'⟩ := hra'.at k h1
            injection e with e
            injection e with e1 e2
            subst e1; subst e2
            have e5 := (hr 5 _ rfl).symm.trans (hr' 5 _ rfl)
            have e6 := (hr 6 _ rfl).symm.trans (hr' 6 _ rfl)
            have e7 := (hr 7 _ rfl).symm.trans (hr' 7 _ rfl)
            injection e5 with e5
            injection e6 with e6
            injection e7 with e7
            subst e5; subst e6; subst e7
            exact hact')
          exact h5.f2.f1
        have r0 : wr.cell? ⟨b, o + k * 12, none⟩ = some (.int .i64 l[k].k) := hr 0 _ rfl
        have r1 : wr.cell? ⟨b, o + k * 12 + 1, none⟩ = some (.string l[k].p.name) := hr 1 _ rfl
        have r2 : wr.cell? ⟨b, o + k * 12 + 2, none⟩ = some (.int .i64 l[k].p.ver) := hr 2 _ rfl
        have r3 : wr.cell? ⟨b, o + k * 12 + 3, none⟩ = some (.bool l[k].p.tr) := hr 3 _ rfl
        have r4 : wr.cell? ⟨b, o + k * 12 + 4, none⟩ = some (.bool l[k].p.se) := hr 4 _ rfl
        have r5 : wr.cell? ⟨b, o + k * 12 + 5, none⟩ = some va := hr 5 _ rfl
        have r6 : wr.cell? ⟨b, o + k * 12 + 6, none⟩ = some vb := hr 6 _ rfl
        have r7 : wr.cell? ⟨b, o + k * 12 + 7, none⟩ = some vg := hr 7 _ rfl
        have r8 : wr.cell? ⟨b, o + k * 12 + 8, none⟩ = some (.int .i64 l[k].p.life) := hr 8 _ rfl
        have r9 : wr.cell? ⟨b, o + k * 12 + 9, none⟩ = some (.string l[k].a) := hr 9 _ rfl
        have r10 : wr.cell? ⟨b, o + k * 12 + 10, none⟩ = some (.string l[k].b) := hr 10 _ rfl
        have r11 : wr.cell? ⟨b, o + k * 12 + 11, none⟩ = some (.bool l[k].on) := hr 11 _ rfl
        clear hI hra hact hr
        go_wp2_with fail
        refine (done_any (cs := actCells l[k] va vb vg) HS.out).mono ?_
        rintro e w4 ⟨rfl, h4⟩
        have H4 := Lib.hid h4.drop
        clear h4 r0 r1 r2 r3 r4 r5 r6 r7 r8 r9 r10 r11
        go_wp2_with fail
        go_roundw
        case rel =>
          refine ⟨k + 1, by omega, by go_num, ?_⟩
          show Sta _ _ _ _ _
          rw [doAll_snoc [] h1]
          exact H4.out
        case measure => simp [intOf]; omega
      · have H := Lib.hid hst.out
        clear hst hk1
        generalize doAll [] (l.take k) = S at *
        have HO := Lib.hid H.out.okS
        obtain ⟨p, ep, gp⟩ : ∃ t k, getF S c = (t, k) := ⟨_, _, rfl⟩
        obtain ⟨u, v, hu⟩ : ∃ t k, mayF S c d = (t, k) := ⟨_, _, rfl⟩
        obtain ⟨x, y, hx⟩ : ∃ t k, mayF S a b = (t, k) := ⟨_, _, rfl⟩
        obtain ⟨S', er, hr⟩ : ∃ t k, hopF S a b (allowF b on) = (t, k) := ⟨_, _, rfl⟩
        obtain ⟨z, ww, hz⟩ : ∃ t k, mayF S' a b = (t, k) := ⟨_, _, rfl⟩
        obtain ⟨q, eq, gq⟩ : ∃ t k, getF S' c = (t, k) := ⟨_, _, rfl⟩
        obtain ⟨m, n, hm⟩ : ∃ t k, mayF S' c d = (t, k) := ⟨_, _, rfl⟩
        have SL : Hid ((er = 0 ∧ SetsOk S S' a b c d on) ∨ ((er = 40 ∨ er = 53) ∧ ∀ t, findP S' t = findP S t)) := by
          have := sets_law S HO.out a b c d on
          rw [hr] at this
          exact this
        have GP := Lib.hid gp
        have MU := Lib.hid hu
        have MX := Lib.hid hx
        have HR := Lib.hid hr
        have MZ := Lib.hid hz
        have GQ := Lib.hid gq
        have MM := Lib.hid hm
        clear gp hu hx hr hz gq hm HO
        go_wp2_with fail
        refine (pget_is H.out c hc GP.out).mono ?_
        rintro e w3' ⟨a1, c1, a2, c2, a3, c3, rfl, h⟩
        have H4 := Lib.hid (h.lay [.string p.name, .int .i64 p.ver, .bool p.tr, .bool p.se, .slice a1 p.allowed.length c1, .slice a2 p.acts.length c2, .slice a3 p.groups.length c3, .int .i64 p.life] 49)
        clear h H
        go_wp2_with fail
        refine (may_is H4.out.f2 c d hc hd MU.out).mono ?_
        rintro e w5 ⟨rfl, h⟩
        have H5 := Lib.hid (H4.out.go h)
        clear h H4
        go_wp2_with fail
        refine (may_is H5.out.f2 a b ha hb MX.out).mono ?_
        rintro e w6 ⟨rfl, h⟩
        have H6 := Lib.hid (H5.out.go h)
        clear h H5
        go_wp2_with fail
        refine (allow_is H6.out.f2 a b on ha hb HR.out).mono ?_
        rintro e w7 ⟨rfl, h⟩
        have H7 := Lib.hid h
        clear h H6 HR
        go_wp2_with fail
        refine (may_is H7.out a b ha hb MZ.out).mono ?_
        rintro e w8 ⟨rfl, h⟩
        have H8 := Lib.hid (H7.out.go h)
        clear h H7
        go_wp2_with fail
        refine (pget_is H8.out c hc GQ.out).mono ?_
        rintro e w8' ⟨a4, c4, a5, c5, a6, c6, rfl, h⟩
        have H9 := Lib.hid (h.lay [.string q.name, .int .i64 q.ver, .bool q.tr, .bool q.se, .slice a4 q.allowed.length c4, .slice a5 q.acts.length c5, .slice a6 q.groups.length c6, .int .i64 q.life] 49)
        clear h H8
        go_wp2_with fail
        refine (may_is H9.out.f2 c d hc hd MM.out).mono ?_
        rintro e w10 ⟨rfl, h⟩
        have H10 := Lib.hid (H9.out.go h)
        clear h H9
        rcases SL.out with ⟨hc0, so⟩ | ⟨hc0 | hc0, hv⟩
        · have E1 : Hid (({ p with allowed := [] } : Prin) = { q with allowed := [] }) := by
            have := so.q
            rw [GQ.out, GP.out] at this
            exact this.symm
          have z1 : (z == on) = true := bool_same (by have := so.z; rw [MZ.out] at this; exact this)
          have z2 : (ww == y) = true := bool_same (by have := so.w; rw [MZ.out, MX.out] at this; exact this)
          have z4 : (v == n) = true := bool_same (by have := so.n; rw [MM.out, MU.out] at this; exact this.symm)
          have hum : (c = a ∧ d = b) ∨ u = m := by have := so.m; rw [MM.out, MU.out] at this; exact this.imp_right Eq.symm
          clear so SL GP GQ MX MU MZ MM
          subst hc0
          have p0 := Sta.cell (b := w3'.heap.size) (cs := [.string p.name,.int .i64 p.ver,.bool p.tr,.bool p.se,.slice a1 p.allowed.length c1,.slice a2 p.acts.length c2,.slice a3 p.groups.length c3,.int .i64 p.life]) H10.out.f3 0 _ rfl
          have p1 := Sta.cell (b := w3'.heap.size) (cs := [.string p.name,.int .i64 p.ver,.bool p.tr,.bool p.se,.slice a1 p.allowed.length c1,.slice a2 p.acts.length c2,.slice a3 p.groups.length c3,.int .i64 p.life]) H10.out.f3 1 _ rfl
          have p2 := Sta.cell (b := w3'.heap.size) (cs := [.string p.name,.int .i64 p.ver,.bool p.tr,.bool p.se,.slice a1 p.allowed.length c1,.slice a2 p.acts.length c2,.slice a3 p.groups.length c3,.int .i64 p.life]) H10.out.f3 2 _ rfl
          have p3 := Sta.cell (b := w3'.heap.size) (cs := [.string p.name,.int .i64 p.ver,.bool p.tr,.bool p.se,.slice a1 p.allowed.length c1,.slice a2 p.acts.length c2,.slice a3 p.groups.length c3,.int .i64 p.life]) H10.out.f3 3 _ rfl
          have p4 := Sta.cell (b := w3'.heap.size) (cs := [.string p.name,.int .i64 p.ver,.bool p.tr,.bool p.se,.slice a1 p.allowed.length c1,.slice a2 p.acts.length c2,.slice a3 p.groups.length c3,.int .i64 p.life]) H10.out.f3 4 _ rfl
          have p5 := Sta.cell (b := w3'.heap.size) (cs := [.string p.name,.int .i64 p.ver,.bool p.tr,.bool p.se,.slice a1 p.allowed.length c1,.slice a2 p.acts.length c2,.slice a3 p.groups.length c3,.int .i64 p.life]) H10.out.f3 5 _ rfl
          have p6 := Sta.cell (b := w3'.heap.size) (cs := [.string p.name,.int .i64 p.ver,.bool p.tr,.bool p.se,.slice a1 p.allowed.length c1,.slice a2 p.acts.length c2,.slice a3 p.groups.length c3,.int .i64 p.life]) H10.out.f3 6 _ rfl
          have p7 := Sta.cell (b := w3'.heap.size) (cs := [.string p.name,.int .i64 p.ver,.bool p.tr,.bool p.se,.slice a1 p.allowed.length c1,.slice a2 p.acts.length c2,.slice a3 p.groups.length c3,.int .i64 p.life]) H10.out.f3 7 _ rfl
          have q0 := Sta.cell (b := w8'.heap.size) (cs := [.string q.name,.int .i64 q.ver,.bool q.tr,.bool q.se,.slice a4 q.allowed.length c4,.slice a5 q.acts.length c5,.slice a6 q.groups.length c6,.int .i64 q.life]) H10.out 0 _ rfl
          have q1 := Sta.cell (b := w8'.heap.size) (cs := [.string q.name,.int .i64 q.ver,.bool q.tr,.bool q.se,.slice a4 q.allowed.length c4,.slice a5 q.acts.length c5,.slice a6 q.groups.length c6,.int .i64 q.life]) H10.out 1 _ rfl
          have q2 := Sta.cell (b := w8'.heap.size) (cs := [.string q.name,.int .i64 q.ver,.bool q.tr,.bool q.se,.slice a4 q.allowed.length c4,.slice a5 q.acts.length c5,.slice a6 q.groups.length c6,.int .i64 q.life]) H10.out 2 _ rfl
          have q3 := Sta.cell (b := w8'.heap.size) (cs := [.string q.name,.int .i64 q.ver,.bool q.tr,.bool q.se,.slice a4 q.allowed.length c4,.slice a5 q.acts.length c5,.slice a6 q.groups.length c6,.int .i64 q.life]) H10.out 3 _ rfl
          have q4 := Sta.cell (b := w8'.heap.size) (cs := [.string q.name,.int .i64 q.ver,.bool q.tr,.bool q.se,.slice a4 q.allowed.length c4,.slice a5 q.acts.length c5,.slice a6 q.groups.length c6,.int .i64 q.life]) H10.out 4 _ rfl
          have q5 := Sta.cell (b := w8'.heap.size) (cs := [.string q.name,.int .i64 q.ver,.bool q.tr,.bool q.se,.slice a4 q.allowed.length c4,.slice a5 q.acts.length c5,.slice a6 q.groups.length c6,.int .i64 q.life]) H10.out 5 _ rfl
          have q6 := Sta.cell (b := w8'.heap.size) (cs := [.string q.name,.int .i64 q.ver,.bool q.tr,.bool q.se,.slice a4 q.allowed.length c4,.slice a5 q.acts.length c5,.slice a6 q.groups.length c6,.int .i64 q.life]) H10.out 6 _ rfl
          have q7 := Sta.cell (b := w8'.heap.size) (cs := [.string q.name,.int .i64 q.ver,.bool q.tr,.bool q.se,.slice a4 q.allowed.length c4,.slice a5 q.acts.length c5,.slice a6 q.groups.length c6,.int .i64 q.life]) H10.out 7 _ rfl
          have fp4 := Sta.frozen (b := w3'.heap.size) (cs := [.string p.name, .int .i64 p.ver, .bool p.tr, .bool p.se, .slice a1 p.allowed.length c1, .slice a2 p.acts.length c2, .slice a3 p.groups.length c3, .int .i64 p.life]) H10.out.f3 4
          have fq4 := Sta.frozen (b := w8'.heap.size) (cs := [.string q.name, .int .i64 q.ver, .bool q.tr, .bool q.se, .slice a4 q.allowed.length c4, .slice a5 q.acts.length c5, .slice a6 q.groups.length c6, .int .i64 q.life]) H10.out 4
          have n1 := Lib.hid (Sta.bne (b := w3'.heap.size) (b' := w8'.heap.size) H10.out.f3)
          have n2 : w3'.heap.size ≠ w8'.heap.size := n1.out
          have n3 : w8'.heap.size ≠ w3'.heap.size := Ne.symm n1.out
          clear n1
          have HP := Lib.hid (Sta.imp0 (P' := rprinA _ { q with allowed := [] }) (Sta.imp0 (P' := rprinA _ { p with allowed := [] }) (Sta.set (b := w8'.heap.size) (Sta.set (b := w3'.heap.size) H10.out.f3 4 (.slice none 0 0)).f1 4 (.slice none 0 0)).f4 (fun I F h => ⟨RPrin.noAllowed h.1, h.2⟩)).f3 fun I F h => ⟨RPrin.noAllowed h.1, h.2⟩).f1
          by_cases hca : c = a
          · by_cases hdb : d = b
            · have z5 : (c.toList == a.toList) = true := by rw [hca]; exact str_self a
              have z6 : (d.toList == b.toList) = true := by rw [hdb]; exact str_self b
              clear hca hdb hum
              go_wp2_with fail
              refine (sameprin_is HP.out E1.out).mono ?_
              rintro e w11 ⟨rfl, h⟩
              have H11 := Lib.hid (HP.out.go h)
              clear h HP H10
              clear p0 p1 p2 p3 p4 p5 p6 p7
              clear q0 q1 q2 q3 q4 q5 q6 q7
              clear fp4 fq4 n2 n3
              go_wp2_with fail
              go_ret
              exact ⟨rfl, H11.out.below⟩
            · have z5 : (c.toList == a.toList) = true := by rw [hca]; exact str_self a
              have z6 : (d.toList == b.toList) = false := str_ne hdb
              have z7 : (u == m) = true := bool_same (hum.resolve_left fun h => hdb h.2)
              clear hca hdb hum
              go_wp2_with fail
              refine (sameprin_is HP.out E1.out).mono ?_
              rintro e w11 ⟨rfl, h⟩
              have H11 := Lib.hid (HP.out.go h)
              clear h HP H10
              clear p0 p1 p2 p3 p4 p5 p6 p7
              clear q0 q1 q2 q3 q4 q5 q6 q7
              clear fp4 fq4 n2 n3
              go_wp2_with fail
              go_ret
              exact ⟨rfl, H11.out.below⟩
          · have z5 : (c.toList == a.toList) = false := str_ne hca
            have z7 : (u == m) = true := bool_same (hum.resolve_left fun h => hca h.1)
            clear hca hum
            go_wp2_with fail
            refine (sameprin_is HP.out E1.out).mono ?_
            rintro e w11 ⟨rfl, h⟩
            have H11 := Lib.hid (HP.out.go h)
            clear h HP H10
            clear p0 p1 p2 p3 p4 p5 p6 p7
            clear q0 q1 q2 q3 q4 q5 q6 q7
            clear fp4 fq4 n2 n3
            go_wp2_with fail
            go_ret
            exact ⟨rfl, H11.out.below⟩
        · skip
          have E1 : Hid (p = q) := by
            have := congrArg Prod.fst (getF_congr (hv c))
            rw [GQ.out, GP.out] at this
            exact this.symm
          have M1 := (may_view hv a b).symm
          have M2 := (may_view hv c d).symm
          rw [MZ.out, MX.out] at M1
          rw [MM.out, MU.out] at M2
          have z1 : (z == x) = true := bool_same (congrArg Prod.fst M1).symm
          have z2 : (ww == y) = true := bool_same (congrArg Prod.snd M1).symm
          have z3 : (u == m) = true := bool_same (congrArg Prod.fst M2)
          have z4 : (v == n) = true := bool_same (congrArg Prod.snd M2)
          clear M1 M2 hv SL GP GQ MX MU MZ MM
          subst hc0
          have p0 := Sta.cell (b := w3'.heap.size) (cs := [.string p.name,.int .i64 p.ver,.bool p.tr,.bool p.se,.slice a1 p.allowed.length c1,.slice a2 p.acts.length c2,.slice a3 p.groups.length c3,.int .i64 p.life]) H10.out.f3 0 _ rfl
          have p1 := Sta.cell (b := w3'.heap.size) (cs := [.string p.name,.int .i64 p.ver,.bool p.tr,.bool p.se,.slice a1 p.allowed.length c1,.slice a2 p.acts.length c2,.slice a3 p.groups.length c3,.int .i64 p.life]) H10.out.f3 1 _ rfl
          have p2 := Sta.cell (b := w3'.heap.size) (cs := [.string p.name,.int .i64 p.ver,.bool p.tr,.bool p.se,.slice a1 p.allowed.length c1,.slice a2 p.acts.length c2,.slice a3 p.groups.length c3,.int .i64 p.life]) H10.out.f3 2 _ rfl
          have p3 := Sta.cell (b := w3'.heap.size) (cs := [.string p.name,.int .i64 p.ver,.bool p.tr,.bool p.se,.slice a1 p.allowed.length c1,.slice a2 p.acts.length c2,.slice a3 p.groups.length c3,.int .i64 p.life]) H10.out.f3 3 _ rfl
          have p4 := Sta.cell (b := w3'.heap.size) (cs := [.string p.name,.int .i64 p.ver,.bool p.tr,.bool p.se,.slice a1 p.allowed.length c1,.slice a2 p.acts.length c2,.slice a3 p.groups.length c3,.int .i64 p.life]) H10.out.f3 4 _ rfl
          have p5 := Sta.cell (b := w3'.heap.size) (cs := [.string p.name,.int .i64 p.ver,.bool p.tr,.bool p.se,.slice a1 p.allowed.length c1,.slice a2 p.acts.length c2,.slice a3 p.groups.length c3,.int .i64 p.life]) H10.out.f3 5 _ rfl
          have p6 := Sta.cell (b := w3'.heap.size) (cs := [.string p.name,.int .i64 p.ver,.bool p.tr,.bool p.se,.slice a1 p.allowed.length c1,.slice a2 p.acts.length c2,.slice a3 p.groups.length c3,.int .i64 p.life]) H10.out.f3 6 _ rfl
          have p7 := Sta.cell (b := w3'.heap.size) (cs := [.string p.name,.int .i64 p.ver,.bool p.tr,.bool p.se,.slice a1 p.allowed.length c1,.slice a2 p.acts.length c2,.slice a3 p.groups.length c3,.int .i64 p.life]) H10.out.f3 7 _ rfl
          have q0 := Sta.cell (b := w8'.heap.size) (cs := [.string q.name,.int .i64 q.ver,.bool q.tr,.bool q.se,.slice a4 q.allowed.length c4,.slice a5 q.acts.length c5,.slice a6 q.groups.length c6,.int .i64 q.life]) H10.out 0 _ rfl
          have q1 := Sta.cell (b := w8'.heap.size) (cs := [.string q.name,.int .i64 q.ver,.bool q.tr,.bool q.se,.slice a4 q.allowed.length c4,.slice a5 q.acts.length c5,.slice a6 q.groups.length c6,.int .i64 q.life]) H10.out 1 _ rfl
          have q2 := Sta.cell (b := w8'.heap.size) (cs := [.string q.name,.int .i64 q.ver,.bool q.tr,.bool q.se,.slice a4 q.allowed.length c4,.slice a5 q.acts.length c5,.slice a6 q.groups.length c6,.int .i64 q.life]) H10.out 2 _ rfl
          have q3 := Sta.cell (b := w8'.heap.size) (cs := [.string q.name,.int .i64 q.ver,.bool q.tr,.bool q.se,.slice a4 q.allowed.length c4,.slice a5 q.acts.length c5,.slice a6 q.groups.length c6,.int .i64 q.life]) H10.out 3 _ rfl
          have q4 := Sta.cell (b := w8'.heap.size) (cs := [.string q.name,.int .i64 q.ver,.bool q.tr,.bool q.se,.slice a4 q.allowed.length c4,.slice a5 q.acts.length c5,.slice a6 q.groups.length c6,.int .i64 q.life]) H10.out 4 _ rfl
          have q5 := Sta.cell (b := w8'.heap.size) (cs := [.string q.name,.int .i64 q.ver,.bool q.tr,.bool q.se,.slice a4 q.allowed.length c4,.slice a5 q.acts.length c5,.slice a6 q.groups.length c6,.int .i64 q.life]) H10.out 5 _ rfl
          have q6 := Sta.cell (b := w8'.heap.size) (cs := [.string q.name,.int .i64 q.ver,.bool q.tr,.bool q.se,.slice a4 q.allowed.length c4,.slice a5 q.acts.length c5,.slice a6 q.groups.length c6,.int .i64 q.life]) H10.out 6 _ rfl
          have q7 := Sta.cell (b := w8'.heap.size) (cs := [.string q.name,.int .i64 q.ver,.bool q.tr,.bool q.se,.slice a4 q.allowed.length c4,.slice a5 q.acts.length c5,.slice a6 q.groups.length c6,.int .i64 q.life]) H10.out 7 _ rfl
          go_wp2_with fail
          refine (sameprin_is H10.out.f1.f4 E1.out).mono ?_
          rintro e w11 ⟨rfl, h⟩
          have H11 := Lib.hid (H10.out.go h)
          clear h H10
          clear p0 p1 p2 p3 p4 p5 p6 p7
          clear q0 q1 q2 q3 q4 q5 q6 q7
          go_wp2_with fail
          go_ret
          exact ⟨rfl, H11.out.below⟩
        · skip
          have E1 : Hid (p = q) := by
            have := congrArg Prod.fst (getF_congr (hv c))
            rw [GQ.out, GP.out] at this
            exact this.symm
          have M1 := (may_view hv a b).symm
          have M2 := (may_view hv c d).symm
          rw [MZ.out, MX.out] at M1
          rw [MM.out, MU.out] at M2
          have z1 : (z == x) = true := bool_same (congrArg Prod.fst M1).symm
          have z2 : (ww == y) = true := bool_same (congrArg Prod.snd M1).symm
          have z3 : (u == m) = true := bool_same (congrArg Prod.fst M2)
          have z4 : (v == n) = true := bool_same (congrArg Prod.snd M2)
          clear M1 M2 hv SL GP GQ MX MU MZ MM
          subst hc0
          have p0 := Sta.cell (b := w3'.heap.size) (cs := [.string p.name,.int .i64 p.ver,.bool p.tr,.bool p.se,.slice a1 p.allowed.length c1,.slice a2 p.acts.length c2,.slice a3 p.groups.length c3,.int .i64 p.life]) H10.out.f3 0 _ rfl
          have p1 := Sta.cell (b := w3'.heap.size) (cs := [.string p.name,.int .i64 p.ver,.bool p.tr,.bool p.se,.slice a1 p.allowed.length c1,.slice a2 p.acts.length c2,.slice a3 p.groups.length c3,.int .i64 p.life]) H10.out.f3 1 _ rfl
          have p2 := Sta.cell (b := w3'.heap.size) (cs := [.string p.name,.int .i64 p.ver,.bool p.tr,.bool p.se,.slice a1 p.allowed.length c1,.slice a2 p.acts.length c2,.slice a3 p.groups.length c3,.int .i64 p.life]) H10.out.f3 2 _ rfl
          have p3 := Sta.cell (b := w3'.heap.size) (cs := [.string p.name,.int .i64 p.ver,.bool p.tr,.bool p.se,.slice a1 p.allowed.length c1,.slice a2 p.acts.length c2,.slice a3 p.groups.length c3,.int .i64 p.life]) H10.out.f3 3 _ rfl
          have p4 := Sta.cell (b := w3'.heap.size) (cs := [.string p.name,.int .i64 p.ver,.bool p.tr,.bool p.se,.slice a1 p.allowed.length c1,.slice a2 p.acts.length c2,.slice a3 p.groups.length c3,.int .i64 p.life]) H10.out.f3 4 _ rfl
          have p5 := Sta.cell (b := w3'.heap.size) (cs := [.string p.name,.int .i64 p.ver,.bool p.tr,.bool p.se,.slice a1 p.allowed.length c1,.slice a2 p.acts.length c2,.slice a3 p.groups.length c3,.int .i64 p.life]) H10.out.f3 5 _ rfl
          have p6 := Sta.cell (b := w3'.heap.size) (cs := [.string p.name,.int .i64 p.ver,.bool p.tr,.bool p.se,.slice a1 p.allowed.length c1,.slice a2 p.acts.length c2,.slice a3 p.groups.length c3,.int .i64 p.life]) H10.out.f3 6 _ rfl
          have p7 := Sta.cell (b := w3'.heap.size) (cs := [.string p.name,.int .i64 p.ver,.bool p.tr,.bool p.se,.slice a1 p.allowed.length c1,.slice a2 p.acts.length c2,.slice a3 p.groups.length c3,.int .i64 p.life]) H10.out.f3 7 _ rfl
          have q0 := Sta.cell (b := w8'.heap.size) (cs := [.string q.name,.int .i64 q.ver,.bool q.tr,.bool q.se,.slice a4 q.allowed.length c4,.slice a5 q.acts.length c5,.slice a6 q.groups.length c6,.int .i64 q.life]) H10.out 0 _ rfl
          have q1 := Sta.cell (b := w8'.heap.size) (cs := [.string q.name,.int .i64 q.ver,.bool q.tr,.bool q.se,.slice a4 q.allowed.length c4,.slice a5 q.acts.length c5,.slice a6 q.groups.length c6,.int .i64 q.life]) H10.out 1 _ rfl
          have q2 := Sta.cell (b := w8'.heap.size) (cs := [.string q.name,.int .i64 q.ver,.bool q.tr,.bool q.se,.slice a4 q.allowed.length c4,.slice a5 q.acts.length c5,.slice a6 q.groups.length c6,.int .i64 q.life]) H10.out 2 _ rfl
          have q3 := Sta.cell (b := w8'.heap.size) (cs := [.string q.name,.int .i64 q.ver,.bool q.tr,.bool q.se,.slice a4 q.allowed.length c4,.slice a5 q.acts.length c5,.slice a6 q.groups.length c6,.int .i64 q.life]) H10.out 3 _ rfl
          have q4 := Sta.cell (b := w8'.heap.size) (cs := [.string q.name,.int .i64 q.ver,.bool q.tr,.bool q.se,.slice a4 q.allowed.length c4,.slice a5 q.acts.length c5,.slice a6 q.groups.length c6,.int .i64 q.life]) H10.out 4 _ rfl
          have q5 := Sta.cell (b := w8'.heap.size) (cs := [.string q.name,.int .i64 q.ver,.bool q.tr,.bool q.se,.slice a4 q.allowed.length c4,.slice a5 q.acts.length c5,.slice a6 q.groups.length c6,.int .i64 q.life]) H10.out 5 _ rfl
          have q6 := Sta.cell (b := w8'.heap.size) (cs := [.string q.name,.int .i64 q.ver,.bool q.tr,.bool q.se,.slice a4 q.allowed.length c4,.slice a5 q.acts.length c5,.slice a6 q.groups.length c6,.int .i64 q.life]) H10.out 6 _ rfl
          have q7 := Sta.cell (b := w8'.heap.size) (cs := [.string q.name,.int .i64 q.ver,.bool q.tr,.bool q.se,.slice a4 q.allowed.length c4,.slice a5 q.acts.length c5,.slice a6 q.groups.length c6,.int .i64 q.life]) H10.out 7 _ rfl
          go_wp2_with fail
          refine (sameprin_is H10.out.f1.f4 E1.out).mono ?_
          rintro e w11 ⟨rfl, h⟩
          have H11 := Lib.hid (H10.out.go h)
          clear h H10
          clear p0 p1 p2 p3 p4 p5 p6 p7
          clear q0 q1 q2 q3 q4 q5 q6 q7
          go_wp2_with fail
          go_ret
          exact ⟨rfl, H11.out.below⟩
end Go.Proofs.Ytmbclhjhmghapaa
