/- PolicyKeys: the walk. -/
import Derived.Test.YtmbclhjhmghapaaPoF
namespace Go.Proofs.Ytmbclhjhmghapaa
open Go.RowKit Go.Maps Go.WideMaps


set_option maxHeartbeats 4000000 in
set_option maxRecDepth 100000 in
theorem pkeys_any (W : World) (va : Value) (l : List PAct) (a b : ByteArray) (hl : RPActs (There W) W va l) (ha : InS a) (hb : InS b) :
    Calls Try.prog 7 #[va, .string a, .string b] W fun e w' => e = .returned (.bool true) ∧ Below W.heap.size W w' := by
  obtain ⟨ap, cap, rfl, hmax⟩ := hl.form
  have HA := Lib.hid hl
  have HT := Lib.hid (There.old W)
  clear hl
  go_enter Try.func7, Try.ntmps7
  go_wp2_with fail
  refine (pworks_any W).mono ?_
  rintro e w1 ⟨rfl, hbw⟩
  have D1 := Lib.hid hbw
  clear hbw
  go_wp2_with fail
  refine (pover_any (There W) w1 _ l (HT.out.on D1.out) (HA.out.on HT.out D1.out)).mono ?_
  rintro e w2 ⟨bo, rfl, _, hbw⟩
  have D2 := Lib.hid (D1.out.trans (hbw.mono D1.out.size))
  clear hbw
  cases bo with
  | true =>
    go_wp2_with fail
    go_ret
    exact ⟨rfl, D2.out⟩
  | false =>
    go_wp2_with fail
    refine (newStore_any (acts_start HA.out D2.out)).mono ?_
    rintro e w3 ⟨sb, rfl, h3⟩
    have H3 := Lib.hid h3
    clear h3
    go_wp2_with fail
    go_loopw [9] (fun i wr => ∃ k : Nat, k ≤ l.length ∧ i = .int .i64 k ∧ Hid (Sta (storeA sb (doAll [] (l.take k)) :: actsA (.slice ap l.length cap) l :: []) (There W) FNone W wr)) (fun i _ => l.length - (intOf i).toNat)
    case atStart => exact ⟨0, Nat.zero_le _, rfl, H3.out⟩
    case round =>
      obtain ⟨k, hk1, rfl, hst⟩ := hrel
      by_cases h1 : k < l.length
      · obtain ⟨I, hI, hra⟩ := Sta.pers hst.out.f1
        obtain ⟨b, o, va, vb, vg, rfl, _, hact, _, _, _, hr⟩ := hra.at k h1
        have HS : Hid (Sta (actA (actCells l[k] va vb vg) l[k] :: storeA sb (doAll [] (l.take k)) :: actsA (.slice (some ⟨b, o, none⟩) l.length cap) l :: []) (There W) FNone W wr) := by
          have h5 := Sta.frompers (ψ := fun I w => RPAct I w (actCells l[k] va vb vg) l[k]) (hψ := fun h hw hI => h.frame hw hI) hst.out.f1 (by
            intro I' _ hra'
            obtain ⟨b', o', va', vb', vg', e, _, hact', _, _, _, hr'⟩ := hra'.at k h1
            injection e with e
            injection e with e1 e2
            subst e1; subst e2
            have e5 := (hr 5 _ rfl).symm.trans (hr' 5 _ rfl)
            have e6 := (hr 6 _ rfl).symm.trans (hr' 6 _ rfl)
            have e7 := (hr 7 _ rfl).symm.trans (hr' 7 _ rfl)
            injection e5 with e5
            injection e6 with e6
            injection e7 with e7
            subst e5; subst e6; subst e7
            exact hact')
          exact h5.f2.f1
        have r0 : wr.cell? ⟨b, o + k * 12, none⟩ = some (.int .i64 l[k].k) := hr 0 _ rfl
        have r1 : wr.cell? ⟨b, o + k * 12 + 1, none⟩ = some (.string l[k].p.name) := hr 1 _ rfl
        have r2 : wr.cell? ⟨b, o + k * 12 + 2, none⟩ = some (.int .i64 l[k].p.ver) := hr 2 _ rfl
        have r3 : wr.cell? ⟨b, o + k * 12 + 3, none⟩ = some (.bool l[k].p.tr) := hr 3 _ rfl
        have r4 : wr.cell? ⟨b, o + k * 12 + 4, none⟩ = some (.bool l[k].p.se) := hr 4 _ rfl
        have r5 : wr.cell? ⟨b, o + k * 12 + 5, none⟩ = some va := hr 5 _ rfl
        have r6 : wr.cell? ⟨b, o + k * 12 + 6, none⟩ = some vb := hr 6 _ rfl
        have r7 : wr.cell? ⟨b, o + k * 12 + 7, none⟩ = some vg := hr 7 _ rfl
        have r8 : wr.cell? ⟨b, o + k * 12 + 8, none⟩ = some (.int .i64 l[k].p.life) := hr 8 _ rfl
        have r9 : wr.cell? ⟨b, o + k * 12 + 9, none⟩ = some (.string l[k].a) := hr 9 _ rfl
        have r10 : wr.cell? ⟨b, o + k * 12 + 10, none⟩ = some (.string l[k].b) := hr 10 _ rfl
        have r11 : wr.cell? ⟨b, o + k * 12 + 11, none⟩ = some (.bool l[k].on) := hr 11 _ rfl
        clear hI hra hact hr
        go_wp2_with fail
        refine (done_any (cs := actCells l[k] va vb vg) HS.out).mono ?_
        rintro e w4 ⟨rfl, h4⟩
        have H4 := Lib.hid h4.drop
        clear h4 r0 r1 r2 r3 r4 r5 r6 r7 r8 r9 r10 r11
        go_wp2_with fail
        go_roundw
        case rel =>
          refine ⟨k + 1, by omega, by go_num, ?_⟩
          show Sta _ _ _ _ _
          rw [doAll_snoc [] h1]
          exact H4.out
        case measure => simp [intOf]; omega
      · have H := Lib.hid hst.out
        clear hst hk1
        generalize doAll [] (l.take k) = S at *
        have HO := Lib.hid H.out.okS
        obtain ⟨ta, ca, ea⟩ : ∃ t c, keyF S a = (t, c) := ⟨_, _, rfl⟩
        obtain ⟨tb, cb, eb⟩ : ∃ t c, keyF S b = (t, c) := ⟨_, _, rfl⟩
        have FA : Hid (Flat ta) := by have := keyF_flat ha HO.out; rw [ea] at this; exact this
        have FB : Hid (Flat tb) := by have := keyF_flat hb HO.out; rw [eb] at this; exact this
        have KL := Lib.hid (keys_law S a b)
        have EA := Lib.hid ea
        have EB := Lib.hid eb
        clear ea eb
        go_wp2_with fail
        refine (pkey_is H.out a ha EA.out).mono ?_
        rintro e w4 ⟨rfl, h⟩
        have H4 := Lib.hid ((H.out.go h).lay [.int .i64 ta.k, .string ta.s, .int .i64 ta.n, .slice none 0 0] 26)
        clear h H
        go_wp2_with fail
        refine (pkey_is H4.out.f1 b hb EB.out).mono ?_
        rintro e w5 ⟨rfl, h⟩
        have H5 := Lib.hid ((H4.out.go h).lay [.int .i64 tb.k, .string tb.s, .int .i64 tb.n, .slice none 0 0] 26)
        clear h H4
        go_wp2_with fail
        refine (rekey_any H5.out.f2 a ha).mono ?_
        rintro e w6 ⟨rfl, h6⟩
        have H6 := Lib.hid h6
        clear h6 H5
        generalize hS' : (withF S a rekeyF).1 = S' at *
        generalize hg : (withF S a rekeyF).2 = g at *
        clear hS' hg
        obtain ⟨ta', ca', ea'⟩ : ∃ t c, keyF S' a = (t, c) := ⟨_, _, rfl⟩
        obtain ⟨tb', cb', eb'⟩ : ∃ t c, keyF S' b = (t, c) := ⟨_, _, rfl⟩
        have HO' := Lib.hid H6.out.okS
        have FA' : Hid (Flat ta') := by have := keyF_flat ha HO'.out; rw [ea'] at this; exact this
        have FB' : Hid (Flat tb') := by have := keyF_flat hb HO'.out; rw [eb'] at this; exact this
        have EA' := Lib.hid ea'
        have EB' := Lib.hid eb'
        clear ea' eb'
        go_wp2_with fail
        refine (pkey_is H6.out a ha EA'.out).mono ?_
        rintro e w7 ⟨rfl, h⟩
        have H7 := Lib.hid ((H6.out.go h).lay [.int .i64 ta'.k, .string ta'.s, .int .i64 ta'.n, .slice none 0 0] 26)
        clear h H6
        go_wp2_with fail
        refine (pkey_is H7.out.f1 b hb EB'.out).mono ?_
        rintro e w8 ⟨rfl, h⟩
        have H8 := Lib.hid ((H7.out.go h).lay [.int .i64 tb'.k, .string tb'.s, .int .i64 tb'.n, .slice none 0 0] 26)
        clear h H7
        rcases KL.out with ⟨h1, h2, hs⟩ | ⟨h1, h2, hs⟩ | ⟨h1, h2, n, hn, hs⟩
        · clear KL
          have hca : ca = 40 := by have := h1; rw [EA.out] at this; exact this
          have hg : g = 40 := h2
          have e1 : ta = ta' := by have := hs.ka; rw [EA.out, EA'.out] at this; injection this with this; exact this.symm
          have e2 : tb = tb' := by have := hs.kb; rw [EB.out, EB'.out] at this; injection this with this; exact this.symm
          have HE1 := Lib.hid e1
          have HE2 := Lib.hid e2
          clear e1 e2 h1 h2 hs
          subst hca
          subst hg
          have pk0 := Sta.cell (b := w4.heap.size) (cs := [.int .i64 ta.k, .string ta.s, .int .i64 ta.n, .slice none 0 0]) H8.out.f4 0 _ rfl
          have pk1 := Sta.cell (b := w4.heap.size) (cs := [.int .i64 ta.k, .string ta.s, .int .i64 ta.n, .slice none 0 0]) H8.out.f4 1 _ rfl
          have pk2 := Sta.cell (b := w4.heap.size) (cs := [.int .i64 ta.k, .string ta.s, .int .i64 ta.n, .slice none 0 0]) H8.out.f4 2 _ rfl
          have pk3 := Sta.cell (b := w4.heap.size) (cs := [.int .i64 ta.k, .string ta.s, .int .i64 ta.n, .slice none 0 0]) H8.out.f4 3 _ rfl
          have pm0 := Sta.cell (b := w5.heap.size) (cs := [.int .i64 tb.k, .string tb.s, .int .i64 tb.n, .slice none 0 0]) H8.out.f3 0 _ rfl
          have pm1 := Sta.cell (b := w5.heap.size) (cs := [.int .i64 tb.k, .string tb.s, .int .i64 tb.n, .slice none 0 0]) H8.out.f3 1 _ rfl
          have pm2 := Sta.cell (b := w5.heap.size) (cs := [.int .i64 tb.k, .string tb.s, .int .i64 tb.n, .slice none 0 0]) H8.out.f3 2 _ rfl
          have pm3 := Sta.cell (b := w5.heap.size) (cs := [.int .i64 tb.k, .string tb.s, .int .i64 tb.n, .slice none 0 0]) H8.out.f3 3 _ rfl
          have pn0 := Sta.cell (b := w7.heap.size) (cs := [.int .i64 ta'.k, .string ta'.s, .int .i64 ta'.n, .slice none 0 0]) H8.out.f1 0 _ rfl
          have pn1 := Sta.cell (b := w7.heap.size) (cs := [.int .i64 ta'.k, .string ta'.s, .int .i64 ta'.n, .slice none 0 0]) H8.out.f1 1 _ rfl
          have pn2 := Sta.cell (b := w7.heap.size) (cs := [.int .i64 ta'.k, .string ta'.s, .int .i64 ta'.n, .slice none 0 0]) H8.out.f1 2 _ rfl
          have pn3 := Sta.cell (b := w7.heap.size) (cs := [.int .i64 ta'.k, .string ta'.s, .int .i64 ta'.n, .slice none 0 0]) H8.out.f1 3 _ rfl
          have po0 := Sta.cell (b := w8.heap.size) (cs := [.int .i64 tb'.k, .string tb'.s, .int .i64 tb'.n, .slice none 0 0]) H8.out 0 _ rfl
          have po1 := Sta.cell (b := w8.heap.size) (cs := [.int .i64 tb'.k, .string tb'.s, .int .i64 tb'.n, .slice none 0 0]) H8.out 1 _ rfl
          have po2 := Sta.cell (b := w8.heap.size) (cs := [.int .i64 tb'.k, .string tb'.s, .int .i64 tb'.n, .slice none 0 0]) H8.out 2 _ rfl
          have po3 := Sta.cell (b := w8.heap.size) (cs := [.int .i64 tb'.k, .string tb'.s, .int .i64 tb'.n, .slice none 0 0]) H8.out 3 _ rfl
          go_wp2_with fail
          refine (rsame_flat _ HE1.out FA.out).mono ?_
          rintro e w9 ⟨rfl, h⟩
          have H9 := Lib.hid (H8.out.go h)
          clear h H8
          clear pk0 pk1 pk2 pk3 pm0 pm1 pm2 pm3 pn0 pn1 pn2 pn3 po0 po1 po2 po3
          have pk0 := Sta.cell (b := w4.heap.size) (cs := [.int .i64 ta.k, .string ta.s, .int .i64 ta.n, .slice none 0 0]) H9.out.f4 0 _ rfl
          have pk1 := Sta.cell (b := w4.heap.size) (cs := [.int .i64 ta.k, .string ta.s, .int .i64 ta.n, .slice none 0 0]) H9.out.f4 1 _ rfl
          have pk2 := Sta.cell (b := w4.heap.size) (cs := [.int .i64 ta.k, .string ta.s, .int .i64 ta.n, .slice none 0 0]) H9.out.f4 2 _ rfl
          have pk3 := Sta.cell (b := w4.heap.size) (cs := [.int .i64 ta.k, .string ta.s, .int .i64 ta.n, .slice none 0 0]) H9.out.f4 3 _ rfl
          have pm0 := Sta.cell (b := w5.heap.size) (cs := [.int .i64 tb.k, .string tb.s, .int .i64 tb.n, .slice none 0 0]) H9.out.f3 0 _ rfl
          have pm1 := Sta.cell (b := w5.heap.size) (cs := [.int .i64 tb.k, .string tb.s, .int .i64 tb.n, .slice none 0 0]) H9.out.f3 1 _ rfl
          have pm2 := Sta.cell (b := w5.heap.size) (cs := [.int .i64 tb.k, .string tb.s, .int .i64 tb.n, .slice none 0 0]) H9.out.f3 2 _ rfl
          have pm3 := Sta.cell (b := w5.heap.size) (cs := [.int .i64 tb.k, .string tb.s, .int .i64 tb.n, .slice none 0 0]) H9.out.f3 3 _ rfl
          have pn0 := Sta.cell (b := w7.heap.size) (cs := [.int .i64 ta'.k, .string ta'.s, .int .i64 ta'.n, .slice none 0 0]) H9.out.f1 0 _ rfl
          have pn1 := Sta.cell (b := w7.heap.size) (cs := [.int .i64 ta'.k, .string ta'.s, .int .i64 ta'.n, .slice none 0 0]) H9.out.f1 1 _ rfl
          have pn2 := Sta.cell (b := w7.heap.size) (cs := [.int .i64 ta'.k, .string ta'.s, .int .i64 ta'.n, .slice none 0 0]) H9.out.f1 2 _ rfl
          have pn3 := Sta.cell (b := w7.heap.size) (cs := [.int .i64 ta'.k, .string ta'.s, .int .i64 ta'.n, .slice none 0 0]) H9.out.f1 3 _ rfl
          have po0 := Sta.cell (b := w8.heap.size) (cs := [.int .i64 tb'.k, .string tb'.s, .int .i64 tb'.n, .slice none 0 0]) H9.out 0 _ rfl
          have po1 := Sta.cell (b := w8.heap.size) (cs := [.int .i64 tb'.k, .string tb'.s, .int .i64 tb'.n, .slice none 0 0]) H9.out 1 _ rfl
          have po2 := Sta.cell (b := w8.heap.size) (cs := [.int .i64 tb'.k, .string tb'.s, .int .i64 tb'.n, .slice none 0 0]) H9.out 2 _ rfl
          have po3 := Sta.cell (b := w8.heap.size) (cs := [.int .i64 tb'.k, .string tb'.s, .int .i64 tb'.n, .slice none 0 0]) H9.out 3 _ rfl
          go_wp2_with fail
          refine (rsame_flat _ HE2.out FB.out).mono ?_
          rintro e w10 ⟨rfl, h⟩
          have H10 := Lib.hid (H9.out.go h)
          clear h H9
          clear pk0 pk1 pk2 pk3 pm0 pm1 pm2 pm3 pn0 pn1 pn2 pn3 po0 po1 po2 po3
          go_wp2_with fail
          go_ret
          exact ⟨rfl, H10.out.below⟩
        · clear KL
          have hca : ca = 0 := by have := h1; rw [EA.out] at this; exact this
          have hg : g = 53 := h2
          have e1 : ta = ta' := by have := hs.ka; rw [EA.out, EA'.out] at this; injection this with this; exact this.symm
          have e2 : tb = tb' := by have := hs.kb; rw [EB.out, EB'.out] at this; injection this with this; exact this.symm
          have HE1 := Lib.hid e1
          have HE2 := Lib.hid e2
          clear e1 e2 h1 h2 hs
          subst hca
          subst hg
          have pk0 := Sta.cell (b := w4.heap.size) (cs := [.int .i64 ta.k, .string ta.s, .int .i64 ta.n, .slice none 0 0]) H8.out.f4 0 _ rfl
          have pk1 := Sta.cell (b := w4.heap.size) (cs := [.int .i64 ta.k, .string ta.s, .int .i64 ta.n, .slice none 0 0]) H8.out.f4 1 _ rfl
          have pk2 := Sta.cell (b := w4.heap.size) (cs := [.int .i64 ta.k, .string ta.s, .int .i64 ta.n, .slice none 0 0]) H8.out.f4 2 _ rfl
          have pk3 := Sta.cell (b := w4.heap.size) (cs := [.int .i64 ta.k, .string ta.s, .int .i64 ta.n, .slice none 0 0]) H8.out.f4 3 _ rfl
          have pm0 := Sta.cell (b := w5.heap.size) (cs := [.int .i64 tb.k, .string tb.s, .int .i64 tb.n, .slice none 0 0]) H8.out.f3 0 _ rfl
          have pm1 := Sta.cell (b := w5.heap.size) (cs := [.int .i64 tb.k, .string tb.s, .int .i64 tb.n, .slice none 0 0]) H8.out.f3 1 _ rfl
          have pm2 := Sta.cell (b := w5.heap.size) (cs := [.int .i64 tb.k, .string tb.s, .int .i64 tb.n, .slice none 0 0]) H8.out.f3 2 _ rfl
          have pm3 := Sta.cell (b := w5.heap.size) (cs := [.int .i64 tb.k, .string tb.s, .int .i64 tb.n, .slice none 0 0]) H8.out.f3 3 _ rfl
          have pn0 := Sta.cell (b := w7.heap.size) (cs := [.int .i64 ta'.k, .string ta'.s, .int .i64 ta'.n, .slice none 0 0]) H8.out.f1 0 _ rfl
          have pn1 := Sta.cell (b := w7.heap.size) (cs := [.int .i64 ta'.k, .string ta'.s, .int .i64 ta'.n, .slice none 0 0]) H8.out.f1 1 _ rfl
          have pn2 := Sta.cell (b := w7.heap.size) (cs := [.int .i64 ta'.k, .string ta'.s, .int .i64 ta'.n, .slice none 0 0]) H8.out.f1 2 _ rfl
          have pn3 := Sta.cell (b := w7.heap.size) (cs := [.int .i64 ta'.k, .string ta'.s, .int .i64 ta'.n, .slice none 0 0]) H8.out.f1 3 _ rfl
          have po0 := Sta.cell (b := w8.heap.size) (cs := [.int .i64 tb'.k, .string tb'.s, .int .i64 tb'.n, .slice none 0 0]) H8.out 0 _ rfl
          have po1 := Sta.cell (b := w8.heap.size) (cs := [.int .i64 tb'.k, .string tb'.s, .int .i64 tb'.n, .slice none 0 0]) H8.out 1 _ rfl
          have po2 := Sta.cell (b := w8.heap.size) (cs := [.int .i64 tb'.k, .string tb'.s, .int .i64 tb'.n, .slice none 0 0]) H8.out 2 _ rfl
          have po3 := Sta.cell (b := w8.heap.size) (cs := [.int .i64 tb'.k, .string tb'.s, .int .i64 tb'.n, .slice none 0 0]) H8.out 3 _ rfl
          go_wp2_with fail
          refine (rsame_flat _ HE1.out FA.out).mono ?_
          rintro e w9 ⟨rfl, h⟩
          have H9 := Lib.hid (H8.out.go h)
          clear h H8
          clear pk0 pk1 pk2 pk3 pm0 pm1 pm2 pm3 pn0 pn1 pn2 pn3 po0 po1 po2 po3
          have pk0 := Sta.cell (b := w4.heap.size) (cs := [.int .i64 ta.k, .string ta.s, .int .i64 ta.n, .slice none 0 0]) H9.out.f4 0 _ rfl
          have pk1 := Sta.cell (b := w4.heap.size) (cs := [.int .i64 ta.k, .string ta.s, .int .i64 ta.n, .slice none 0 0]) H9.out.f4 1 _ rfl
          have pk2 := Sta.cell (b := w4.heap.size) (cs := [.int .i64 ta.k, .string ta.s, .int .i64 ta.n, .slice none 0 0]) H9.out.f4 2 _ rfl
          have pk3 := Sta.cell (b := w4.heap.size) (cs := [.int .i64 ta.k, .string ta.s, .int .i64 ta.n, .slice none 0 0]) H9.out.f4 3 _ rfl
          have pm0 := Sta.cell (b := w5.heap.size) (cs := [.int .i64 tb.k, .string tb.s, .int .i64 tb.n, .slice none 0 0]) H9.out.f3 0 _ rfl
          have pm1 := Sta.cell (b := w5.heap.size) (cs := [.int .i64 tb.k, .string tb.s, .int .i64 tb.n, .slice none 0 0]) H9.out.f3 1 _ rfl
          have pm2 := Sta.cell (b := w5.heap.size) (cs := [.int .i64 tb.k, .string tb.s, .int .i64 tb.n, .slice none 0 0]) H9.out.f3 2 _ rfl
          have pm3 := Sta.cell (b := w5.heap.size) (cs := [.int .i64 tb.k, .string tb.s, .int .i64 tb.n, .slice none 0 0]) H9.out.f3 3 _ rfl
          have pn0 := Sta.cell (b := w7.heap.size) (cs := [.int .i64 ta'.k, .string ta'.s, .int .i64 ta'.n, .slice none 0 0]) H9.out.f1 0 _ rfl
          have pn1 := Sta.cell (b := w7.heap.size) (cs := [.int .i64 ta'.k, .string ta'.s, .int .i64 ta'.n, .slice none 0 0]) H9.out.f1 1 _ rfl
          have pn2 := Sta.cell (b := w7.heap.size) (cs := [.int .i64 ta'.k, .string ta'.s, .int .i64 ta'.n, .slice none 0 0]) H9.out.f1 2 _ rfl
          have pn3 := Sta.cell (b := w7.heap.size) (cs := [.int .i64 ta'.k, .string ta'.s, .int .i64 ta'.n, .slice none 0 0]) H9.out.f1 3 _ rfl
          have po0 := Sta.cell (b := w8.heap.size) (cs := [.int .i64 tb'.k, .string tb'.s, .int .i64 tb'.n, .slice none 0 0]) H9.out 0 _ rfl
          have po1 := Sta.cell (b := w8.heap.size) (cs := [.int .i64 tb'.k, .string tb'.s, .int .i64 tb'.n, .slice none 0 0]) H9.out 1 _ rfl
          have po2 := Sta.cell (b := w8.heap.size) (cs := [.int .i64 tb'.k, .string tb'.s, .int .i64 tb'.n, .slice none 0 0]) H9.out 2 _ rfl
          have po3 := Sta.cell (b := w8.heap.size) (cs := [.int .i64 tb'.k, .string tb'.s, .int .i64 tb'.n, .slice none 0 0]) H9.out 3 _ rfl
          go_wp2_with fail
          refine (rsame_flat _ HE2.out FB.out).mono ?_
          rintro e w10 ⟨rfl, h⟩
          have H10 := Lib.hid (H9.out.go h)
          clear h H9
          clear pk0 pk1 pk2 pk3 pm0 pm1 pm2 pm3 pn0 pn1 pn2 pn3 po0 po1 po2 po3
          go_wp2_with fail
          go_ret
          exact ⟨rfl, H10.out.below⟩
        · clear KL
          have hca : ca = 0 := by have := h1; rw [EA.out] at this; exact this
          have hg : g = 0 := h2
          have q1 : ta = keyT a n := by have := hs.ka; rw [EA.out] at this; exact this
          have q2 : ta' = keyT a (n + 1) := by have := hs.ka'; rw [EA'.out] at this; exact this
          have q3 : cb' = cb := by have := hs.code; rw [EB'.out, EB.out] at this; exact this
          have HQ : Hid (a ≠ b → tb = tb') := fun h => by have := hs.kb h; rw [EB'.out, EB.out] at this; exact this.symm
          have i1 : InI ta.n := FA.out.n
          have i2 : ta.n < 1000 := by rw [q1]; exact hn
          have kw : IntKind.i64.wrap (ta.n + 1) = ta.n + 1 := IntWalk.i64_in _ (by have := i1.1; omega)
          have z1 : (ta'.s.toList == a.toList) = true := by rw [q2]; exact str_self a
          have z2 : (ta'.n == ta.n + 1) = true := by rw [q1, q2]; exact beq_self_eq_true _
          have z3 : (cb == cb') = true := by rw [q3]; exact beq_self_eq_true _
          clear h1 h2 hs hn q1 q2 q3 i1 i2
          subst hca
          subst hg
          by_cases hab : a = b
          · have z4 : (a.toList == b.toList) = true := by rw [hab]; exact str_self b
            clear hab
            have pk0 := Sta.cell (b := w4.heap.size) (cs := [.int .i64 ta.k, .string ta.s, .int .i64 ta.n, .slice none 0 0]) H8.out.f4 0 _ rfl
            have pk1 := Sta.cell (b := w4.heap.size) (cs := [.int .i64 ta.k, .string ta.s, .int .i64 ta.n, .slice none 0 0]) H8.out.f4 1 _ rfl
            have pk2 := Sta.cell (b := w4.heap.size) (cs := [.int .i64 ta.k, .string ta.s, .int .i64 ta.n, .slice none 0 0]) H8.out.f4 2 _ rfl
            have pk3 := Sta.cell (b := w4.heap.size) (cs := [.int .i64 ta.k, .string ta.s, .int .i64 ta.n, .slice none 0 0]) H8.out.f4 3 _ rfl
            have pm0 := Sta.cell (b := w5.heap.size) (cs := [.int .i64 tb.k, .string tb.s, .int .i64 tb.n, .slice none 0 0]) H8.out.f3 0 _ rfl
            have pm1 := Sta.cell (b := w5.heap.size) (cs := [.int .i64 tb.k, .string tb.s, .int .i64 tb.n, .slice none 0 0]) H8.out.f3 1 _ rfl
            have pm2 := Sta.cell (b := w5.heap.size) (cs := [.int .i64 tb.k, .string tb.s, .int .i64 tb.n, .slice none 0 0]) H8.out.f3 2 _ rfl
            have pm3 := Sta.cell (b := w5.heap.size) (cs := [.int .i64 tb.k, .string tb.s, .int .i64 tb.n, .slice none 0 0]) H8.out.f3 3 _ rfl
            have pn0 := Sta.cell (b := w7.heap.size) (cs := [.int .i64 ta'.k, .string ta'.s, .int .i64 ta'.n, .slice none 0 0]) H8.out.f1 0 _ rfl
            have pn1 := Sta.cell (b := w7.heap.size) (cs := [.int .i64 ta'.k, .string ta'.s, .int .i64 ta'.n, .slice none 0 0]) H8.out.f1 1 _ rfl
            have pn2 := Sta.cell (b := w7.heap.size) (cs := [.int .i64 ta'.k, .string ta'.s, .int .i64 ta'.n, .slice none 0 0]) H8.out.f1 2 _ rfl
            have pn3 := Sta.cell (b := w7.heap.size) (cs := [.int .i64 ta'.k, .string ta'.s, .int .i64 ta'.n, .slice none 0 0]) H8.out.f1 3 _ rfl
            have po0 := Sta.cell (b := w8.heap.size) (cs := [.int .i64 tb'.k, .string tb'.s, .int .i64 tb'.n, .slice none 0 0]) H8.out 0 _ rfl
            have po1 := Sta.cell (b := w8.heap.size) (cs := [.int .i64 tb'.k, .string tb'.s, .int .i64 tb'.n, .slice none 0 0]) H8.out 1 _ rfl
            have po2 := Sta.cell (b := w8.heap.size) (cs := [.int .i64 tb'.k, .string tb'.s, .int .i64 tb'.n, .slice none 0 0]) H8.out 2 _ rfl
            have po3 := Sta.cell (b := w8.heap.size) (cs := [.int .i64 tb'.k, .string tb'.s, .int .i64 tb'.n, .slice none 0 0]) H8.out 3 _ rfl
            go_wp2_with fail
            go_ret
            exact ⟨rfl, H8.out.below⟩
          · have z4 : (a.toList == b.toList) = false := str_ne hab
            have HE2 := Lib.hid (HQ.out hab)
            clear hab
            have pk0 := Sta.cell (b := w4.heap.size) (cs := [.int .i64 ta.k, .string ta.s, .int .i64 ta.n, .slice none 0 0]) H8.out.f4 0 _ rfl
            have pk1 := Sta.cell (b := w4.heap.size) (cs := [.int .i64 ta.k, .string ta.s, .int .i64 ta.n, .slice none 0 0]) H8.out.f4 1 _ rfl
            have pk2 := Sta.cell (b := w4.heap.size) (cs := [.int .i64 ta.k, .string ta.s, .int .i64 ta.n, .slice none 0 0]) H8.out.f4 2 _ rfl
            have pk3 := Sta.cell (b := w4.heap.size) (cs := [.int .i64 ta.k, .string ta.s, .int .i64 ta.n, .slice none 0 0]) H8.out.f4 3 _ rfl
            have pm0 := Sta.cell (b := w5.heap.size) (cs := [.int .i64 tb.k, .string tb.s, .int .i64 tb.n, .slice none 0 0]) H8.out.f3 0 _ rfl
            have pm1 := Sta.cell (b := w5.heap.size) (cs := [.int .i64 tb.k, .string tb.s, .int .i64 tb.n, .slice none 0 0]) H8.out.f3 1 _ rfl
            have pm2 := Sta.cell (b := w5.heap.size) (cs := [.int .i64 tb.k, .string tb.s, .int .i64 tb.n, .slice none 0 0]) H8.out.f3 2 _ rfl
            have pm3 := Sta.cell (b := w5.heap.size) (cs := [.int .i64 tb.k, .string tb.s, .int .i64 tb.n, .slice none 0 0]) H8.out.f3 3 _ rfl
            have pn0 := Sta.cell (b := w7.heap.size) (cs := [.int .i64 ta'.k, .string ta'.s, .int .i64 ta'.n, .slice none 0 0]) H8.out.f1 0 _ rfl
            have pn1 := Sta.cell (b := w7.heap.size) (cs := [.int .i64 ta'.k, .string ta'.s, .int .i64 ta'.n, .slice none 0 0]) H8.out.f1 1 _ rfl
            have pn2 := Sta.cell (b := w7.heap.size) (cs := [.int .i64 ta'.k, .string ta'.s, .int .i64 ta'.n, .slice none 0 0]) H8.out.f1 2 _ rfl
            have pn3 := Sta.cell (b := w7.heap.size) (cs := [.int .i64 ta'.k, .string ta'.s, .int .i64 ta'.n, .slice none 0 0]) H8.out.f1 3 _ rfl
            have po0 := Sta.cell (b := w8.heap.size) (cs := [.int .i64 tb'.k, .string tb'.s, .int .i64 tb'.n, .slice none 0 0]) H8.out 0 _ rfl
            have po1 := Sta.cell (b := w8.heap.size) (cs := [.int .i64 tb'.k, .string tb'.s, .int .i64 tb'.n, .slice none 0 0]) H8.out 1 _ rfl
            have po2 := Sta.cell (b := w8.heap.size) (cs := [.int .i64 tb'.k, .string tb'.s, .int .i64 tb'.n, .slice none 0 0]) H8.out 2 _ rfl
            have po3 := Sta.cell (b := w8.heap.size) (cs := [.int .i64 tb'.k, .string tb'.s, .int .i64 tb'.n, .slice none 0 0]) H8.out 3 _ rfl
            go_wp2_with fail
            refine (rsame_flat _ HE2.out FB.out).mono ?_
            rintro e w10 ⟨rfl, h⟩
            have H10 := Lib.hid (H8.out.go h)
            clear h H8
            clear pk0 pk1 pk2 pk3 pm0 pm1 pm2 pm3 pn0 pn1 pn2 pn3 po0 po1 po2 po3
            go_wp2_with fail
            go_ret
            exact ⟨rfl, H10.out.below⟩
end Go.Proofs.Ytmbclhjhmghapaa
