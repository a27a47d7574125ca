/- Package policy: Add. -/
import Derived.Test.YtmbclhjhmghapaaPo9
namespace Go.Proofs.Ytmbclhjhmghapaa
open Go.RowKit Go.Maps Go.WideMaps

def addF (S : List Prin) (p : Prin) : List Prin × Int :=
  if validB p then (match findP S p.name with | some _ => (S, 41) | none => if 100 ≤ S.length then (S, 53) else (S ++ [p], 0)) else (S, 1)
theorem addF_bad {S : List Prin} {p : Prin} (h : validB p = false) : addF S p = (S, 1) := by simp [addF, h]
theorem addF_twice {S : List Prin} {p q : Prin} (h : validB p = true) (hf : findP S p.name = some q) : addF S p = (S, 41) := by simp [addF, h, hf]
theorem addF_full {S : List Prin} {p : Prin} (h : validB p = true) (hf : findP S p.name = none) (hl : 100 ≤ S.length) : addF S p = (S, 53) := by simp [addF, h, hf, hl]
theorem addF_ok {S : List Prin} {p : Prin} (h : validB p = true) (hf : findP S p.name = none) (hl : ¬ 100 ≤ S.length) : addF S p = (S ++ [p], 0) := by simp [addF, h, hf, hl]

section
variable {R : List Asn} {I0 F0 : Nat → Prop} {w0 w w' : World} {sb : Nat} {S : List Prin}

/-- what a copy has made, owned -/
theorem Sta.ownCopy {p : Prin} {va vb vg : Value} (h : Sta R I0 F0 w0 w) (hb : Below w.heap.size w w') (oa : OwnSl w' 9 1 isStr va p.allowed) (ob : OwnSl w' 9 1 isStr vb p.acts) (og : OwnSl w' 3 1 isInt vg p.groups)
    (hn : ∀ k, FOr (FOwn va) (FOr (FOwn vb) (FOwn vg)) k → w.heap.size ≤ k) (d1 : Disj (FOwn va) (FOr (FOwn vb) (FOwn vg))) (d2 : Disj (FOwn vb) (FOwn vg)) :
    Sta (strA va p.allowed :: strA vb p.acts :: intA vg p.groups :: R) I0 F0 w0 w' := by
  have h1 := h.gainOwn (A := .star (strA va p.allowed) (.star (strA vb p.acts) (intA vg p.groups))) hb (fun I => ⟨FOwn va, _, ⟨oa, rfl⟩, ⟨FOwn vb, FOwn vg, ⟨ob, rfl⟩, ⟨og, rfl⟩, d2, rfl⟩, d1, rfl⟩) hn
  exact (Sta.un h1.un.f1).f2

theorem put_new {zs : List (Nat × Prin)} {p : Prin} {q : Nat} (hf : findP (zs.map (·.2)) p.name = none) : putA (kvP zs) (kOf p.name) (PtrTo q) = kvP (zs ++ [(q, p)]) := by
  have : kOf p.name ∉ keysA (kvP zs) := by
    rw [← lookA_none, look_kvP]
    rw [findP_zs] at hf
    simpa using hf
  unfold putA
  rw [if_neg (by simpa using this)]
  simp [kvP]

/-- the new principal laid to a store's others -/
theorem Sta.putNew {mb q : Nat} {zs : List (Nat × Prin)} {p : Prin} {va vb vg : Value} (h : Sta (prinX q p va vb vg ++ (.blk sb [.map (some mb)] 88 :: mapA Try.prog 9 mb (kvP (zs ++ [(q, p)])) :: starsP zs :: R)) I0 F0 w0 w)
    (hl : zs.length < 100) : Sta (storeA sb (zs.map (·.2) ++ [p]) :: R) I0 F0 w0 w := by
  have h1 := Sta.shutP h
  have h2 : Sta (starsP [] :: prinA q p :: .blk sb [.map (some mb)] 88 :: mapA Try.prog 9 mb (kvP (zs ++ [(q, p)])) :: starsP zs :: R) I0 F0 w0 w :=
    h1.imp fun I F ha => ⟨FNone, F, rfl, ha, Disj.none_left _, (FOr.none_left _).symm⟩
  have h3 : Sta ([prinA q p, starsP zs, starsP []] ++ (.blk sb [.map (some mb)] 88 :: mapA Try.prog 9 mb (kvP (zs ++ [(q, p)])) :: R)) I0 F0 w0 w := h2.f4.f2
  have h4 := h3.lun.imp0 (P' := starsP (zs ++ (q, p) :: [])) fun I F ha => (starsP_mid zs [] q p I F).2 ha
  exact Sta.shutStore (mb := mb) (zs := zs ++ [(q, p)]) h4.f2.f2 (by simp) (by simp; omega)

def AddPost (R : List Asn) (I0 F0 : Nat → Prop) (w0 : World) (sb : Nat) (S : List Prin) (cs : List Value) (p : Prin) (e : Ending) (w' : World) : Prop :=
  e = .returned (.int .i64 (addF S p).2) ∧ Sta (rprinA cs p :: storeA sb (addF S p).1 :: R) I0 F0 w0 w'

set_option maxHeartbeats 2000000 in
set_option maxRecDepth 100000 in
theorem add_any {cs : List Value} {p : Prin} (h : Sta (rprinA cs p :: storeA sb S :: R) I0 F0 w0 w) :
    Calls Try.prog 25 #[PtrTo sb, .agg cs.toArray] w (AddPost R I0 F0 w0 sb S cs p) := by
  obtain ⟨va, vb, vg, rfl, hs⟩ : ∃ va vb vg, cs = prinCells p va vb vg ∧ InS p.name := by
    obtain ⟨I, _, va, vb, vg, e, hs, _⟩ := Sta.pers h
    exact ⟨va, vb, vg, e, hs⟩
  have H := Lib.hid (h.lay (prinCells p va vb vg) 49)
  clear h
  change Hid (Sta _ _ _ _ (w.alloc (.cells #[.string p.name, .int .i64 p.ver, .bool p.tr, .bool p.se, va, vb, vg, .int .i64 p.life] 49))) at H
  have HV : Hid (∃ I, Old I (w.alloc (.cells #[.string p.name, .int .i64 p.ver, .bool p.tr, .bool p.se, va, vb, vg, .int .i64 p.life] 49)) ∧ RPrin I (w.alloc (.cells #[.string p.name, .int .i64 p.ver, .bool p.tr, .bool p.se, va, vb, vg, .int .i64 p.life] 49)) (prinCells p va vb vg) p) := Sta.pers H.out.f1
  change Calls Try.prog 25 #[PtrTo sb, .agg #[.string p.name, .int .i64 p.ver, .bool p.tr, .bool p.se, va, vb, vg, .int .i64 p.life]] w _
  go_enter Try.func25, Try.ntmps25
  go_wp2_with fail
  refine (valid_any HV.out.choose _ _ p HV.out.choose_spec.1 HV.out.choose_spec.2).mono ?_
  rintro e w1 ⟨rfl, hb⟩
  have H1 := Lib.hid (H.out.go hb)
  clear hb H HV
  cases hv : validB p with
  | false =>
    have E := Lib.hid (addF_bad (S := S) hv)
    clear hv
    go_wp2_with fail
    go_ret
    rw [AddPost, E.out]
    exact ⟨rfl, H1.out.drop⟩
  | true =>
    have OK := Lib.hid (OkP.of hv hs)
    have HV := Lib.hid hv
    clear hv
    have H2 := Lib.hid H1.out.drew
    have c0 := Sta.cell (b := w.heap.size) (cs := prinCells p va vb vg) H1.out 0 _ rfl
    cases hf : findP S p.name with
    | some q =>
      have E := Lib.hid (addF_twice HV.out hf)
      obtain ⟨mb, b, _, _, hc, hl, _⟩ := H2.out.f2.peekSome hs hf
      clear hf
      go_wp2_with fail
      go_region
      go_wp2_with fail
      go_ret
      rw [AddPost, E.out]
      exact ⟨rfl, H2.out.drop⟩
    | none =>
      have HF := Lib.hid hf
      obtain ⟨mb, hc, hl⟩ := H2.out.f2.peekNone hs hf
      clear hf
      go_wp2_with fail
      go_region
      clear hl c0 hc
      generalize w1.drew = w2 at *
      obtain ⟨mb, zs, e1, _, h3⟩ := H2.out.f2.openStore
      subst e1
      have H3 := Lib.hid h3
      have hm := Sta.map (b := mb) h3.f1
      have c1 := Sta.cell (b := sb) (cs := [.map (some mb)]) h3 0 _ rfl
      have HM := Lib.hid hm
      have HL : Hid ((kvP zs).length = (zs.map (·.2)).length) := by show _ = _; simp [kvP]
      clear h3 hm H2 H1
      have HZ : Hid ((kvP zs).length = zs.length) := by show _ = _; simp [kvP]
      by_cases hl : 100 ≤ (kvP zs).length
      · have E : Hid (addF (zs.map (·.2)) p = (zs.map (·.2), 53)) := addF_full HV.out HF.out (by rw [← HL.out]; exact hl)
        go_wp2_with (at_len; refine wp_len HM.out Try.underlying9 91 rfl _ 86 rfl Try.underlying86 rfl ?_)
        go_ret
        rw [AddPost, E.out]
        exact ⟨rfl, (Sta.shutStore H3.out rfl (by have := HL.out; omega)).f1.drop.f1⟩
      · have E : Hid (addF (zs.map (·.2)) p = (zs.map (·.2) ++ [p], 0)) := addF_ok HV.out HF.out (by rw [← HL.out]; exact hl)
        have dl : decide (100 ≤ (kvP zs).length) = false := by simp; omega
        have b0 := Sta.cell (b := w.heap.size) (cs := prinCells p va vb vg) H3.out.f3 0 _ rfl
        have b1 := Sta.cell (b := w.heap.size) (cs := prinCells p va vb vg) H3.out.f3 1 _ rfl
        have b2 := Sta.cell (b := w.heap.size) (cs := prinCells p va vb vg) H3.out.f3 2 _ rfl
        have b3 := Sta.cell (b := w.heap.size) (cs := prinCells p va vb vg) H3.out.f3 3 _ rfl
        have b4 := Sta.cell (b := w.heap.size) (cs := prinCells p va vb vg) H3.out.f3 4 _ rfl
        have b5 := Sta.cell (b := w.heap.size) (cs := prinCells p va vb vg) H3.out.f3 5 _ rfl
        have b6 := Sta.cell (b := w.heap.size) (cs := prinCells p va vb vg) H3.out.f3 6 _ rfl
        have b7 := Sta.cell (b := w.heap.size) (cs := prinCells p va vb vg) H3.out.f3 7 _ rfl
        have HP : Hid (∃ I, Old I w2 ∧ RPrin I w2 (prinCells p va vb vg) p) := Sta.pers (R := .blk sb [.map (some mb)] 88 :: mapA Try.prog 9 mb (kvP zs) :: starsP zs :: .blk w.heap.size (prinCells p va vb vg) 49 :: R) H3.out.f4
        go_wp2_with (at_len; refine wp_len HM.out Try.underlying9 91 rfl _ 86 rfl Try.underlying86 rfl ?_)
        refine (copied_any HP.out.choose _ (prinCells p va vb vg) p HP.out.choose_spec.1 HP.out.choose_spec.2 (Nat.le_trans OK.out.allowed (by decide)) (Nat.le_trans OK.out.acts (by decide)) (Nat.le_trans OK.out.groups (by decide))).mono ?_
        rintro e w3 ⟨xa, xb, xg, rfl, oa, ob, og, hnew, hd1, hd2, hb⟩
        obtain ⟨a1, y1, rfl⟩ := oa.shape
        obtain ⟨a2, y2, rfl⟩ := ob.shape
        obtain ⟨a3, y3, rfl⟩ := og.shape
        have g := (H3.out.ownCopy hb oa ob og hnew hd1 hd2).lay (prinCells p (.slice a1 p.allowed.length y1) (.slice a2 p.acts.length y2) (.slice a3 p.groups.length y3)) 49
        have H4 : Hid (Sta (.blk w3.heap.size (prinCells p (.slice a1 p.allowed.length y1) (.slice a2 p.acts.length y2) (.slice a3 p.groups.length y3)) 49 :: strA (.slice a1 p.allowed.length y1) p.allowed :: strA (.slice a2 p.acts.length y2) p.acts :: intA (.slice a3 p.groups.length y3) p.groups ::
          .blk sb [.map (some mb)] 88 :: mapA Try.prog 9 mb (kvP zs) :: starsP zs :: .blk w.heap.size (prinCells p va vb vg) 49 :: rprinA (prinCells p va vb vg) p :: R) I0 F0 w0 (w3.alloc (.cells #[.string p.name, .int .i64 p.ver, .bool p.tr, .bool p.se, .slice a1 p.allowed.length y1, .slice a2 p.acts.length y2, .slice a3 p.groups.length y3, .int .i64 p.life] 49)).drew) := g.drew
        clear g oa ob og hnew hd1 hd2 hb H3 HM b0 b1 b2 b3 b4 b5 b6 b7 HP c1 hl dl
        go_wp2_with fail
        generalize w3.alloc (.cells #[.string p.name, .int .i64 p.ver, .bool p.tr, .bool p.se, .slice a1 p.allowed.length y1, .slice a2 p.acts.length y2, .slice a3 p.groups.length y3, .int .i64 p.life] 49) = w4 at *
        have b0 := Sta.cell (b := w.heap.size) (cs := prinCells p va vb vg) H4.out.f7 0 _ rfl
        have c1 := Sta.cell (b := sb) (cs := [.map (some mb)]) H4.out.f4 0 _ rfl
        have HM := Lib.hid (Sta.map (b := mb) H4.out.f5)
        refine wp_region_still_tail 6 (by kernel_rfl) (by kernel_rfl) ?_
        simp only [List.take_succ_cons, List.take_zero, List.drop_succ_cons, List.drop_zero]
        change wpStill _ _ (World.drew w4) _ _ _
        repeat still_step
        refine wpStill_nil ?_
        change wpList _ _ _ _ _ w4.drew
        generalize w4.drew = w5 at *
        go_wp2_with (at_mapUpdate; refine wp_store HM.out Try.underlying9 91 (Nat.lt_of_lt_of_le (by have := HL.out; omega) maxLen_le) rfl _ _ _ 86 rfl Try.underlying86 rfl p.name rfl (key_fits hs) (PtrTo w3.heap.size) rfl ?_; intro w6 hm6 ht6; have H6 := Lib.hid (Sta.mapTurn H4.out.f5 ht6 hm6); clear hm6 ht6)
        go_ret
        rw [AddPost, E.out]
        refine ⟨rfl, ?_⟩
        have g := H6.out
        rw [put_new HF.out] at g
        have g2 := g.topure OK.out
        exact (Sta.putNew (mb := mb) (q := w3.heap.size) (g2.f7.f2.f7.f3.f7.f7.f7.f7) (by have := HZ.out; omega)).f1.drop.f1
end
end Go.Proofs.Ytmbclhjhmghapaa
