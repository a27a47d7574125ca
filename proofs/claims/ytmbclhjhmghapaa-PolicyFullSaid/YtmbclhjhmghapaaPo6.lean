/- Package policy: Key, with, Rekey, Trust, Sense. -/
import Derived.Test.YtmbclhjhmghapaaPo5
namespace Go.Proofs.Ytmbclhjhmghapaa
open Go.RowKit Go.Maps Go.WideMaps

def keyT (s : ByteArray) (n : Int) : Tm := .mk 2 s n []
theorem keyT_rep (I : Nat → Prop) (w : World) (s : ByteArray) (n : Int) (hs : InS s) (hn : InI n) : Rep I w [.int .i64 2, .string s, .int .i64 n, .slice none 0 0] (keyT s n) := Rep.of (by constructor <;> decide) hn hs (RSl.nil _ _ _ _)

theorem key_any (w : World) (s : ByteArray) (n : Int) : Calls Try.prog 52 #[.string s, .int .i64 n] w fun e w' => e = .returned (.agg #[.int .i64 2, .string s, .int .i64 n, .slice none 0 0]) ∧ Below w.heap.size w w' := by
  go_enter Try.func52, Try.ntmps52
  go_wp2_with fail
  exact bodyPost_ret (v := .agg #[.int .i64 2, .string s, .int .i64 n, .slice none 0 0]) (by simp [results, Try.results52, go_sem]) rfl ⟨rfl, (Below.refl _ _).alloc (Nat.le_refl _) _⟩

def keyF (S : List Prin) (s : ByteArray) : Tm × Int := match findP S s with | some p => (keyT s p.ver, 0) | none => (Tm.zero, 40)
theorem keyF_some {S : List Prin} {s : ByteArray} {p : Prin} (h : findP S s = some p) : keyF S s = (keyT s p.ver, 0) := by rw [keyF, h]
theorem keyF_none {S : List Prin} {s : ByteArray} (h : findP S s = none) : keyF S s = (Tm.zero, 40) := by rw [keyF, h]
theorem keyF_n (S : List Prin) (s : ByteArray) : (keyF S s).1.l = [] := by
  unfold keyF
  split <;> rfl
/-- a term without parts, as cells -/
def flatCs (t : Tm) : List Value := [.int .i64 t.k, .string t.s, .int .i64 t.n, .slice none 0 0]

section
variable {R : List Asn} {I0 F0 : Nat → Prop} {w0 w : World} {sb : Nat} {S : List Prin}

set_option maxHeartbeats 1000000 in
set_option maxRecDepth 100000 in
theorem pkey_any (h : Sta (storeA sb S :: R) I0 F0 w0 w) (s : ByteArray) (hs : InS s) : Calls Try.prog 33 #[PtrTo sb, .string s] w fun e w' => e = .returned (.tuple #[.agg (flatCs (keyF S s).1).toArray, .int .i64 (keyF S s).2]) ∧ Below w.heap.size w w' := by
  have H := Lib.hid (h.alloc (.cells #[.int .i64 0, .string ⟨#[]⟩, .int .i64 0, .slice none 0 0] 26))
  clear h
  cases hf : findP S s with
  | none =>
    have E := Lib.hid (keyF_none hf)
    obtain ⟨mb, zs, hc, hm, hl⟩ := H.out.noneP hf
    have hlk := look_none hm hl hs
    clear hf hm hl
    go_enter Try.func33, Try.ntmps33
    go_wp2_with fail
    refine bodyPost_ret (v := .tuple #[.agg #[.int .i64 0, .string ⟨#[]⟩, .int .i64 0, .slice none 0 0], .int .i64 40]) (by simp [results, Try.results33, go_sem]) rfl ⟨by rw [E.out]; rfl, (Below.refl _ _).alloc (Nat.le_refl _) _⟩
  | some p =>
    have E := Lib.hid (keyF_some hf)
    obtain ⟨b, S1, S2, e, hn, h, mb, zs, hc, hm, hl⟩ := H.out.takeP hf
    have hlk := look_some hm hl hs
    clear hf hm hl
    obtain ⟨va, vb, vg, h⟩ := h.openP
    have c1 := Sta.cell (b := b) (cs := prinCells p va vb vg) h 1 _ rfl
    have HB : Hid (Below w.heap.size w (w.alloc (.cells #[.int .i64 0, .string ⟨#[]⟩, .int .i64 0, .slice none 0 0] 26))) := (Below.refl _ _).alloc (Nat.le_refl _) _
    have HX : Hid ((w.alloc (.cells #[.int .i64 0, .string ⟨#[]⟩, .int .i64 0, .slice none 0 0] 26)).heap[w.heap.size]? = some (.cells #[.int .i64 0, .string ⟨#[]⟩, .int .i64 0, .slice none 0 0] 26 (0, 0))) := heap_laid _ _
    clear h e hn
    go_enter Try.func33, Try.ntmps33
    go_wp2_with fail
    refine (key_any _ s p.ver).mono ?_
    rintro e w1 ⟨rfl, hb⟩
    have B1 := Lib.hid (HB.out.trans (hb.mono HB.out.size))
    have X1 := Lib.hid (heap_on HX.out hb)
    clear hb c1 hlk hc
    have c0 := cell_of X1.out 0 rfl
    have c1 := cell_of X1.out 1 rfl
    have c2 := cell_of X1.out 2 rfl
    have c3 := cell_of X1.out 3 rfl
    have g0 := frozen_of X1.out 0
    have g1 := frozen_of X1.out 1
    have g2 := frozen_of X1.out 2
    have g3 := frozen_of X1.out 3
    go_wp2_with fail
    refine bodyPost_ret (v := .tuple #[.agg #[.int .i64 2, .string s, .int .i64 p.ver, .slice none 0 0], .int .i64 0]) (by simp [results, Try.results33, go_sem, c0, c1, c2, c3]) rfl ⟨by rw [E.out]; rfl, (by (repeat (first | exact Hid.out B1 | exact Below.refl _ _ | (refine Below.setCell ?_ (by first | omega | (simp; done) | (simp; omega)) _) | (refine Below.alloc ?_ (by first | omega | (simp; done) | (simp; omega)) _) | (refine Below.drew ?_))))⟩

/-- 'with', at a name that is not there -/
theorem with_none (h : Sta (storeA sb S :: R) I0 F0 w0 w) (s : ByteArray) (hs : InS s) (hf : findP S s = none) (fn : Value) : Calls Try.prog 53 #[PtrTo sb, .string s, fn] w fun e w' => e = .returned (.int .i64 40) ∧ w = w' := by
  obtain ⟨mb, zs, hc, hm, hl⟩ := h.noneP hf
  have hlk := look_none hm hl hs
  clear hf hm hl h
  go_enter Try.func53, Try.ntmps53
  go_wp2_with fail
  go_ret
  exact ⟨rfl, rfl⟩

set_option maxHeartbeats 1000000 in
set_option maxRecDepth 100000 in
theorem with_some (h : Sta (storeA sb S :: R) I0 F0 w0 w) (s : ByteArray) (hs : InS s) {p : Prin} (hf : findP S s = some p) :
    ∃ b S1 S2, S = S1 ++ p :: S2 ∧ p.name = s ∧ Sta (prinA b p :: storeO sb S1 b p S2 :: R) I0 F0 w0 w ∧
      ∀ (K : Nat) (caps : Array Value) (Q : Ending → World → Prop), (∀ args w, Sem.run Try.prog (callFunc K args) w = .ok (.enter K args) w) → Calls Try.prog K (#[PtrTo b] ++ caps) w (fun e w' => ∃ c, e = .returned (.int .i64 c) ∧ Q e w') → Calls Try.prog 53 #[PtrTo sb, .string s, .func (.func K) #[] caps] w Q := by
  obtain ⟨b, S1, S2, e, hn, h, mb, zs, hc, hm, hl⟩ := h.takeP hf
  have hlk := look_some hm hl hs
  refine ⟨b, S1, S2, e, hn, h, fun K caps Q hcf hK => ?_⟩
  have HK := Lib.hid hK
  clear hK
  clear hf hm hl h e hn
  go_enter Try.func53, Try.ntmps53
  go_wp2_with fail
  refine HK.out.mono ?_
  rintro e w1 ⟨c, rfl, hq⟩
  go_wp2_with fail
  exact hq

/-- what an act on a principal makes of a store -/
def withF (S : List Prin) (s : ByteArray) (f : Prin → Prin × Int) : List Prin × Int := match findP S s with
  | some p => (S.map fun q => if kOf q.name == kOf s then (f p).1 else q, (f p).2)
  | none => (S, 40)
theorem withF_none {s : ByteArray} {f : Prin → Prin × Int} (h : findP S s = none) : withF S s f = (S, 40) := by rw [withF, h]
theorem Sta.nodupS (h : Sta (storeA sb S :: R) I0 F0 w0 w) : (S.map fun q => kOf q.name).Nodup := by
  obtain ⟨mb, zs, h1, h2, hx⟩ := h.openStore
  have hm : MapIs Try.prog 9 w mb (kvP zs) := Sta.map (b := mb) hx.f1
  have := hm.nodup
  rw [keysA_kvP] at this
  rw [← h1, List.map_map]
  exact this
theorem turn_eq {S1 S2 : List Prin} {p p' : Prin} {s : ByteArray} (e : S = S1 ++ p :: S2) (hn : (S.map fun q => kOf q.name).Nodup) (hp : p.name = s) : S1 ++ p' :: S2 = S.map fun q => if kOf q.name == kOf s then p' else q := by
  subst e hp
  rw [List.map_append, List.map_cons, List.nodup_append, List.nodup_cons] at hn
  obtain ⟨h1, ⟨h2, h3⟩, h4⟩ := hn
  rw [List.map_append, List.map_cons]
  have e1 : ∀ l : List Prin, (∀ q ∈ l, kOf q.name ≠ kOf p.name) → l.map (fun q => if kOf q.name == kOf p.name then p' else q) = l := by
    intro l hl
    conv => rhs; rw [← List.map_id l]
    refine List.map_congr_left fun q hq => ?_
    show (if kOf q.name == kOf p.name then p' else q) = id q
    rw [if_neg (fun h => hl q hq (beq_iff_eq.1 h))]
    rfl
  rw [e1 S1 fun q hq e => h4 (kOf q.name) (List.mem_map.2 ⟨q, hq, rfl⟩) (kOf p.name) (by simp) e, e1 S2 fun q hq e => h2 (List.mem_map.2 ⟨q, hq, e⟩)]
  simp

theorem with_do (h : Sta (storeA sb S :: R) I0 F0 w0 w) (s : ByteArray) (hs : InS s) (K : Nat) (caps : Array Value) (f : Prin → Prin × Int) (hname : ∀ p, (f p).1.name = p.name) (hcf : ∀ args w, Sem.run Try.prog (callFunc K args) w = .ok (.enter K args) w)
    (hdo : ∀ b p X, findP S s = some p → Sta (prinA b p :: X :: R) I0 F0 w0 w → Calls Try.prog K (#[PtrTo b] ++ caps) w fun e w' => e = .returned (.int .i64 (f p).2) ∧ Sta (prinA b (f p).1 :: X :: R) I0 F0 w0 w') :
    Calls Try.prog 53 #[PtrTo sb, .string s, .func (.func K) #[] caps] w fun e w' => e = .returned (.int .i64 (withF S s f).2) ∧ Sta (storeA sb (withF S s f).1 :: R) I0 F0 w0 w' := by
  cases hf : findP S s with
  | none =>
    rw [withF_none hf]
    refine (with_none h s hs hf _).mono ?_
    rintro e w1 ⟨rfl, rfl⟩
    exact ⟨rfl, h⟩
  | some p =>
    obtain ⟨b, S1, S2, e, hn, h1, hw⟩ := with_some h s hs hf
    refine hw K caps _ hcf ((hdo b p _ hf h1).mono ?_)
    rintro e1 w1 ⟨rfl, h2⟩
    refine ⟨_, rfl, ?_, ?_⟩
    · rw [withF, hf]
    · have h3 := h2.putP (hname p)
      rw [turn_eq e h.nodupS hn] at h3
      rw [withF, hf]
      exact h3

theorem Sta.reP {b : Nat} {p p' : Prin} {va vb vg : Value} (h : Sta (.blk b (prinCells p' va vb vg) 49 :: strA va p'.allowed :: strA vb p'.acts :: intA vg p'.groups :: .pure (OkP p) :: R) I0 F0 w0 w) (ho : OkP p') : Sta (prinA b p' :: R) I0 F0 w0 w := by
  have h1 := h.f4.drop.topure ho
  exact Sta.shutP (va := va) (vb := vb) (vg := vg) (h1.f4.f4.f4.f4)

/-! ### flags, keys -/
def rekeyF (p : Prin) : Prin × Int := if 1000 ≤ p.ver then (p, 53) else ({ p with ver := p.ver + 1 }, 0)
def trustF (on : Bool) (p : Prin) : Prin × Int := ({ p with tr := on }, 0)
def senseF (on : Bool) (p : Prin) : Prin × Int := ({ p with se := on }, 0)

theorem rekey1_any {b : Nat} {p : Prin} (h : Sta (prinA b p :: R) I0 F0 w0 w) : Calls Try.prog 54 #[PtrTo b] w fun e w' => e = .returned (.int .i64 (rekeyF p).2) ∧ Sta (prinA b (rekeyF p).1 :: R) I0 F0 w0 w' := by
  obtain ⟨va, vb, vg, h⟩ := h.openP
  have ho := Sta.okP h
  have v1 := ho.v1
  have v2 := ho.v2
  have H := Lib.hid h
  have HO := Lib.hid ho
  have c1 := Sta.cell (b := b) (cs := prinCells p va vb vg) h 1 _ rfl
  have f1 := Sta.frozen (b := b) (cs := prinCells p va vb vg) h 1
  clear h ho
  by_cases ht : 1000 ≤ p.ver
  · have E : Hid (rekeyF p = (p, 53)) := by show _ = _; rw [rekeyF, if_pos ht]
    go_enter Try.func54, Try.ntmps54
    go_wp2_with fail
    go_ret
    rw [E.out]
    exact ⟨rfl, Sta.shutP H.out⟩
  · have E : Hid (rekeyF p = ({ p with ver := p.ver + 1 }, 0)) := by show _ = _; rw [rekeyF, if_neg ht]
    have hd : decide (1000 ≤ p.ver) = false := by simp; omega
    go_enter Try.func54, Try.ntmps54
    go_wp2_with fail
    go_ret
    rw [E.out]
    have o := HO.out
    exact ⟨rfl, Sta.reP (p := p) (p' := { p with ver := p.ver + 1 }) (va := va) (vb := vb) (vg := vg) (Sta.set H.out 1 (.int .i64 (p.ver + 1))) ⟨o.name, o.allowed, o.acts, o.groups, by simp; omega, by simp; omega, o.l1, o.l2, o.na, o.nb⟩⟩

theorem rekey_any (h : Sta (storeA sb S :: R) I0 F0 w0 w) (s : ByteArray) (hs : InS s) : Calls Try.prog 34 #[PtrTo sb, .string s] w fun e w' => e = .returned (.int .i64 (withF S s rekeyF).2) ∧ Sta (storeA sb (withF S s rekeyF).1 :: R) I0 F0 w0 w' := by
  have H := Lib.hid h
  clear h
  go_enter Try.func34, Try.ntmps34
  go_wp2_with fail
  refine (with_do H.out s hs 54 #[] rekeyF (fun p => by unfold rekeyF; split <;> rfl) (fun args w => by kernel_rfl) (fun b p X _ h1 => rekey1_any h1)).mono ?_
  rintro e w1 ⟨rfl, h1⟩
  have H1 := Lib.hid h1
  clear h1
  go_wp2_with fail
  go_ret
  exact ⟨rfl, H1.out⟩

theorem trust1_any {b bx : Nat} {p : Prin} {on : Bool} {X : Asn} (h : Sta (prinA b p :: X :: .blk bx [.bool on] 4 :: R) I0 F0 w0 w) : Calls Try.prog 56 #[PtrTo b, PtrTo bx] w fun e w' => e = .returned (.int .i64 (trustF on p).2) ∧ Sta (prinA b (trustF on p).1 :: X :: .blk bx [.bool on] 4 :: R) I0 F0 w0 w' := by
  obtain ⟨va, vb, vg, h⟩ := h.openP
  have H := Lib.hid h
  have HO := Lib.hid (Sta.okP h)
  have cF := Sta.cell (b := b) (cs := prinCells p va vb vg) h 2 _ rfl
  have fF := Sta.frozen (b := b) (cs := prinCells p va vb vg) h 2
  have h5 : Sta (.blk bx [.bool on] 4 :: (prinX b p va vb vg ++ (X :: R))) I0 F0 w0 w := Sta.f6 h
  have c0 := Sta.cell (b := bx) (cs := [.bool on]) h5 0 _ rfl
  clear h h5
  go_enter Try.func56, Try.ntmps56
  go_wp2_with fail
  go_ret
  have o := HO.out
  exact ⟨rfl, Sta.reP (p := p) (p' := { p with tr := on }) (va := va) (vb := vb) (vg := vg) (Sta.set H.out 2 (.bool on)) ⟨o.name, o.allowed, o.acts, o.groups, o.v1, o.v2, o.l1, o.l2, o.na, o.nb⟩⟩

theorem trust_any (h : Sta (storeA sb S :: R) I0 F0 w0 w) (s : ByteArray) (hs : InS s) (on : Bool) : Calls Try.prog 36 #[PtrTo sb, .string s, .bool on] w fun e w' => e = .returned (.int .i64 (withF S s (trustF on)).2) ∧ Sta (storeA sb (withF S s (trustF on)).1 :: R) I0 F0 w0 w' := by
  have H := Lib.hid (h.lay [.bool on] 4).f1
  clear h
  go_enter Try.func36, Try.ntmps36
  go_wp2_with fail
  refine (with_do H.out s hs 56 #[PtrTo w.heap.size] (trustF on) (fun p => rfl) (fun args w => by kernel_rfl) (fun b p X _ h1 => trust1_any h1)).mono ?_
  rintro e w1 ⟨rfl, h1⟩
  have H1 := Lib.hid h1.f1.drop
  clear h1
  go_wp2_with fail
  go_ret
  exact ⟨rfl, H1.out⟩
theorem sense1_any {b bx : Nat} {p : Prin} {on : Bool} {X : Asn} (h : Sta (prinA b p :: X :: .blk bx [.bool on] 4 :: R) I0 F0 w0 w) : Calls Try.prog 57 #[PtrTo b, PtrTo bx] w fun e w' => e = .returned (.int .i64 (senseF on p).2) ∧ Sta (prinA b (senseF on p).1 :: X :: .blk bx [.bool on] 4 :: R) I0 F0 w0 w' := by
  obtain ⟨va, vb, vg, h⟩ := h.openP
  have H := Lib.hid h
  have HO := Lib.hid (Sta.okP h)
  have cF := Sta.cell (b := b) (cs := prinCells p va vb vg) h 3 _ rfl
  have fF := Sta.frozen (b := b) (cs := prinCells p va vb vg) h 3
  have h5 : Sta (.blk bx [.bool on] 4 :: (prinX b p va vb vg ++ (X :: R))) I0 F0 w0 w := Sta.f6 h
  have c0 := Sta.cell (b := bx) (cs := [.bool on]) h5 0 _ rfl
  clear h h5
  go_enter Try.func57, Try.ntmps57
  go_wp2_with fail
  go_ret
  have o := HO.out
  exact ⟨rfl, Sta.reP (p := p) (p' := { p with se := on }) (va := va) (vb := vb) (vg := vg) (Sta.set H.out 3 (.bool on)) ⟨o.name, o.allowed, o.acts, o.groups, o.v1, o.v2, o.l1, o.l2, o.na, o.nb⟩⟩

theorem sense_any (h : Sta (storeA sb S :: R) I0 F0 w0 w) (s : ByteArray) (hs : InS s) (on : Bool) : Calls Try.prog 37 #[PtrTo sb, .string s, .bool on] w fun e w' => e = .returned (.int .i64 (withF S s (senseF on)).2) ∧ Sta (storeA sb (withF S s (senseF on)).1 :: R) I0 F0 w0 w' := by
  have H := Lib.hid (h.lay [.bool on] 4).f1
  clear h
  go_enter Try.func37, Try.ntmps37
  go_wp2_with fail
  refine (with_do H.out s hs 57 #[PtrTo w.heap.size] (senseF on) (fun p => rfl) (fun args w => by kernel_rfl) (fun b p X _ h1 => sense1_any h1)).mono ?_
  rintro e w1 ⟨rfl, h1⟩
  have H1 := Lib.hid h1.f1.drop
  clear h1
  go_wp2_with fail
  go_ret
  exact ⟨rfl, H1.out⟩
end
end Go.Proofs.Ytmbclhjhmghapaa
