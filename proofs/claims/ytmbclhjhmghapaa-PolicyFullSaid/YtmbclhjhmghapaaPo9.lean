/- Package policy: May. -/
import Derived.Test.YtmbclhjhmghapaaPo8
import Derived.RegionTactic
import Derived.ChangeAlike
namespace Go.Proofs.Ytmbclhjhmghapaa
open Go.RowKit Go.Maps Go.WideMaps

def mayF (S : List Prin) (a b : ByteArray) : Bool × Bool :=
  ((match findP S a with | some p => Lib.containsS p.allowed b | none => false), (match findP S b with | some q => Lib.containsS q.acts a | none => false))

section
variable {R : List Asn} {I0 F0 : Nat → Prop} {w0 w : World} {sb : Nat} {S : List Prin}

theorem Sta.peekSome {s : ByteArray} {p : Prin} (h : Sta (storeA sb S :: R) I0 F0 w0 w) (hs : InS s) (hf : findP S s = some p) :
    ∃ mb b va vb, w.cell? ⟨sb, 0, none⟩ = some (.map (some mb)) ∧ (Instr.lookup 86 (.map (some mb)) (.string s) false).run Try.prog w = .ok (PtrTo b) w ∧
      w.cell? ⟨b, 4, none⟩ = some va ∧ w.cell? ⟨b, 5, none⟩ = some vb ∧ RStrs (There w) w va p.allowed ∧ RStrs (There w) w vb p.acts := by
  obtain ⟨b, S1, S2, _, _, h, mb, zs, hc, hm, hl⟩ := h.takeP hf
  obtain ⟨va, vb, vg, h⟩ := h.openP
  obtain ⟨_, _, _, e, _, _, _, h4, h5, _⟩ := Sta.rprin h
  unfold prinCells at e
  injection e with _ e; injection e with _ e; injection e with _ e; injection e with _ e; injection e with e1 e; injection e with e2 e
  subst e1; subst e2
  exact ⟨mb, b, va, vb, hc, look_some hm hl hs, Sta.cell (b := b) (cs := prinCells p va vb vg) h 4 _ rfl, Sta.cell (b := b) (cs := prinCells p va vb vg) h 5 _ rfl, h4, h5⟩
theorem Sta.peekNone {s : ByteArray} (h : Sta (storeA sb S :: R) I0 F0 w0 w) (hs : InS s) (hf : findP S s = none) :
    ∃ mb, w.cell? ⟨sb, 0, none⟩ = some (.map (some mb)) ∧ (Instr.lookup 86 (.map (some mb)) (.string s) false).run Try.prog w = .ok (.pointer none) w := by
  obtain ⟨mb, zs, hc, hm, hl⟩ := h.noneP hf
  exact ⟨mb, hc, look_none hm hl hs⟩
theorem same_map {m m' : Nat} {a : Addr} (h : w.cell? a = some (.map (some m))) (h' : w.cell? a = some (.map (some m'))) : m' = m := by
  rw [h] at h'
  injection h' with e
  injection e with e
  injection e with e
  exact e.symm

set_option maxHeartbeats 1000000 in
set_option maxRecDepth 100000 in
theorem may_any (h : Sta (storeA sb S :: R) I0 F0 w0 w) (a b : ByteArray) (ha : InS a) (hb : InS b) :
    Calls Try.prog 30 #[PtrTo sb, .string a, .string b] w fun e w' => e = .returned (.tuple #[.bool (mayF S a b).1, .bool (mayF S a b).2]) ∧ Below w.heap.size w w' := by
  have H := Lib.hid h.drew
  have HB : Hid (Below w.heap.size w w.drew) := (Below.refl _ _).drew
  clear h
  cases hfa : findP S a with
  | none =>
    obtain ⟨mb, hc, hl1⟩ := H.out.peekNone ha hfa
    cases hfb : findP S b with
    | none =>
      obtain ⟨mb', hc', hl2⟩ := H.out.peekNone hb hfb
      obtain rfl := same_map hc hc'
      have E : Hid (mayF S a b = (false, false)) := by show _ = _; simp [mayF, hfa, hfb]
      clear hc' hfa hfb
      go_enter Try.func30, Try.ntmps30
      go_wp2_with fail
      go_region
      go_wp2_with fail
      go_ret2
      rw [E.out]
      exact ⟨rfl, HB.out⟩
    | some q =>
      obtain ⟨mb', b2, va2, vb2, hc', hl2, _, c5, _, r2⟩ := H.out.peekSome hb hfb
      obtain rfl := same_map hc hc'
      have E : Hid (mayF S a b = (false, Lib.containsS q.acts a)) := by show _ = _; simp [mayF, hfa, hfb]
      have R2 := Lib.hid r2
      clear hc' hfa hfb r2
      go_enter Try.func30, Try.ntmps30
      go_wp2_with fail
      go_region
      go_wp2_with fail
      refine (contains_strs R2.out a).mono ?_
      rintro e w1 ⟨rfl, rfl⟩
      go_wp2_with fail
      go_ret2
      rw [E.out]
      exact ⟨rfl, HB.out⟩
  | some p =>
    obtain ⟨mb, b1, va1, vb1, hc, hl1, c4, _, r1, _⟩ := H.out.peekSome ha hfa
    cases hfb : findP S b with
    | none =>
      obtain ⟨mb', hc', hl2⟩ := H.out.peekNone hb hfb
      obtain rfl := same_map hc hc'
      have E : Hid (mayF S a b = (Lib.containsS p.allowed b, false)) := by show _ = _; simp [mayF, hfa, hfb]
      have R1 := Lib.hid r1
      clear hc' hfa hfb r1
      go_enter Try.func30, Try.ntmps30
      go_wp2_with fail
      go_region
      go_wp2_with fail
      refine (contains_strs R1.out b).mono ?_
      rintro e w1 ⟨rfl, rfl⟩
      go_wp2_with fail
      go_ret2
      rw [E.out]
      exact ⟨rfl, HB.out⟩
    | some q =>
      obtain ⟨mb', b2, va2, vb2, hc', hl2, _, c5, _, r2⟩ := H.out.peekSome hb hfb
      obtain rfl := same_map hc hc'
      have E : Hid (mayF S a b = (Lib.containsS p.allowed b, Lib.containsS q.acts a)) := by show _ = _; simp [mayF, hfa, hfb]
      have R1 := Lib.hid r1
      have R2 := Lib.hid r2
      clear hc' hfa hfb r1 r2
      go_enter Try.func30, Try.ntmps30
      go_wp2_with fail
      go_region
      go_wp2_with fail
      refine (contains_strs R1.out b).mono ?_
      rintro e w1 ⟨rfl, rfl⟩
      go_wp2_with fail
      refine (contains_strs R2.out a).mono ?_
      rintro e w1 ⟨rfl, rfl⟩
      go_wp2_with fail
      go_ret2
      rw [E.out]
      exact ⟨rfl, HB.out⟩
end
end Go.Proofs.Ytmbclhjhmghapaa
