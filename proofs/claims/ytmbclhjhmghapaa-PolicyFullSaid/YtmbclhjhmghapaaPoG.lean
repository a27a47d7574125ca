/- legatelaw12: Get and Same, their answers by name; plain laws of flags, of hops. -/
import Derived.Test.YtmbclhjhmghapaaPoF
namespace Go.Proofs.Ytmbclhjhmghapaa
open Go.RowKit Go.Maps Go.WideMaps

/-- a principal's cells, the slices' places by name -/
def pcs (p : Prin) (a1 : Option Addr) (c1 : Nat) (a2 : Option Addr) (c2 : Nat) (a3 : Option Addr) (c3 : Nat) : List Value :=
  [.string p.name, .int .i64 p.ver, .bool p.tr, .bool p.se, .slice a1 p.allowed.length c1, .slice a2 p.acts.length c2, .slice a3 p.groups.length c3, .int .i64 p.life]
section
variable {R : List Asn} {I0 F0 : Nat → Prop} {w0 w : World} {sb : Nat} {S : List Prin}
def GetIs (R : List Asn) (I0 F0 : Nat → Prop) (w0 : World) (sb : Nat) (S : List Prin) (p : Prin) (c : Int) (e : Ending) (w' : World) : Prop :=
  ∃ a1 c1 a2 c2 a3 c3, e = .returned (.tuple #[.agg #[.string p.name, .int .i64 p.ver, .bool p.tr, .bool p.se, .slice a1 p.allowed.length c1, .slice a2 p.acts.length c2, .slice a3 p.groups.length c3, .int .i64 p.life], .int .i64 c]) ∧
    Sta (rprinA (pcs p a1 c1 a2 c2 a3 c3) p :: storeA sb S :: R) I0 F0 w0 w'
theorem pget_is (h : Sta (storeA sb S :: R) I0 F0 w0 w) (s : ByteArray) (hs : InS s) {p : Prin} {c : Int} (e : getF S s = (p, c)) : Calls Try.prog 26 #[PtrTo sb, .string s] w (GetIs R I0 F0 w0 sb S p c) := by
  refine (get_any h s hs).mono ?_
  rintro e1 w1 ⟨cs, rfl, h1⟩
  rw [e] at h1 ⊢
  obtain ⟨a1, c1, a2, c2, a3, c3, rfl⟩ := h1.prinShape
  exact ⟨a1, c1, a2, c2, a3, c3, rfl, h1⟩
theorem Sta.bne {b b' : Nat} {cs cs' : List Value} {T T' : TypeId} (h : Sta (Asn.blk b cs T :: Asn.blk b' cs' T' :: R) I0 F0 w0 w) : b ≠ b' := by
  obtain ⟨I, F, ⟨F1, F2, ⟨_, rfl⟩, ⟨F3, F4, ⟨_, rfl⟩, _, _, rfl⟩, hd, rfl⟩, _, _⟩ := h
  intro e
  exact hd b rfl (.inl e)
theorem sameprin_is {cp cq : List Value} {p q : Prin} (h : Sta (rprinA cp p :: rprinA cq q :: R) I0 F0 w0 w) (e : p = q) : Calls Try.prog 32 #[.agg cp.toArray, .agg cq.toArray] w fun e w' => e = .returned (.bool true) ∧ Below w.heap.size w w' := by
  obtain ⟨I, hI, h1, h2⟩ := Sta.pers2 h
  have := sameprin_any I w cp cq p q hI h1 h2
  rw [eqB_true e] at this
  exact this
theorem RPrin.flags {I : Nat → Prop} {w : World} {a1 a2 a3 : Option Addr} {c1 c2 c3 : Nat} {p : Prin} (h : RPrin I w (pcs p a1 c1 a2 c2 a3 c3) p) (t s : Bool) : RPrin I w ((pcs p a1 c1 a2 c2 a3 c3).set 2 (.bool t) |>.set 3 (.bool s)) { p with tr := t, se := s } := by
  obtain ⟨_, _, _, e, h1, h2, h3, h4, h5, h6⟩ := h
  unfold pcs at e
  injection e with _ e; injection e with _ e; injection e with _ e; injection e with _ e; injection e with e1 e; injection e with e2 e; injection e with e3 e
  subst e1; subst e2; subst e3
  exact ⟨_, _, _, rfl, h1, h2, h3, h4, h5, h6⟩
theorem RPrin.noAllowed {I : Nat → Prop} {w : World} {a1 a2 a3 : Option Addr} {c1 c2 c3 : Nat} {p : Prin} (h : RPrin I w (pcs p a1 c1 a2 c2 a3 c3) p) : RPrin I w ((pcs p a1 c1 a2 c2 a3 c3).set 4 (.slice none 0 0)) { p with allowed := [] } := by
  obtain ⟨_, _, _, e, h1, h2, h3, h4, h5, h6⟩ := h
  unfold pcs at e
  injection e with _ e; injection e with _ e; injection e with _ e; injection e with _ e; injection e with e1 e; injection e with e2 e; injection e with e3 e
  subst e1; subst e2; subst e3
  exact ⟨_, _, _, rfl, h1, h2, h3, RSl.nil _ _ _ _, h5, h6⟩
end

/-! ### flags -/
theorem getF_congr {S S' : List Prin} {s : ByteArray} (h : findP S' s = findP S s) : getF S' s = getF S s := by unfold getF; rw [h]
theorem flags_law (S : List Prin) (a c : ByteArray) (on : Bool) :
    let S1 := (withF S a (trustF on)).1
    let S2 := (withF S1 a (senseF (!on))).1
    ((getF S a).2 = 40 ∧ (withF S a (trustF on)).2 = 40 ∧ (withF S1 a (senseF (!on))).2 = 40 ∧ (getF S2 c).1 = (getF S c).1) ∨
    ((getF S a).2 = 0 ∧ (withF S a (trustF on)).2 = 0 ∧ (withF S1 a (senseF (!on))).2 = 0 ∧ (getF S2 a).1 = { (getF S a).1 with tr := on, se := !on } ∧ (a ≠ c → (getF S2 c).1 = (getF S c).1)) := by
  intro S1 S2
  have f1 := fun t => find_with (S := S) (s := a) (t := t) (f := trustF on) (fun _ => rfl)
  have f2 := fun t => find_with (S := S1) (s := a) (t := t) (f := senseF (!on)) (fun _ => rfl)
  have n1 : findP S1 a = (findP S a).map (fun p => (trustF on p).1) := by have := f1 a; rwa [if_pos rfl] at this
  have n2 : findP S2 a = (findP S1 a).map (fun p => (senseF (!on) p).1) := by have := f2 a; rwa [if_pos rfl] at this
  cases h : findP S a with
  | none =>
    left
    rw [h] at n1
    have e1 : S1 = S := by show (withF S a (trustF on)).1 = S; rw [withF_none h]
    have e2 : S2 = S1 := by show (withF S1 a (senseF (!on))).1 = S1; rw [withF_none n1]
    exact ⟨by rw [getF_none h], by rw [withF_none h], by rw [withF_none n1], by rw [e2, e1]⟩
  | some p =>
    right
    rw [h] at n1
    rw [n1] at n2
    refine ⟨by rw [getF_some h], by rw [with_code, h]; rfl, by rw [with_code, n1]; rfl, by rw [getF_some n2, getF_some h]; rfl, fun hne => ?_⟩
    have e1 := f1 c
    have e2 := f2 c
    rw [if_neg (Ne.symm hne)] at e1 e2
    exact congrArg Prod.fst (getF_congr (e2.trans e1))
end Go.Proofs.Ytmbclhjhmghapaa
