/- Package policy: New, Get. -/
import Derived.Test.YtmbclhjhmghapaaPo4
import Derived.Test.YtmbclhjhmghapaaConv
namespace Go.Proofs.Ytmbclhjhmghapaa
open Go.RowKit Go.Maps Go.WideMaps

def zeroP : Prin := ⟨⟨#[]⟩, 0, false, false, [], [], [], 0⟩
def getF (S : List Prin) (s : ByteArray) : Prin × Int := match findP S s with | some p => (p, 0) | none => (zeroP, 40)
theorem getF_some {S : List Prin} {s : ByteArray} {p : Prin} (h : findP S s = some p) : getF S s = (p, 0) := by rw [getF, h]
theorem getF_none {S : List Prin} {s : ByteArray} (h : findP S s = none) : getF S s = (zeroP, 40) := by rw [getF, h]

section
variable {R : List Asn} {I0 F0 : Nat → Prop} {w0 w : World} {sb : Nat} {S : List Prin}

theorem newStore_any (h : Sta R I0 F0 w0 w) : Calls Try.prog 23 #[] w fun e w' => ∃ sb, e = .returned (PtrTo sb) ∧ Sta (storeA sb [] :: R) I0 F0 w0 w' := by
  have H := Lib.hid h
  clear h
  have hmm := @run_makeMap Try.prog
  go_enter Try.func23, Try.ntmps23
  go_wp2_with fail
  go_ret
  refine ⟨_, rfl, ?_⟩
  have h1 := H.out.layMap Try.prog 9
  have h2 := h1.lay [.map (some w.heap.size)] 88
  have e : (w.alloc (.map #[] 0)).heap.size = w.heap.size + 1 := by simp
  rw [e] at h2
  have h3 : Sta (starsP [] :: .blk (w.heap.size + 1) [.map (some w.heap.size)] 88 :: mapA Try.prog 9 w.heap.size [] :: R) I0 F0 w0 ((w.alloc (.map #[] 0)).alloc (.cells #[.map (some w.heap.size)] 88)) :=
    h2.imp fun I F ha => ⟨FNone, F, rfl, ha, Disj.none_left _, (FOr.none_left _).symm⟩
  exact Sta.shutStore (mb := w.heap.size) (zs := []) h3.f2.f2 rfl (by simp)

/-- a principal of a store, laid open -/
theorem Sta.openP {b : Nat} {p : Prin} (h : Sta (prinA b p :: R) I0 F0 w0 w) : ∃ va vb vg, Sta (prinX b p va vb vg ++ R) I0 F0 w0 w := by
  obtain ⟨va, h⟩ := h.unex
  obtain ⟨vb, h⟩ := h.unex
  obtain ⟨vg, h⟩ := h.unex
  exact ⟨va, vb, vg, h.unl⟩
theorem Sta.shutP {b : Nat} {p : Prin} {va vb vg : Value} (h : Sta (prinX b p va vb vg ++ R) I0 F0 w0 w) : Sta (prinA b p :: R) I0 F0 w0 w :=
  Sta.toex (P := fun va => .ex fun vb => .ex fun vg => .stars (prinX b p va vb vg)) va (Sta.toex (P := fun vb => .ex fun vg => .stars (prinX b p va vb vg)) vb (Sta.toex (P := fun vg => .stars (prinX b p va vb vg)) vg h.lun))
theorem Sta.okP {b : Nat} {p : Prin} {va vb vg : Value} (h : Sta (prinX b p va vb vg ++ R) I0 F0 w0 w) : OkP p :=
  Sta.pure (R := .blk b (prinCells p va vb vg) 49 :: strA va p.allowed :: strA vb p.acts :: intA vg p.groups :: R) h.f4

theorem Sta.strs {v : Value} {l : List ByteArray} (h : Sta (strA v l :: R) I0 F0 w0 w) (hl : l.length ≤ 17592186044416) : RStrs (There w) w v l := by
  obtain ⟨I, F, ⟨h1, _⟩, _⟩ := h.head
  exact (OwnSl.strs h1 hl).frame (fun _ _ => rfl) fun b hb => h1.lt b hb
theorem Sta.ints {v : Value} {l : List Int} (h : Sta (intA v l :: R) I0 F0 w0 w) (hl : l.length ≤ 17592186044416) : RInts (There w) w v l := by
  obtain ⟨I, F, ⟨h1, _⟩, _⟩ := h.head
  exact (OwnSl.ints h1 hl).frame (fun _ _ => rfl) fun b hb => h1.lt b hb
theorem Sta.rprin {b : Nat} {p : Prin} {va vb vg : Value} (h : Sta (prinX b p va vb vg ++ R) I0 F0 w0 w) : RPrin (There w) w (prinCells p va vb vg) p := by
  have ho := h.okP
  refine ⟨va, vb, vg, rfl, ho.name, ⟨?_, ?_⟩, ⟨?_, ?_⟩, Sta.strs (R := .blk b (prinCells p va vb vg) 49 :: strA vb p.acts :: intA vg p.groups :: .pure (OkP p) :: R) h.f1 (by have := ho.allowed; omega),
    Sta.strs (R := .blk b (prinCells p va vb vg) 49 :: strA va p.allowed :: intA vg p.groups :: .pure (OkP p) :: R) h.f2 (by have := ho.acts; omega), Sta.ints (R := .blk b (prinCells p va vb vg) 49 :: strA va p.allowed :: strA vb p.acts :: .pure (OkP p) :: R) h.f3 (by have := ho.groups; omega)⟩
  · have := ho.v1; omega
  · have := ho.v2; omega
  · have := ho.l1; omega
  · have := ho.l2; omega

theorem look_some {mb : Nat} {zs : List (Nat × Prin)} {s : ByteArray} {b : Nat} (hm : MapIs Try.prog 9 w mb (kvP zs)) (hl : lookA (kvP zs) (kOf s) = some (PtrTo b)) (hs : InS s) :
    (Instr.lookup 86 (.map (some mb)) (.string s) false).run Try.prog w = .ok (PtrTo b) w := by
  have := (hm.look Try.underlying9 Try.underlying86 (zeroPP w) (key_fits hs)).1
  rw [this, hl]; rfl
theorem look_none {mb : Nat} {zs : List (Nat × Prin)} {s : ByteArray} (hm : MapIs Try.prog 9 w mb (kvP zs)) (hl : lookA (kvP zs) (kOf s) = none) (hs : InS s) :
    (Instr.lookup 86 (.map (some mb)) (.string s) false).run Try.prog w = .ok (.pointer none) w := by
  have := (hm.look Try.underlying9 Try.underlying86 (zeroPP w) (key_fits hs)).1
  rw [this, hl]; rfl

def zeroCs : List Value := [.string ⟨#[]⟩, .int .i64 0, .bool false, .bool false, .slice none 0 0, .slice none 0 0, .slice none 0 0, .int .i64 0]
theorem zeroP_rep (I : Nat → Prop) (w : World) : RPrin I w zeroCs zeroP := ⟨_, _, _, rfl, by show _ ≤ _; decide, by constructor <;> decide, by constructor <;> decide, RSl.nil _ _ _ _, RSl.nil _ _ _ _, RSl.nil _ _ _ _⟩

def GetPost (R : List Asn) (I0 F0 : Nat → Prop) (w0 : World) (sb : Nat) (S : List Prin) (s : ByteArray) (e : Ending) (w' : World) : Prop :=
  ∃ cs, e = .returned (.tuple #[.agg cs.toArray, .int .i64 (getF S s).2]) ∧ Sta (rprinA cs (getF S s).1 :: storeA sb S :: R) I0 F0 w0 w'

set_option maxHeartbeats 1000000 in
set_option maxRecDepth 100000 in
theorem get_any (h : Sta (storeA sb S :: R) I0 F0 w0 w) (s : ByteArray) (hs : InS s) : Calls Try.prog 26 #[PtrTo sb, .string s] w (GetPost R I0 F0 w0 sb S s) := by
  have H := Lib.hid (h.lay zeroCs 49)
  clear h
  change Hid (Sta _ _ _ _ (w.alloc (.cells #[.string ⟨#[]⟩, .int .i64 0, .bool false, .bool false, .slice none 0 0, .slice none 0 0, .slice none 0 0, .int .i64 0] 49))) at H
  cases hf : findP S s with
  | none =>
    have E := Lib.hid (getF_none hf)
    obtain ⟨mb, zs, hc, hm, hl⟩ := H.out.f1.noneP hf
    have hlk := look_none hm hl hs
    clear hf hm hl
    have b0 := Sta.cell (b := w.heap.size) (cs := zeroCs) H.out 0 _ rfl
    go_enter Try.func26, Try.ntmps26
    go_wp2_with fail
    refine bodyPost_ret (v := .tuple #[.agg #[.string ⟨#[]⟩, .int .i64 0, .bool false, .bool false, .slice none 0 0, .slice none 0 0, .slice none 0 0, .int .i64 0], .int .i64 40]) (by simp [results, Try.results26, go_sem]) rfl ?_
    refine ⟨zeroCs, by rw [E.out]; rfl, ?_⟩
    rw [E.out]
    exact H.out.drop.topers fun I _ _ => zeroP_rep I _
  | some p =>
    have E := Lib.hid (getF_some hf)
    obtain ⟨b, S1, S2, e, hn, h, mb, zs, hc, hm, hl⟩ := H.out.f1.takeP hf
    have hlk := look_some hm hl hs
    clear hf hm hl
    obtain ⟨va, vb, vg, h⟩ := h.openP
    have HP := Lib.hid h
    have c0 := Sta.cell (b := b) (cs := prinCells p va vb vg) h 0 _ rfl
    have c1 := Sta.cell (b := b) (cs := prinCells p va vb vg) h 1 _ rfl
    have c2 := Sta.cell (b := b) (cs := prinCells p va vb vg) h 2 _ rfl
    have c3 := Sta.cell (b := b) (cs := prinCells p va vb vg) h 3 _ rfl
    have c4 := Sta.cell (b := b) (cs := prinCells p va vb vg) h 4 _ rfl
    have c5 := Sta.cell (b := b) (cs := prinCells p va vb vg) h 5 _ rfl
    have c6 := Sta.cell (b := b) (cs := prinCells p va vb vg) h 6 _ rfl
    have c7 := Sta.cell (b := b) (cs := prinCells p va vb vg) h 7 _ rfl
    clear h
    have HE := Lib.hid e
    have HN := Lib.hid hn
    clear e hn
    have HR := Lib.hid (Sta.rprin HP.out)
    have OK := Lib.hid (Sta.okP HP.out)
    go_enter Try.func26, Try.ntmps26
    go_wp2_with fail
    refine (copied_any _ _ _ p (There.old _) HR.out (Nat.le_trans OK.out.allowed (by decide)) (Nat.le_trans OK.out.acts (by decide)) (Nat.le_trans OK.out.groups (by decide))).mono ?_
    rintro e w1 ⟨xa, xb, xg, rfl, oa, ob, og, hnew, hd1, hd2, hb⟩
    obtain ⟨a1, y1, rfl⟩ := oa.shape
    obtain ⟨a2, y2, rfl⟩ := ob.shape
    obtain ⟨a3, y3, rfl⟩ := og.shape
    have G0 := Lib.hid ((Sta.shutP HP.out).putP (p' := p) rfl)
    have G1 : Hid (Sta (rprinA [.string p.name, .int .i64 p.ver, .bool p.tr, .bool p.se, .slice a1 p.allowed.length y1, .slice a2 p.acts.length y2, .slice a3 p.groups.length y3, .int .i64 p.life] p :: storeA sb S :: .blk w.heap.size zeroCs 49 :: R) I0 F0 w0 w1) := by
      have g := G0.out
      rw [← HE.out] at g
      refine g.gain hb fun I hI hn => ?_
      have o := OK.out
      refine ⟨_, _, _, rfl, o.name, ⟨by have := o.v1; omega, by have := o.v2; omega⟩, ⟨by have := o.l1; omega, by have := o.l2; omega⟩, ?_, ?_, ?_⟩
      · exact (OwnSl.strs oa (Nat.le_trans o.allowed (by decide))).frame (fun _ _ => rfl) fun k hk => hn k (hnew k (.inl hk)) (oa.lt k hk)
      · exact (OwnSl.strs ob (Nat.le_trans o.acts (by decide))).frame (fun _ _ => rfl) fun k hk => hn k (hnew k (.inr (.inl hk))) (ob.lt k hk)
      · exact (OwnSl.ints og (Nat.le_trans o.groups (by decide))).frame (fun _ _ => rfl) fun k hk => hn k (hnew k (.inr (.inr hk))) (og.lt k hk)
    have G2 := Lib.hid G1.out.f2
    clear oa ob og hnew hd1 hd2 hb c0 c1 c2 c3 c4 c5 c6 c7 hlk hc G0 G1 HP HR
    have c0 := Sta.cell (b := w.heap.size) (cs := zeroCs) G2.out 0 _ rfl
    have c1 := Sta.cell (b := w.heap.size) (cs := zeroCs) G2.out 1 _ rfl
    have c2 := Sta.cell (b := w.heap.size) (cs := zeroCs) G2.out 2 _ rfl
    have c3 := Sta.cell (b := w.heap.size) (cs := zeroCs) G2.out 3 _ rfl
    have c4 := Sta.cell (b := w.heap.size) (cs := zeroCs) G2.out 4 _ rfl
    have c5 := Sta.cell (b := w.heap.size) (cs := zeroCs) G2.out 5 _ rfl
    have c6 := Sta.cell (b := w.heap.size) (cs := zeroCs) G2.out 6 _ rfl
    have c7 := Sta.cell (b := w.heap.size) (cs := zeroCs) G2.out 7 _ rfl
    have g0 := Sta.frozen (b := w.heap.size) (cs := zeroCs) G2.out 0
    have g1 := Sta.frozen (b := w.heap.size) (cs := zeroCs) G2.out 1
    have g2 := Sta.frozen (b := w.heap.size) (cs := zeroCs) G2.out 2
    have g3 := Sta.frozen (b := w.heap.size) (cs := zeroCs) G2.out 3
    have g4 := Sta.frozen (b := w.heap.size) (cs := zeroCs) G2.out 4
    have g5 := Sta.frozen (b := w.heap.size) (cs := zeroCs) G2.out 5
    have g6 := Sta.frozen (b := w.heap.size) (cs := zeroCs) G2.out 6
    have g7 := Sta.frozen (b := w.heap.size) (cs := zeroCs) G2.out 7
    go_wp2_with fail
    refine bodyPost_ret (v := .tuple #[.agg #[.string p.name, .int .i64 p.ver, .bool p.tr, .bool p.se, .slice a1 p.allowed.length y1, .slice a2 p.acts.length y2, .slice a3 p.groups.length y3, .int .i64 p.life], .int .i64 0]) (by simp [results, Try.results26, go_sem, c0, c1, c2, c3, c4, c5, c6, c7]) rfl ?_
    refine ⟨[.string p.name, .int .i64 p.ver, .bool p.tr, .bool p.se, .slice a1 p.allowed.length y1, .slice a2 p.acts.length y2, .slice a3 p.groups.length y3, .int .i64 p.life], by rw [E.out], ?_⟩
    rw [E.out]
    exact ((((((((G2.out.set 0 _).set 1 _).set 2 _).set 3 _).set 4 _).set 5 _).set 6 _).set 7 _).drop
end
end Go.Proofs.Ytmbclhjhmghapaa
