/- Package policy: Allow, Acts. -/
import Derived.Test.YtmbclhjhmghapaaPo7
import Derived.StillTailTactics
namespace Go.Proofs.Ytmbclhjhmghapaa
open Go.RowKit Go.Maps Go.WideMaps

theorem setF_ok {l : List ByteArray} (h : l.Nodup) (hl : l.length ≤ 50) (x : ByteArray) (on : Bool) : (setF l x on).1.Nodup ∧ (setF l x on).1.length ≤ 50 := by
  cases hc : Lib.containsS l x
  · have hm : x ∉ l := fun hm => by rw [(Lib.containsS_iff l x).2 hm] at hc; cases hc
    cases on
    · simpa [setF, hc] using ⟨h, hl⟩
    · by_cases h50 : 50 ≤ l.length
      · simpa [setF, hc, h50] using ⟨h, hl⟩
      · simp only [setF, hc, h50, if_true, Bool.false_eq_true, if_false]
        refine ⟨List.nodup_append.2 ⟨h, by simp, fun a ha b hb e => hm ?_⟩, by simp; omega⟩
        rw [List.mem_singleton.1 hb] at e
        exact e ▸ ha
  · cases on
    · simp only [setF, hc, if_true, Bool.false_eq_true, if_false]
      exact ⟨h.sublist (List.eraseIdx_sublist ..), Nat.le_trans (List.Sublist.length_le (List.eraseIdx_sublist ..)) hl⟩
    · simpa [setF, hc] using ⟨h, hl⟩

def allowF (x : ByteArray) (on : Bool) (p : Prin) : Prin × Int := ({ p with allowed := (setF p.allowed x on).1 }, (setF p.allowed x on).2)
def actsF (x : ByteArray) (on : Bool) (p : Prin) : Prin × Int := ({ p with acts := (setF p.acts x on).1 }, (setF p.acts x on).2)
def hopF (S : List Prin) (a b : ByteArray) (f : Prin → Prin × Int) : List Prin × Int := match findP S b with | some _ => withF S a f | none => (S, 40)
theorem hopF_none {S : List Prin} {a b : ByteArray} {f : Prin → Prin × Int} (h : findP S b = none) : hopF S a b f = (S, 40) := by rw [hopF, h]
theorem hopF_some {S : List Prin} {a b : ByteArray} {f : Prin → Prin × Int} {p : Prin} (h : findP S b = some p) : hopF S a b f = withF S a f := by rw [hopF, h]

section
variable {R : List Asn} {I0 F0 : Nat → Prop} {w0 w : World} {sb : Nat} {S : List Prin}

theorem allow1_any (b : Nat) (w : World) : Calls Try.prog 50 #[PtrTo b] w fun e w' => e = .returned (.pointer (some ⟨b, 4, none⟩)) ∧ w' = w := by
  go_enter Try.func50, Try.ntmps50
  go_wp2_with fail
  go_ret
  exact ⟨rfl, rfl⟩
set_option maxHeartbeats 1000000 in
set_option maxRecDepth 100000 in
theorem allow11_any {b bo bb bn : Nat} {p : Prin} {x : ByteArray} {on : Bool} {X : Asn} (hx : InS x) (h : Sta (prinA b p :: X :: .blk bo [.func (.func 50) #[] #[]] 100 :: .blk bb [.string x] 9 :: .blk bn [.bool on] 4 :: R) I0 F0 w0 w) :
    Calls Try.prog 73 #[PtrTo b, PtrTo bo, PtrTo bb, PtrTo bn] w fun e w' => e = .returned (.int .i64 (allowF x on p).2) ∧ Sta (prinA b (allowF x on p).1 :: X :: .blk bo [.func (.func 50) #[] #[]] 100 :: .blk bb [.string x] 9 :: .blk bn [.bool on] 4 :: R) I0 F0 w0 w' := by
  obtain ⟨va, vb, vg, h⟩ := h.openP
  have H := Lib.hid h.drew
  have OK := Lib.hid (Sta.okP h)
  have h6 : Sta (.blk bo [.func (.func 50) #[] #[]] 100 :: (prinX b p va vb vg ++ (X :: .blk bb [.string x] 9 :: .blk bn [.bool on] 4 :: R))) I0 F0 w0 w := Sta.f6 h
  have h7 : Sta (.blk bb [.string x] 9 :: (prinX b p va vb vg ++ (X :: .blk bo [.func (.func 50) #[] #[]] 100 :: .blk bn [.bool on] 4 :: R))) I0 F0 w0 w := Sta.f7 h
  have h8 : Sta (.blk bn [.bool on] 4 :: (prinX b p va vb vg ++ (X :: .blk bo [.func (.func 50) #[] #[]] 100 :: .blk bb [.string x] 9 :: R))) I0 F0 w0 w := Sta.f8 h
  have c0 := Sta.cell (b := bo) (cs := [.func (.func 50) #[] #[]]) h6 0 _ rfl
  have c1 := Sta.cell (b := bb) (cs := [.string x]) h7 0 _ rfl
  have c2 := Sta.cell (b := bn) (cs := [.bool on]) h8 0 _ rfl
  clear h h6 h7 h8
  go_enter Try.func73, Try.ntmps73
  go_wp2_with fail
  refine wp_region_still_tail 5 (by kernel_rfl) (by kernel_rfl) ?_
  simp only [List.take_succ_cons, List.take_zero, List.drop_succ_cons, List.drop_zero]
  change wpStill _ _ (World.drew w) _ _ _
  repeat still_step
  still_call (allow1_any b _)
  repeat still_step
  refine wpStill_nil ?_
  go_wp2_with fail
  refine (set_any (b := b) (j := 4) (cs := prinCells p va vb vg) (v := va) (l := p.allowed) H.out rfl OK.out.allowed x hx on).mono ?_
  rintro e w1 ⟨v1, rfl, h1⟩
  have H1 := Lib.hid h1
  clear h1 H c0 c1 c2
  go_wp2_with fail
  go_ret
  have o := OK.out
  have so := setF_ok o.na o.allowed x on
  exact ⟨rfl, Sta.reP (p := p) (p' := { p with allowed := (setF p.allowed x on).1 }) (va := v1) (vb := vb) (vg := vg) H1.out ⟨o.name, so.2, o.acts, o.groups, o.v1, o.v2, o.l1, o.l2, so.1, o.nb⟩⟩

/-- inside 'hop': the closure that looks for a -/
theorem allow10_any {bs ba bo bb bn : Nat} {a x : ByteArray} {on : Bool} (hx : InS x) (ha : InS a) (b0 : Value)
    (h : Sta (storeA sb S :: .blk bo [.func (.func 50) #[] #[]] 100 :: .blk bb [.string x] 9 :: .blk bn [.bool on] 4 :: .blk bs [PtrTo sb] 42 :: .blk ba [.string a] 9 :: R) I0 F0 w0 w) :
    Calls Try.prog 72 #[b0, PtrTo bs, PtrTo ba, PtrTo bo, PtrTo bb, PtrTo bn] w fun e w' => e = .returned (.int .i64 (withF S a (allowF x on)).2) ∧ Sta (storeA sb (withF S a (allowF x on)).1 :: .blk bo [.func (.func 50) #[] #[]] 100 :: .blk bb [.string x] 9 :: .blk bn [.bool on] 4 :: .blk bs [PtrTo sb] 42 :: .blk ba [.string a] 9 :: R) I0 F0 w0 w' := by
  have H := Lib.hid h
  have c0 := Sta.cell (b := bs) (cs := [PtrTo sb]) h.f4 0 _ rfl
  have c1 := Sta.cell (b := ba) (cs := [.string a]) h.f5 0 _ rfl
  clear h
  go_enter Try.func72, Try.ntmps72
  go_wp2_with fail
  refine (with_do H.out a ha 73 #[PtrTo bo, PtrTo bb, PtrTo bn] (allowF x on) (fun p => rfl) (fun args w => by kernel_rfl) (fun b p X _ h1 => allow11_any hx h1)).mono ?_
  rintro e w1 ⟨rfl, h1⟩
  have H1 := Lib.hid h1
  clear h1 H c0 c1
  go_wp2_with fail
  go_ret
  exact ⟨rfl, H1.out⟩

set_option maxHeartbeats 1000000 in
set_option maxRecDepth 100000 in
theorem allowhop_any (h : Sta (storeA sb S :: R) I0 F0 w0 w) (a x : ByteArray) (on : Bool) (ha : InS a) (hx : InS x) :
    Calls Try.prog 49 #[PtrTo sb, .string a, .string x, .bool on, .func (.func 50) #[] #[]] w fun e w' => e = .returned (.int .i64 (hopF S a x (allowF x on)).2) ∧ Sta (storeA sb (hopF S a x (allowF x on)).1 :: R) I0 F0 w0 w' := by
  have h1 := h.lay [PtrTo sb] 42
  have h2 := h1.lay [.string a] 9
  have h3 := h2.lay [.string x] 9
  have h4 := h3.lay [.bool on] 4
  have h5 := h4.lay [.func (.func 50) #[] #[]] 100
  simp only [World.size_alloc] at h5
  have H := Lib.hid (h5.f3.f4.f3.f4.f4.f5)
  clear h h1 h2 h3 h4 h5
  go_enter Try.func49, Try.ntmps49
  go_wp2_with fail
  cases hf : findP S x with
  | none =>
    have E := Lib.hid (hopF_none (a := a) (f := allowF x on) hf)
    refine (with_none H.out x hx hf _).mono ?_
    rintro e w1 ⟨rfl, rfl⟩
    clear hf
    go_wp2_with fail
    go_ret
    rw [E.out]
    exact ⟨rfl, H.out.f1.drop.f1.drop.f1.drop.f1.drop.f1.drop⟩
  | some p =>
    have E := Lib.hid (hopF_some (a := a) (f := allowF x on) hf)
    obtain ⟨b, S1, S2, e, e2, h3, hw⟩ := with_some H.out x hx hf
    clear hf e e2 h3
    refine (hw 72 #[PtrTo w.heap.size, PtrTo (w.heap.size + 1), PtrTo (w.heap.size + 1 + 1 + 1 + 1), PtrTo (w.heap.size + 1 + 1), PtrTo (w.heap.size + 1 + 1 + 1)] (fun e w' => e = .returned (.int .i64 (withF S a (allowF x on)).2) ∧ Sta (storeA sb (withF S a (allowF x on)).1 :: R) I0 F0 w0 w') (fun args w => by kernel_rfl) ((allow10_any hx ha (PtrTo b) H.out).mono ?_)).mono ?_
    · rintro e w1 ⟨rfl, h1⟩
      exact ⟨_, rfl, rfl, h1.f1.drop.f1.drop.f1.drop.f1.drop.f1.drop⟩
    · rintro e w1 ⟨rfl, h1⟩
      have H1 := Lib.hid h1
      clear h1 hw H
      go_wp2_with fail
      go_ret
      rw [E.out]
      exact ⟨rfl, H1.out⟩

theorem allow_any (h : Sta (storeA sb S :: R) I0 F0 w0 w) (a x : ByteArray) (on : Bool) (ha : InS a) (hx : InS x) :
    Calls Try.prog 31 #[PtrTo sb, .string a, .string x, .bool on] w fun e w' => e = .returned (.int .i64 (hopF S a x (allowF x on)).2) ∧ Sta (storeA sb (hopF S a x (allowF x on)).1 :: R) I0 F0 w0 w' := by
  have H := Lib.hid h
  clear h
  go_enter Try.func31, Try.ntmps31
  go_wp2_with fail
  refine (allowhop_any H.out a x on ha hx).mono ?_
  rintro e w1 ⟨rfl, h1⟩
  have H1 := Lib.hid h1
  clear h1 H
  go_wp2_with fail
  go_ret
  exact ⟨rfl, H1.out⟩
theorem acts1_any (b : Nat) (w : World) : Calls Try.prog 58 #[PtrTo b] w fun e w' => e = .returned (.pointer (some ⟨b, 5, none⟩)) ∧ w' = w := by
  go_enter Try.func58, Try.ntmps58
  go_wp2_with fail
  go_ret
  exact ⟨rfl, rfl⟩
set_option maxHeartbeats 1000000 in
set_option maxRecDepth 100000 in
theorem acts11_any {b bo bb bn : Nat} {p : Prin} {x : ByteArray} {on : Bool} {X : Asn} (hx : InS x) (h : Sta (prinA b p :: X :: .blk bo [.func (.func 58) #[] #[]] 100 :: .blk bb [.string x] 9 :: .blk bn [.bool on] 4 :: R) I0 F0 w0 w) :
    Calls Try.prog 73 #[PtrTo b, PtrTo bo, PtrTo bb, PtrTo bn] w fun e w' => e = .returned (.int .i64 (actsF x on p).2) ∧ Sta (prinA b (actsF x on p).1 :: X :: .blk bo [.func (.func 58) #[] #[]] 100 :: .blk bb [.string x] 9 :: .blk bn [.bool on] 4 :: R) I0 F0 w0 w' := by
  obtain ⟨va, vb, vg, h⟩ := h.openP
  have H := Lib.hid h.drew
  have OK := Lib.hid (Sta.okP h)
  have h6 : Sta (.blk bo [.func (.func 58) #[] #[]] 100 :: (prinX b p va vb vg ++ (X :: .blk bb [.string x] 9 :: .blk bn [.bool on] 4 :: R))) I0 F0 w0 w := Sta.f6 h
  have h7 : Sta (.blk bb [.string x] 9 :: (prinX b p va vb vg ++ (X :: .blk bo [.func (.func 58) #[] #[]] 100 :: .blk bn [.bool on] 4 :: R))) I0 F0 w0 w := Sta.f7 h
  have h8 : Sta (.blk bn [.bool on] 4 :: (prinX b p va vb vg ++ (X :: .blk bo [.func (.func 58) #[] #[]] 100 :: .blk bb [.string x] 9 :: R))) I0 F0 w0 w := Sta.f8 h
  have c0 := Sta.cell (b := bo) (cs := [.func (.func 58) #[] #[]]) h6 0 _ rfl
  have c1 := Sta.cell (b := bb) (cs := [.string x]) h7 0 _ rfl
  have c2 := Sta.cell (b := bn) (cs := [.bool on]) h8 0 _ rfl
  clear h h6 h7 h8
  go_enter Try.func73, Try.ntmps73
  go_wp2_with fail
  refine wp_region_still_tail 5 (by kernel_rfl) (by kernel_rfl) ?_
  simp only [List.take_succ_cons, List.take_zero, List.drop_succ_cons, List.drop_zero]
  change wpStill _ _ (World.drew w) _ _ _
  repeat still_step
  still_call (acts1_any b _)
  repeat still_step
  refine wpStill_nil ?_
  go_wp2_with fail
  refine (set_any (b := b) (j := 5) (cs := prinCells p va vb vg) (v := vb) (l := p.acts) H.out.f2.f1 rfl OK.out.acts x hx on).mono ?_
  rintro e w1 ⟨v1, rfl, h1⟩
  have H1 := Lib.hid h1
  clear h1 H c0 c1 c2
  go_wp2_with fail
  go_ret
  have o := OK.out
  have so := setF_ok o.nb o.acts x on
  exact ⟨rfl, Sta.reP (p := p) (p' := { p with acts := (setF p.acts x on).1 }) (va := va) (vb := v1) (vg := vg) H1.out.f1.f2.f2 ⟨o.name, o.allowed, so.2, o.groups, o.v1, o.v2, o.l1, o.l2, o.na, so.1⟩⟩

/-- inside 'hop': the closure that looks for a -/
theorem acts10_any {bs ba bo bb bn : Nat} {a x : ByteArray} {on : Bool} (hx : InS x) (ha : InS a) (b0 : Value)
    (h : Sta (storeA sb S :: .blk bo [.func (.func 58) #[] #[]] 100 :: .blk bb [.string x] 9 :: .blk bn [.bool on] 4 :: .blk bs [PtrTo sb] 42 :: .blk ba [.string a] 9 :: R) I0 F0 w0 w) :
    Calls Try.prog 72 #[b0, PtrTo bs, PtrTo ba, PtrTo bo, PtrTo bb, PtrTo bn] w fun e w' => e = .returned (.int .i64 (withF S a (actsF x on)).2) ∧ Sta (storeA sb (withF S a (actsF x on)).1 :: .blk bo [.func (.func 58) #[] #[]] 100 :: .blk bb [.string x] 9 :: .blk bn [.bool on] 4 :: .blk bs [PtrTo sb] 42 :: .blk ba [.string a] 9 :: R) I0 F0 w0 w' := by
  have H := Lib.hid h
  have c0 := Sta.cell (b := bs) (cs := [PtrTo sb]) h.f4 0 _ rfl
  have c1 := Sta.cell (b := ba) (cs := [.string a]) h.f5 0 _ rfl
  clear h
  go_enter Try.func72, Try.ntmps72
  go_wp2_with fail
  refine (with_do H.out a ha 73 #[PtrTo bo, PtrTo bb, PtrTo bn] (actsF x on) (fun p => rfl) (fun args w => by kernel_rfl) (fun b p X _ h1 => acts11_any hx h1)).mono ?_
  rintro e w1 ⟨rfl, h1⟩
  have H1 := Lib.hid h1
  clear h1 H c0 c1
  go_wp2_with fail
  go_ret
  exact ⟨rfl, H1.out⟩

set_option maxHeartbeats 1000000 in
set_option maxRecDepth 100000 in
theorem actshop_any (h : Sta (storeA sb S :: R) I0 F0 w0 w) (a x : ByteArray) (on : Bool) (ha : InS a) (hx : InS x) :
    Calls Try.prog 49 #[PtrTo sb, .string a, .string x, .bool on, .func (.func 58) #[] #[]] w fun e w' => e = .returned (.int .i64 (hopF S a x (actsF x on)).2) ∧ Sta (storeA sb (hopF S a x (actsF x on)).1 :: R) I0 F0 w0 w' := by
  have h1 := h.lay [PtrTo sb] 42
  have h2 := h1.lay [.string a] 9
  have h3 := h2.lay [.string x] 9
  have h4 := h3.lay [.bool on] 4
  have h5 := h4.lay [.func (.func 58) #[] #[]] 100
  simp only [World.size_alloc] at h5
  have H := Lib.hid (h5.f3.f4.f3.f4.f4.f5)
  clear h h1 h2 h3 h4 h5
  go_enter Try.func49, Try.ntmps49
  go_wp2_with fail
  cases hf : findP S x with
  | none =>
    have E := Lib.hid (hopF_none (a := a) (f := actsF x on) hf)
    refine (with_none H.out x hx hf _).mono ?_
    rintro e w1 ⟨rfl, rfl⟩
    clear hf
    go_wp2_with fail
    go_ret
    rw [E.out]
    exact ⟨rfl, H.out.f1.drop.f1.drop.f1.drop.f1.drop.f1.drop⟩
  | some p =>
    have E := Lib.hid (hopF_some (a := a) (f := actsF x on) hf)
    obtain ⟨b, S1, S2, e, e2, h3, hw⟩ := with_some H.out x hx hf
    clear hf e e2 h3
    refine (hw 72 #[PtrTo w.heap.size, PtrTo (w.heap.size + 1), PtrTo (w.heap.size + 1 + 1 + 1 + 1), PtrTo (w.heap.size + 1 + 1), PtrTo (w.heap.size + 1 + 1 + 1)] (fun e w' => e = .returned (.int .i64 (withF S a (actsF x on)).2) ∧ Sta (storeA sb (withF S a (actsF x on)).1 :: R) I0 F0 w0 w') (fun args w => by kernel_rfl) ((acts10_any hx ha (PtrTo b) H.out).mono ?_)).mono ?_
    · rintro e w1 ⟨rfl, h1⟩
      exact ⟨_, rfl, rfl, h1.f1.drop.f1.drop.f1.drop.f1.drop.f1.drop⟩
    · rintro e w1 ⟨rfl, h1⟩
      have H1 := Lib.hid h1
      clear h1 hw H
      go_wp2_with fail
      go_ret
      rw [E.out]
      exact ⟨rfl, H1.out⟩

theorem acts_any (h : Sta (storeA sb S :: R) I0 F0 w0 w) (a x : ByteArray) (on : Bool) (ha : InS a) (hx : InS x) :
    Calls Try.prog 38 #[PtrTo sb, .string a, .string x, .bool on] w fun e w' => e = .returned (.int .i64 (hopF S a x (actsF x on)).2) ∧ Sta (storeA sb (hopF S a x (actsF x on)).1 :: R) I0 F0 w0 w' := by
  have H := Lib.hid h
  clear h
  go_enter Try.func38, Try.ntmps38
  go_wp2_with fail
  refine (actshop_any H.out a x on ha hx).mono ?_
  rintro e w1 ⟨rfl, h1⟩
  have H1 := Lib.hid h1
  clear h1 H
  go_wp2_with fail
  go_ret
  exact ⟨rfl, H1.out⟩
end
end Go.Proofs.Ytmbclhjhmghapaa
