/- legatelaw12: acts; over, done. -/
import Derived.Test.YtmbclhjhmghapaaPoB
namespace Go.Proofs.Ytmbclhjhmghapaa
open Go.RowKit Go.Maps Go.WideMaps

structure PAct where
  k : Int
  p : Prin
  a : ByteArray
  b : ByteArray
  on : Bool
def RPAct (I : Nat → Prop) (w : World) (cs : List Value) (x : PAct) : Prop :=
  ∃ cp, RPrin I w cp x.p ∧ cs = .int .i64 x.k :: (cp ++ [.string x.a, .string x.b, .bool x.on]) ∧ InI x.k ∧ InS x.a ∧ InS x.b
abbrev RPActs (I : Nat → Prop) (w : World) : Value → List PAct → Prop := RSl I w 12 (RPAct I w)
theorem RPAct.frame {I I' : Nat → Prop} {w w' : World} {cs : List Value} {x : PAct} (h : RPAct I w cs x) (hw : ∀ b, I b → w'.heap[b]? = w.heap[b]?) (hI : ∀ b, I b → I' b) : RPAct I' w' cs x := by
  obtain ⟨cp, h1, h2, h3⟩ := h
  exact ⟨cp, h1.frame hw hI, h2, h3⟩
def actA (cs : List Value) (x : PAct) : Asn := .pers (fun I w => RPAct I w cs x) fun h hw hI => h.frame hw hI
def actsA (v : Value) (l : List PAct) : Asn := .pers (fun I w => RPActs I w v l) fun h hw hI => RSl.frame h hw hI fun _ _ r => r.frame hw hI
theorem RPActs.on {I : Nat → Prop} {w w' : World} {v : Value} {l : List PAct} (h : RPActs I w v l) (ho : Old I w) (hb : Below w.heap.size w w') : RPActs I w' v l :=
  RSl.frame h (ho.same hb) (fun _ h => h) fun _ _ h => h.frame (ho.same hb) fun _ h => h
theorem RPActs.form {I : Nat → Prop} {w : World} {v : Value} {l : List PAct} (h : RPActs I w v l) : ∃ a cap, v = .slice a l.length cap ∧ l.length ≤ 17592186044416 := by
  obtain ⟨a', cap', f, e, hs, hr⟩ := h
  exact ⟨a', cap', e, hs.max⟩

def actCells (x : PAct) (va vb vg : Value) : List Value := .int .i64 x.k :: (prinCells x.p va vb vg ++ [.string x.a, .string x.b, .bool x.on])
/-- an act laid open -/
theorem RPActs.at {I : Nat → Prop} {w : World} {a : Option Addr} {n cap : Nat} {l : List PAct} (h : RPActs I w (.slice a n cap) l) (i : Nat) (hi : i < l.length) :
    ∃ b o va vb vg, a = some ⟨b, o, none⟩ ∧ I b ∧ RPAct I w (actCells l[i] va vb vg) l[i] ∧ RPrin I w (prinCells l[i].p va vb vg) l[i].p ∧ InS l[i].a ∧ InS l[i].b ∧ RowAt w b (o + i * 12) (actCells l[i] va vb vg) := by
  obtain ⟨a', cap', f, e, hs, hr⟩ := h
  injection e with e1 e2 e3
  subst e1; subst e2; subst e3
  obtain ⟨b, o, rfl, hb⟩ := hs.pos (by omega)
  have h1 := hr i hi
  obtain ⟨cp, h2, h3, h4, h5, h6⟩ := id h1
  obtain ⟨va, vb, vg, e, _⟩ := id h2
  subst e
  have hc := hs.cells hi
  rw [h3] at hc h1
  exact ⟨b, o, va, vb, vg, rfl, hb, h1, h2, h5, h6, hc⟩

theorem lenShape {I : Nat → Prop} {w : World} {cs : List Value} {p : Prin} {va vb vg : Value} (h : RPrin I w (prinCells p va vb vg) p) : (∃ a c, va = .slice a p.allowed.length c) ∧ (∃ a c, vb = .slice a p.acts.length c) ∧ ∃ a c, vg = .slice a p.groups.length c := by
  obtain ⟨_, _, _, e, _, _, _, h4, h5, h6⟩ := h
  unfold prinCells at e
  injection e with _ e; injection e with _ e; injection e with _ e; injection e with _ e; injection e with e1 e; injection e with e2 e; injection e with e3 e
  subst e1; subst e2; subst e3
  obtain ⟨a1, c1, f1, _⟩ := h4.form
  obtain ⟨a2, c2, f2, _⟩ := h5.form
  obtain ⟨a3, c3, f3, _⟩ := h6.form
  exact ⟨⟨a1, c1, f1⟩, ⟨a2, c2, f2⟩, ⟨a3, c3, f3⟩⟩

def OverPost (l : List PAct) (w : World) (e : Ending) (w' : World) : Prop := ∃ b : Bool, e = .returned (.bool b) ∧ (b = false → l.length ≤ 40) ∧ Below w.heap.size w w'
set_option maxHeartbeats 1000000 in
set_option maxRecDepth 100000 in
theorem pover_any (I : Nat → Prop) (w : World) (v : Value) (l : List PAct) (hI : Old I w) (h : RPActs I w v l) :
    Calls Try.prog 28 #[v] w (OverPost l w) := by
  obtain ⟨a, cap, rfl, hl⟩ := h.form
  have H := Lib.hid h
  have HI := Lib.hid hI
  clear h hI
  go_enter Try.func28, Try.ntmps28
  go_wp2_with fail
  go_loopw [3] (fun i wr => ∃ k : Nat, k ≤ l.length ∧ i = .int .i64 k ∧ Hid (Below w.heap.size w wr)) (fun i _ => l.length - (intOf i).toNat)
  case atStart => exact ⟨0, Nat.zero_le _, rfl, Below.refl _ _⟩
  case round =>
    obtain ⟨k, hk1, rfl, hbl⟩ := hrel
    by_cases h1 : k < l.length
    · obtain ⟨b, o, va, vb, vg, rfl, hb, _, hp, _, _, hr⟩ := (H.out.on HI.out hbl.out).at k h1
      obtain ⟨⟨a1, c1, rfl⟩, ⟨a2, c2, rfl⟩, ⟨a3, c3, rfl⟩⟩ := lenShape (cs := []) hp
      have r4 : wr.cell? ⟨b, o + k * 12 + 1 + 4, none⟩ = some (.slice a1 l[k].p.allowed.length c1) := hr 5 _ rfl
      have r5 : wr.cell? ⟨b, o + k * 12 + 1 + 5, none⟩ = some (.slice a2 l[k].p.acts.length c2) := hr 6 _ rfl
      have r6 : wr.cell? ⟨b, o + k * 12 + 1 + 6, none⟩ = some (.slice a3 l[k].p.groups.length c3) := hr 7 _ rfl
      clear hp hr
      by_cases t1 : 60 < l[k].p.allowed.length
      · go_wp2_with fail
        go_ret
        exact ⟨true, rfl, fun h => (by cases h), hbl.out⟩
      · have d1 : decide (60 < l[k].p.allowed.length) = false := by simp; omega
        by_cases t2 : 60 < l[k].p.acts.length
        · go_wp2_with fail
          go_ret
          exact ⟨true, rfl, fun h => (by cases h), hbl.out⟩
        · have d2 : decide (60 < l[k].p.acts.length) = false := by simp; omega
          by_cases t3 : 60 < l[k].p.groups.length
          · go_wp2_with fail
            go_ret
            exact ⟨true, rfl, fun h => (by cases h), hbl.out⟩
          · have d3 : decide (60 < l[k].p.groups.length) = false := by simp; omega
            go_wp2_with fail
            go_roundw
            case rel => exact ⟨k + 1, by omega, by go_num, hbl.out⟩
            case measure => simp [intOf]; omega
    · go_wp2_with fail
      go_ret
      exact ⟨_, rfl, fun h => (by simp at h; omega), hbl.out⟩

def doneF (S : List Prin) (x : PAct) : List Prin × Int :=
  if x.k.tmod 7 = 0 then addF S x.p else if x.k.tmod 7 = 1 then withF S x.a rekeyF else if x.k.tmod 7 = 2 then hopF S x.a x.b (allowF x.b x.on) else if x.k.tmod 7 = 3 then hopF S x.a x.b (actsF x.b x.on)
  else if x.k.tmod 7 = 4 then withF S x.a (trustF x.on) else if x.k.tmod 7 = 5 then withF S x.a (senseF x.on) else (S, (getF S x.a).2)

theorem mod_cases (m : Int) : (m == 0) = true ∨ ((m == 0) = false ∧ (m == 1) = true) ∨ ((m == 0) = false ∧ (m == 1) = false ∧ (m == 2) = true) ∨ ((m == 0) = false ∧ (m == 1) = false ∧ (m == 2) = false ∧ (m == 3) = true) ∨
    ((m == 0) = false ∧ (m == 1) = false ∧ (m == 2) = false ∧ (m == 3) = false ∧ (m == 4) = true) ∨ ((m == 0) = false ∧ (m == 1) = false ∧ (m == 2) = false ∧ (m == 3) = false ∧ (m == 4) = false ∧ (m == 5) = true) ∨
    ((m == 0) = false ∧ (m == 1) = false ∧ (m == 2) = false ∧ (m == 3) = false ∧ (m == 4) = false ∧ (m == 5) = false) := by
  cases m == 0 <;> cases m == 1 <;> cases m == 2 <;> cases m == 3 <;> cases m == 4 <;> cases m == 5 <;> simp

/-- a principal's shape out of its reading -/
theorem Sta.prinShape {R : List Asn} {I0 F0 : Nat → Prop} {w0 w : World} {cs : List Value} {p : Prin} (h : Sta (rprinA cs p :: R) I0 F0 w0 w) : ∃ a1 c1 a2 c2 a3 c3, cs = [.string p.name, .int .i64 p.ver, .bool p.tr, .bool p.se, .slice a1 p.allowed.length c1, .slice a2 p.acts.length c2, .slice a3 p.groups.length c3, .int .i64 p.life] := by
  obtain ⟨I, _, hr⟩ := Sta.pers h
  obtain ⟨va, vb, vg, e, _⟩ := id hr
  subst e
  obtain ⟨⟨a1, c1, rfl⟩, ⟨a2, c2, rfl⟩, ⟨a3, c3, rfl⟩⟩ := lenShape (cs := []) hr
  exact ⟨a1, c1, a2, c2, a3, c3, rfl⟩

section
variable {R : List Asn} {I0 F0 : Nat → Prop} {w0 w : World} {sb : Nat} {S : List Prin}

def DonePost (R : List Asn) (I0 F0 : Nat → Prop) (w0 : World) (sb : Nat) (S : List Prin) (cs : List Value) (x : PAct) (e : Ending) (w' : World) : Prop :=
  e = .returned (.int .i64 (doneF S x).2) ∧ Sta (actA cs x :: storeA sb (doneF S x).1 :: R) I0 F0 w0 w'

set_option maxHeartbeats 2000000 in
set_option maxRecDepth 100000 in
theorem done_any {cs : List Value} {x : PAct} (h : Sta (actA cs x :: storeA sb S :: R) I0 F0 w0 w) :
    Calls Try.prog 29 #[PtrTo sb, .agg cs.toArray] w (DonePost R I0 F0 w0 sb S cs x) := by
  obtain ⟨va, vb, vg, rfl, hk, ha, hb⟩ : ∃ va vb vg, cs = actCells x va vb vg ∧ InI x.k ∧ InS x.a ∧ InS x.b := by
    obtain ⟨I, _, cp, ⟨va, vb, vg, e, _⟩, e2, hk, ha, hb⟩ := Sta.pers h
    subst e
    exact ⟨va, vb, vg, e2, hk, ha, hb⟩
  have H := Lib.hid (h.lay (actCells x va vb vg) 58)
  clear h
  change Hid (Sta _ _ _ _ (w.alloc (.cells #[.int .i64 x.k, .string x.p.name, .int .i64 x.p.ver, .bool x.p.tr, .bool x.p.se, va, vb, vg, .int .i64 x.p.life, .string x.a, .string x.b, .bool x.on] 58))) at H
  change Calls Try.prog 29 #[PtrTo sb, .agg #[.int .i64 x.k, .string x.p.name, .int .i64 x.p.ver, .bool x.p.tr, .bool x.p.se, va, vb, vg, .int .i64 x.p.life, .string x.a, .string x.b, .bool x.on]] w _
  have HR : Hid (Sta (rprinA (prinCells x.p va vb vg) x.p :: storeA sb S :: actA (actCells x va vb vg) x :: .blk w.heap.size (actCells x va vb vg) 58 :: R) I0 F0 w0 (w.alloc (.cells #[.int .i64 x.k, .string x.p.name, .int .i64 x.p.ver, .bool x.p.tr, .bool x.p.se, va, vb, vg, .int .i64 x.p.life, .string x.a, .string x.b, .bool x.on] 58))) := by
    have h1 := Sta.frompers (ψ := fun I w => RPrin I w (prinCells x.p va vb vg) x.p) (hψ := fun h hw hI => h.frame hw hI) H.out.f1 (by
      rintro I _ ⟨cp, h1, h2, _⟩
      have : cp = prinCells x.p va vb vg := by
        obtain ⟨_, _, _, e, _⟩ := id h1
        subst e
        unfold actCells prinCells at h2
        injection h2 with _ h2
        injection h2 with _ h2; injection h2 with _ h2; injection h2 with _ h2; injection h2 with _ h2; injection h2 with e1 h2; injection h2 with e2 h2; injection h2 with e3 h2
        rw [e1, e2, e3]; rfl
      exact this ▸ h1)
    exact h1.f3.f1
  rcases mod_cases (x.k.tmod 7) with m0 | ⟨m0, m1⟩ | ⟨m0, m1, m2⟩ | ⟨m0, m1, m2, m3⟩ | ⟨m0, m1, m2, m3, m4⟩ | ⟨m0, m1, m2, m3, m4, m5⟩ | ⟨m0, m1, m2, m3, m4, m5⟩
  · have E : Hid (doneF S x = addF S x.p) := by show _ = _; simp [doneF, beq_iff_eq.1 m0]
    go_enter Try.func29, Try.ntmps29
    go_wp2_with fail
    refine (add_any (cs := prinCells x.p va vb vg) HR.out).mono ?_
    rintro e w1 ⟨rfl, h1⟩
    have H1 := Lib.hid h1
    clear h1 H HR
    go_wp2_with fail
    go_ret
    rw [DonePost, E.out]
    exact ⟨rfl, H1.out.drop.f2.drop.f1⟩
  · have E : Hid (doneF S x = withF S x.a rekeyF) := by show _ = _; have := beq_iff_eq.1 m1; simp [doneF, this]
    clear HR
    go_enter Try.func29, Try.ntmps29
    go_wp2_with fail
    refine (rekey_any H.out.f2 x.a ha).mono ?_
    rintro e w1 ⟨rfl, h1⟩
    have H1 := Lib.hid h1
    clear h1 H
    go_wp2_with fail
    go_ret
    rw [DonePost, E.out]
    exact ⟨rfl, H1.out.f1.drop.f1⟩
  · have E : Hid (doneF S x = hopF S x.a x.b (allowF x.b x.on)) := by show _ = _; have := beq_iff_eq.1 m2; simp [doneF, this]
    clear HR
    go_enter Try.func29, Try.ntmps29
    go_wp2_with fail
    refine (allow_any H.out.f2 x.a x.b x.on ha hb).mono ?_
    rintro e w1 ⟨rfl, h1⟩
    have H1 := Lib.hid h1
    clear h1 H
    go_wp2_with fail
    go_ret
    rw [DonePost, E.out]
    exact ⟨rfl, H1.out.f1.drop.f1⟩
  · have E : Hid (doneF S x = hopF S x.a x.b (actsF x.b x.on)) := by show _ = _; have := beq_iff_eq.1 m3; simp [doneF, this]
    clear HR
    go_enter Try.func29, Try.ntmps29
    go_wp2_with fail
    refine (acts_any H.out.f2 x.a x.b x.on ha hb).mono ?_
    rintro e w1 ⟨rfl, h1⟩
    have H1 := Lib.hid h1
    clear h1 H
    go_wp2_with fail
    go_ret
    rw [DonePost, E.out]
    exact ⟨rfl, H1.out.f1.drop.f1⟩
  · have E : Hid (doneF S x = withF S x.a (trustF x.on)) := by show _ = _; have := beq_iff_eq.1 m4; simp [doneF, this]
    clear HR
    go_enter Try.func29, Try.ntmps29
    go_wp2_with fail
    refine (trust_any H.out.f2 x.a ha x.on).mono ?_
    rintro e w1 ⟨rfl, h1⟩
    have H1 := Lib.hid h1
    clear h1 H
    go_wp2_with fail
    go_ret
    rw [DonePost, E.out]
    exact ⟨rfl, H1.out.f1.drop.f1⟩
  · have E : Hid (doneF S x = withF S x.a (senseF x.on)) := by show _ = _; have := beq_iff_eq.1 m5; simp [doneF, this]
    clear HR
    go_enter Try.func29, Try.ntmps29
    go_wp2_with fail
    refine (sense_any H.out.f2 x.a ha x.on).mono ?_
    rintro e w1 ⟨rfl, h1⟩
    have H1 := Lib.hid h1
    clear h1 H
    go_wp2_with fail
    go_ret
    rw [DonePost, E.out]
    exact ⟨rfl, H1.out.f1.drop.f1⟩
  · have E : Hid (doneF S x = (S, (getF S x.a).2)) := by show _ = _; simp only [beq_eq_false_iff_ne] at m0 m1 m2 m3 m4 m5; simp [doneF, m0, m1, m2, m3, m4, m5]
    clear HR
    go_enter Try.func29, Try.ntmps29
    go_wp2_with fail
    refine (get_any H.out.f2 x.a ha).mono ?_
    rintro e w1 ⟨cs, rfl, h1⟩
    obtain ⟨a1, c1, a2, c2, a3, c3, rfl⟩ := h1.prinShape
    have H1 := Lib.hid h1
    clear h1 H
    generalize (getF S x.a).1 = p0 at *
    generalize p0.allowed.length = n1 at *
    generalize p0.acts.length = n2 at *
    generalize p0.groups.length = n3 at *
    go_wp2_with fail
    go_ret
    rw [DonePost, E.out]
    exact ⟨rfl, (H1.out.alloc _).drop.f1.drop.f1⟩
end
end Go.Proofs.Ytmbclhjhmghapaa
