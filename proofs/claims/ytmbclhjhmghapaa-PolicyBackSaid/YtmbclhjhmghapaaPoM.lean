/- legatelaw12: plain laws of hops. -/
import Derived.Test.YtmbclhjhmghapaaPoG
namespace Go.Proofs.Ytmbclhjhmghapaa
open Go.RowKit Go.Maps Go.WideMaps

theorem setF_code (l : List ByteArray) (x : ByteArray) (on : Bool) : (setF l x on).2 = 0 ∨ ((setF l x on).2 = 53 ∧ (setF l x on).1 = l) := by
  cases hc : Lib.containsS l x <;> cases on
  · exact .inl (by simp [setF, hc])
  · by_cases h50 : 50 ≤ l.length
    · exact .inr (by simp [setF, hc, h50])
    · exact .inl (by simp [setF, hc, h50])
  · exact .inl (by simp [setF, hc])
  · exact .inl (by simp [setF, hc])
theorem mem_setF {l : List ByteArray} {x : ByteArray} {on : Bool} (hn : l.Nodup) (h0 : (setF l x on).2 = 0) (y : ByteArray) : y ∈ (setF l x on).1 ↔ if y = x then on = true else y ∈ l := by
  cases hc : Lib.containsS l x
  · have hm : x ∉ l := fun hm => by rw [(Lib.containsS_iff l x).2 hm] at hc; cases hc
    cases on
    · simp only [setF, hc, Bool.false_eq_true, if_false]
      by_cases hy : y = x
      · rw [if_pos hy, hy]
        exact ⟨fun h => (hm h).elim, fun h => h.elim⟩
      · rw [if_neg hy]
    · by_cases h50 : 50 ≤ l.length
      · simp [setF, hc, h50] at h0
      · simp only [setF, hc, h50, if_true, Bool.false_eq_true, if_false]
        by_cases hy : y = x
        · simp [hy]
        · simp [hy]
  · have hm : x ∈ l := (Lib.containsS_iff l x).1 hc
    cases on
    · simp only [setF, hc, if_true, Bool.false_eq_true, if_false]
      obtain ⟨i, h1, h2, h3, h4⟩ := idx_hit hm
      have hi : (Lib.idxOfS l x).toNat = i := by rw [h2]; simp
      rw [hi, List.mem_eraseIdx_iff_getElem?]
      have inj : ∀ j, l[j]? = some x → j = i := fun j hj => ((List.getElem?_inj h1 hn).1 (h3.trans hj.symm)).symm
      by_cases hy : y = x
      · rw [if_pos hy, hy]
        exact ⟨fun ⟨j, hj, e⟩ => hj (inj j e), fun h => h.elim⟩
      · rw [if_neg hy]
        constructor
        · rintro ⟨j, _, e⟩
          exact List.mem_of_getElem? e
        · intro h
          obtain ⟨j, e⟩ := List.getElem?_of_mem h
          refine ⟨j, fun hj => hy ?_, e⟩
          rw [hj, h3] at e
          injection e with e
          exact e.symm
    · simp only [setF, hc, if_true]
      by_cases hy : y = x
      · simp [hy, hm]
      · simp [hy]
theorem contains_setF {l : List ByteArray} {x : ByteArray} {on : Bool} (hn : l.Nodup) (h0 : (setF l x on).2 = 0) (y : ByteArray) : Lib.containsS (setF l x on).1 y = if y = x then on else Lib.containsS l y := by
  have := mem_setF hn h0 y
  rw [← Lib.containsS_iff] at this
  by_cases hy : y = x
  · rw [if_pos hy] at this ⊢
    exact Bool.eq_iff_iff.2 this
  · rw [if_neg hy, ← Lib.containsS_iff] at this
    rw [if_neg hy]
    exact Bool.eq_iff_iff.2 this
/-- what was not there, set and taken back -/
theorem setF_back {l : List ByteArray} {x : ByteArray} (h : Lib.containsS l x = false) : (setF (setF l x true).1 x false).1 = l := by
  have hm : x ∉ l := fun hm => by rw [(Lib.containsS_iff l x).2 hm] at h; cases h
  by_cases h50 : 50 ≤ l.length
  · simp [setF, h, h50]
  · have e1 : (setF l x true).1 = l ++ [x] := by simp [setF, h, h50]
    have hc : Lib.containsS (l ++ [x]) x = true := (Lib.containsS_iff _ _).2 (by simp)
    obtain ⟨i, h1, h2, h3, h4⟩ := idx_hit (l := l ++ [x]) (x := x) (by simp)
    have hi : i = l.length := by
      by_cases hlt : i < l.length
      · rw [List.getElem?_append_left hlt] at h3
        exact absurd (List.mem_of_getElem? h3) hm
      · simp at h1
        omega
    rw [e1]
    simp only [setF, hc, Bool.false_eq_true, if_false, if_true]
    rw [h2, hi]
    simp [List.eraseIdx_append_of_length_le]
theorem setF_off (l : List ByteArray) (x : ByteArray) : (setF l x false).2 = 0 := by
  cases hc : Lib.containsS l x <;> simp [setF, hc]
theorem setF_on {l : List ByteArray} {x : ByteArray} (h : Lib.containsS l x = false) : Lib.containsS (setF l x true).1 x = ((setF l x true).2 == 0) := by
  by_cases h50 : 50 ≤ l.length
  · simp [setF, h, h50]
  · have hc : Lib.containsS (l ++ [x]) x = true := (Lib.containsS_iff _ _).2 (by simp)
    simp [setF, h, h50, hc]

/-! ### what is found, as a function -/
def View := ByteArray → Option Prin
theorem may_view {S S' : List Prin} (h : ∀ t, findP S' t = findP S t) (a b : ByteArray) : mayF S' a b = mayF S a b := by
  unfold mayF
  rw [h a, h b]
theorem find_hop {S : List Prin} {a b t : ByteArray} {f : Prin → Prin × Int} (hf : ∀ p, (f p).1.name = p.name) {p q : Prin} (ha : findP S a = some p) (hb : findP S b = some q) :
    findP (hopF S a b f).1 t = (if t = a then some (f p).1 else findP S t) ∧ (hopF S a b f).2 = (f p).2 := by
  rw [hopF_some hb]
  constructor
  · rw [find_with hf, ha]; rfl
  · rw [with_code, ha]
theorem hop_lost {S : List Prin} {a b : ByteArray} {f : Prin → Prin × Int} (h : findP S a = none ∨ findP S b = none) : hopF S a b f = (S, 40) := by
  cases hb : findP S b with
  | none => exact hopF_none hb
  | some q =>
    rcases h with h | h
    · rw [hopF_some hb, withF_none h]
    · rw [hb] at h; cases h

structure SetsOk (S S' : List Prin) (a b c d : ByteArray) (on : Bool) : Prop where
  z : (mayF S' a b).1 = on
  w : (mayF S' a b).2 = (mayF S a b).2
  n : (mayF S' c d).2 = (mayF S c d).2
  q : ({ (getF S' c).1 with allowed := [] } : Prin) = { (getF S c).1 with allowed := [] }
  m : (c = a ∧ d = b) ∨ (mayF S' c d).1 = (mayF S c d).1
theorem sets_law (S : List Prin) (hok : ∀ p ∈ S, OkP p) (a b c d : ByteArray) (on : Bool) :
    let r := hopF S a b (allowF b on)
    (r.2 = 0 ∧ SetsOk S r.1 a b c d on) ∨ ((r.2 = 40 ∨ r.2 = 53) ∧ ∀ t, findP r.1 t = findP S t) := by
  intro r
  cases ha : findP S a with
  | none =>
    have e : r = (S, 40) := hop_lost (.inl ha)
    rw [e]
    exact .inr ⟨.inl rfl, fun _ => rfl⟩
  | some p =>
    cases hb : findP S b with
    | none =>
      have e : r = (S, 40) := hop_lost (.inr hb)
      rw [e]
      exact .inr ⟨.inl rfl, fun _ => rfl⟩
    | some q =>
      have hv : ∀ t, findP r.1 t = (if t = a then some (allowF b on p).1 else findP S t) := fun t => (find_hop (t := t) (f := allowF b on) (fun _ => rfl) ha hb).1
      have hc : r.2 = (setF p.allowed b on).2 := (find_hop (t := a) (f := allowF b on) (fun _ => rfl) ha hb).2
      rcases setF_code p.allowed b on with h0 | ⟨h0, hs⟩
      · left
        have hn : p.allowed.Nodup := (hok p (List.mem_of_find?_eq_some ha)).na
        have hset := contains_setF hn h0
        refine ⟨hc.trans h0, ?_, ?_, ?_, ?_, ?_⟩
        · simp only [mayF, hv a, if_pos]
          show Lib.containsS (setF p.allowed b on).1 b = on
          rw [hset, if_pos rfl]
        · simp only [mayF, hv b]
          by_cases e : b = a
          · rw [if_pos e]
            subst e
            rw [ha]
            rfl
          · rw [if_neg e]
        · simp only [mayF, hv d]
          by_cases e : d = a
          · rw [if_pos e, e, ha]
            rfl
          · rw [if_neg e]
        · rw [getF_fst, getF_fst, hv c]
          by_cases e : c = a
          · rw [if_pos e, e, ha]
            rfl
          · rw [if_neg e]
        · by_cases e : c = a
          · by_cases e2 : d = b
            · exact .inl ⟨e, e2⟩
            · right
              simp only [mayF, hv c, if_pos e]
              rw [e, ha]
              show Lib.containsS (setF p.allowed b on).1 d = Lib.containsS p.allowed d
              rw [hset, if_neg e2]
          · right
            simp only [mayF, hv c, if_neg e]
      · right
        refine ⟨.inr (hc.trans h0), fun t => ?_⟩
        rw [hv t]
        by_cases e : t = a
        · rw [if_pos e, e, ha]
          show some ({ p with allowed := (setF p.allowed b on).1 } : Prin) = some p
          rw [hs]
        · rw [if_neg e]

structure BackOk (S S2 S4 : List Prin) (a b : ByteArray) (e f g h : Int) : Prop where
  u : (mayF S2 a b).1 = (e == 0)
  v : (mayF S2 a b).2 = (f == 0)
  g : e = 0 → g = 0
  h : f = 0 → h = 0
  all : ∀ t, findP S4 t = findP S t
theorem back_law (S : List Prin) (a b : ByteArray) (hm : mayF S a b = (false, false)) :
    let r1 := hopF S a b (allowF b true)
    let r2 := hopF r1.1 b a (actsF a true)
    let r3 := hopF r2.1 a b (allowF b false)
    let r4 := hopF r3.1 b a (actsF a false)
    BackOk S r2.1 r4.1 a b r1.2 r2.2 r3.2 r4.2 := by
  intro r1 r2 r3 r4
  by_cases hl : findP S a = none ∨ findP S b = none
  · have e1 : r1 = (S, 40) := hop_lost hl
    have e2 : r2 = (S, 40) := by show hopF r1.1 b a _ = _; rw [e1]; exact hop_lost hl.symm
    have e3 : r3 = (S, 40) := by show hopF r2.1 a b _ = _; rw [e2]; exact hop_lost hl
    have e4 : r4 = (S, 40) := by show hopF r3.1 b a _ = _; rw [e3]; exact hop_lost hl.symm
    rw [e1, e2, e3, e4]
    exact ⟨by rw [hm]; rfl, by rw [hm]; rfl, fun h => (by cases h), fun h => (by cases h), fun _ => rfl⟩
  · obtain ⟨p, ha⟩ : ∃ p, findP S a = some p := by
      cases h : findP S a with
      | none => exact absurd (.inl h) hl
      | some p => exact ⟨p, rfl⟩
    obtain ⟨q, hb⟩ : ∃ q, findP S b = some q := by
      cases h : findP S b with
      | none => exact absurd (.inr h) hl
      | some p => exact ⟨p, rfl⟩
    have ma : Lib.containsS p.allowed b = false := by
      have := congrArg Prod.fst hm
      simpa only [mayF, ha] using this
    have mb : Lib.containsS q.acts a = false := by
      have := congrArg Prod.snd hm
      simpa only [mayF, hb] using this
    have v1 : ∀ t, findP r1.1 t = (if t = a then some (allowF b true p).1 else findP S t) := fun t => (find_hop (t := t) (f := allowF b true) (fun _ => rfl) ha hb).1
    have c1 : r1.2 = (setF p.allowed b true).2 := (find_hop (t := a) (f := allowF b true) (fun _ => rfl) ha hb).2
    have ha1 : findP r1.1 a = some (allowF b true p).1 := by rw [v1, if_pos rfl]
    obtain ⟨q1, hb1, hq1⟩ : ∃ q1, findP r1.1 b = some q1 ∧ q1.acts = q.acts := by
      rw [v1 b]
      by_cases e : b = a
      · rw [if_pos e]
        subst e
        rw [ha] at hb
        injection hb with hb
        subst hb
        exact ⟨_, rfl, rfl⟩
      · rw [if_neg e]
        exact ⟨q, hb, rfl⟩
    have v2 : ∀ t, findP r2.1 t = (if t = b then some (actsF a true q1).1 else findP r1.1 t) := fun t => (find_hop (t := t) (f := actsF a true) (fun _ => rfl) hb1 ha1).1
    have c2 : r2.2 = (setF q.acts a true).2 := hq1 ▸ (find_hop (t := a) (f := actsF a true) (fun _ => rfl) hb1 ha1).2
    have hb2 : findP r2.1 b = some (actsF a true q1).1 := by rw [v2, if_pos rfl]
    obtain ⟨p2, ha2, hp2⟩ : ∃ p2, findP r2.1 a = some p2 ∧ p2.allowed = (setF p.allowed b true).1 := by
      rw [v2 a]
      by_cases e : a = b
      · rw [if_pos e]
        subst e
        rw [ha1] at hb1
        injection hb1 with hb1
        subst hb1
        exact ⟨_, rfl, rfl⟩
      · rw [if_neg e]
        exact ⟨_, ha1, rfl⟩
    have v3 : ∀ t, findP r3.1 t = (if t = a then some (allowF b false p2).1 else findP r2.1 t) := fun t => (find_hop (t := t) (f := allowF b false) (fun _ => rfl) ha2 hb2).1
    have c3 : r3.2 = 0 := (find_hop (t := a) (f := allowF b false) (fun _ => rfl) ha2 hb2).2.trans (setF_off _ _)
    have ha3 : findP r3.1 a = some (allowF b false p2).1 := by rw [v3, if_pos rfl]
    obtain ⟨q3, hb3⟩ : ∃ q3, findP r3.1 b = some q3 := by
      rw [v3 b]
      by_cases e : b = a
      · rw [if_pos e]
        exact ⟨_, rfl⟩
      · rw [if_neg e]
        exact ⟨_, hb2⟩
    have v4 : ∀ t, findP r4.1 t = (if t = b then some (actsF a false q3).1 else findP r3.1 t) := fun t => (find_hop (t := t) (f := actsF a false) (fun _ => rfl) hb3 ha3).1
    have c4 : r4.2 = 0 := (find_hop (t := a) (f := actsF a false) (fun _ => rfl) hb3 ha3).2.trans (setF_off _ _)
    refine ⟨?_, ?_, fun _ => c3, fun _ => c4, fun t => ?_⟩
    · simp only [mayF, ha2, hp2]
      rw [c1, setF_on ma]
    · simp only [mayF, hb2]
      show Lib.containsS (setF q1.acts a true).1 a = _
      rw [c2, hq1, setF_on mb]
    · have back1 : (setF (setF p.allowed b true).1 b false).1 = p.allowed := setF_back ma
      have back2 : (setF (setF q.acts a true).1 a false).1 = q.acts := setF_back mb
      rw [v4 t]
      by_cases eb : t = b
      · rw [if_pos eb]
        rw [v3 b] at hb3
        by_cases e : b = a
        · rw [if_pos e] at hb3
          subst e
          rw [ha] at hb; injection hb with hb; subst hb
          rw [ha1] at hb1; injection hb1 with hb1; subst hb1
          rw [hb2] at ha2; injection ha2 with ha2; subst ha2
          injection hb3 with hb3; subst hb3
          rw [eb, ha]
          have back2' : (setF (setF p.acts b true).1 b false).1 = p.acts := back2
          simp only [allowF, actsF, back1, back2']
        · rw [if_neg e, hb2] at hb3
          injection hb3 with hb3; subst hb3
          rw [v1 b, if_neg e, hb] at hb1
          injection hb1 with hb1; subst hb1
          rw [eb, hb]
          simp only [actsF, back2]
      · rw [if_neg eb, v3 t]
        by_cases ea : t = a
        · rw [if_pos ea, ea, ha]
          have e : a ≠ b := fun e => eb (ea.trans e)
          rw [v2 a, if_neg e, ha1] at ha2
          injection ha2 with ha2; subst ha2
          simp only [allowF, back1]
        · rw [if_neg ea, v2 t, if_neg eb, v1 t, if_neg ea]
end Go.Proofs.Ytmbclhjhmghapaa
