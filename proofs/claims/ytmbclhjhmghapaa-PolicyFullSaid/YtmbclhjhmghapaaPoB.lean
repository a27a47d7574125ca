/- legateref12: SameRow, Same. -/
import Derived.Test.YtmbclhjhmghapaaPoA
import Derived.Test.YtmbclhjhmghapaaRr1
namespace Go.Proofs.Ytmbclhjhmghapaa
open Go.RowKit Go.Maps Go.WideMaps

open Classical in
noncomputable def eqB {α : Type} (a b : α) : Bool := decide (a = b)
open Classical in
theorem eqB_true {α : Type} {a b : α} (h : a = b) : eqB a b = true := by unfold eqB; exact decide_eq_true h
open Classical in
theorem eqB_false {α : Type} {a b : α} (h : a ≠ b) : eqB a b = false := by unfold eqB; exact decide_eq_false h
open Classical in
theorem eqB_iff {α : Type} {a b : α} : eqB a b = true ↔ a = b := by unfold eqB; exact decide_eq_true_iff

theorem str_self (s : ByteArray) : (s.toList == s.toList) = true := by simp

set_option maxHeartbeats 1000000 in
set_option maxRecDepth 100000 in
theorem samerow_any (I : Nat → Prop) (w : World) (va vb : Value) (la lb : List ByteArray) (hI : Old I w) (ha : RStrs I w va la) (hb : RStrs I w vb lb) :
    Calls Try.prog 51 #[va, vb] w fun e w' => e = .returned (.bool (eqB la lb)) ∧ Below w.heap.size w w' := by
  obtain ⟨a, ca, rfl, h1⟩ := ha.form
  obtain ⟨b, cb, rfl, h2⟩ := hb.form
  have HA := Lib.hid ha
  have HB := Lib.hid hb
  have HI := Lib.hid hI
  clear ha hb hI
  by_cases hl : la.length = lb.length
  · have d0 : (((la.length : Int)) != (lb.length : Int)) = false := by simp [hl]
    have HL := Lib.hid hl
    clear hl
    go_enter Try.func51, Try.ntmps51
    go_wp2_with fail
    go_loopw [5] (fun i wr => ∃ k : Nat, k ≤ la.length ∧ i = .int .i64 k ∧ Hid (la.take k = lb.take k) ∧ Hid (Below w.heap.size w wr)) (fun i _ => la.length - (intOf i).toNat)
    case atStart => exact ⟨0, Nat.zero_le _, rfl, by show _ = _; simp, Below.refl _ _⟩
    case round =>
      obtain ⟨k, hk1, rfl, ht, hbl⟩ := hrel
      by_cases hk : k < la.length
      · have hk2 : k < lb.length := by have := HL.out; omega
        obtain ⟨b1, o1, rfl, _, _, c1⟩ := (HA.out.on HI.out hbl.out).at k hk
        obtain ⟨b2, o2, rfl, _, _, c2⟩ := (HB.out.on HI.out hbl.out).at k hk2
        have BD := Lib.hid (hbl.out.drew)
        by_cases he : la[k] = lb[k]
        · have e1 : (la[k].toList == lb[k].toList) = true := by rw [he]; simp
          have e2 : (la[k].toList != lb[k].toList) = false := by rw [bne, e1]; rfl
          have HE := Lib.hid he
          clear he
          go_wp2_with fail
          go_region
          go_wp2_with fail
          go_roundw
          case rel =>
            refine ⟨k + 1, by omega, by go_num, ?_, BD.out⟩
            show _ = _
            rw [List.take_succ_eq_append_getElem hk, List.take_succ_eq_append_getElem hk2, ht.out, HE.out]
          case measure => simp [intOf]; omega
        · have e1 : (la[k].toList == lb[k].toList) = false := str_ne he
          have e2 : (la[k].toList != lb[k].toList) = true := by rw [bne, e1]; rfl
          have E : Hid (eqB la lb = false) := eqB_false fun e => he (by simp [e])
          clear he
          go_wp2_with fail
          go_region
          go_wp2_with fail
          go_ret
          exact ⟨ret_bool E.out.symm, BD.out⟩
      · have E : Hid (eqB la lb = true) := by
          refine eqB_true ?_
          have := ht.out
          rw [List.take_of_length_le (by omega), List.take_of_length_le (by have := HL.out; omega)] at this
          exact this
        go_wp2_with fail
        go_ret
        exact ⟨ret_bool E.out.symm, hbl.out⟩
  · have d0 : (((la.length : Int)) != (lb.length : Int)) = true := by rw [bne_iff_ne]; omega
    have E : Hid (eqB la lb = false) := eqB_false fun e => hl (by rw [e])
    clear hl
    go_enter Try.func51, Try.ntmps51
    go_wp2_with fail
    go_ret
    exact ⟨ret_bool E.out.symm, Below.refl _ _⟩

theorem RInts.form {I : Nat → Prop} {w : World} {v : Value} {l : List Int} (h : RInts I w v l) : ∃ a cap, v = .slice a l.length cap ∧ l.length ≤ 17592186044416 := by
  obtain ⟨a, cap, f, e, hs, hr⟩ := h
  exact ⟨a, cap, e, hs.max⟩
theorem RInts.at {I : Nat → Prop} {w : World} {a : Option Addr} {n cap : Nat} {l : List Int} (h : RInts I w (.slice a n cap) l) (i : Nat) (hi : i < l.length) :
    ∃ b o, a = some ⟨b, o, none⟩ ∧ I b ∧ InI l[i] ∧ w.cell? ⟨b, o + i, none⟩ = some (.int .i64 l[i]) := by
  obtain ⟨b, o, rfl, hb, hc⟩ := h.pos (by omega)
  obtain ⟨a', cap', f, e, hs, hr⟩ := h
  refine ⟨b, o, rfl, hb, (hr i hi).2, ?_⟩
  rw [hc i hi, List.getD_eq_getElem?_getD, List.getElem?_eq_getElem hi]
  rfl

/-- what is compared behind the lists -/
noncomputable def tailB (p q : Prin) : Bool := eqB p.name q.name && (eqB p.ver q.ver && (eqB p.tr q.tr && (eqB p.se q.se && eqB p.life q.life)))
theorem prin_eq {p q : Prin} (h1 : p.allowed = q.allowed) (h2 : p.acts = q.acts) (h3 : p.groups = q.groups) : eqB p q = tailB p q := by
  rw [Bool.eq_iff_iff, eqB_iff]
  unfold tailB
  simp only [Bool.and_eq_true, eqB_iff]
  constructor
  · rintro rfl
    exact ⟨rfl, rfl, rfl, rfl, rfl⟩
  · rintro ⟨h4, h5, h6, h7, h8⟩
    cases p; cases q
    simp_all

theorem tail_cases (p q : Prin) : ((p.name.toList == q.name.toList) = false ∧ tailB p q = false) ∨ ((p.name.toList == q.name.toList) = true ∧ (p.ver == q.ver) = false ∧ tailB p q = false) ∨ ((p.name.toList == q.name.toList) = true ∧ (p.ver == q.ver) = true ∧ (p.tr == q.tr) = false ∧ tailB p q = false) ∨
    ((p.name.toList == q.name.toList) = true ∧ (p.ver == q.ver) = true ∧ (p.tr == q.tr) = true ∧ (p.se == q.se) = false ∧ tailB p q = false) ∨ ((p.name.toList == q.name.toList) = true ∧ (p.ver == q.ver) = true ∧ (p.tr == q.tr) = true ∧ (p.se == q.se) = true ∧ (p.life == q.life) = false ∧ tailB p q = false) ∨
    ((p.name.toList == q.name.toList) = true ∧ (p.ver == q.ver) = true ∧ (p.tr == q.tr) = true ∧ (p.se == q.se) = true ∧ (p.life == q.life) = true ∧ tailB p q = true) := by
  have ha : (p.name.toList == q.name.toList) = eqB p.name q.name := by
    by_cases h : p.name = q.name
    · rw [eqB_true h, h]; simp
    · rw [eqB_false h, str_ne h]
  have hb : ∀ a b : Int, (a == b) = eqB a b := fun a b => by
    by_cases h : a = b
    · rw [eqB_true h, h]; simp
    · rw [eqB_false h]; simpa using h
  have hc : ∀ a b : Bool, (a == b) = eqB a b := fun a b => by
    by_cases h : a = b
    · rw [eqB_true h, h]; simp
    · rw [eqB_false h]; simpa using h
  rw [ha, hb, hb, hc, hc]
  unfold tailB
  cases eqB p.name q.name <;> cases eqB p.ver q.ver <;> cases eqB p.tr q.tr <;> cases eqB p.se q.se <;> cases eqB p.life q.life <;> simp

set_option maxHeartbeats 2000000 in
set_option maxRecDepth 100000 in
theorem sameprin_any (I : Nat → Prop) (w : World) (cp cq : List Value) (p q : Prin) (hI : Old I w) (hp : RPrin I w cp p) (hq : RPrin I w cq q) :
    Calls Try.prog 32 #[.agg cp.toArray, .agg cq.toArray] w fun e w' => e = .returned (.bool (eqB p q)) ∧ Below w.heap.size w w' := by
  obtain ⟨va, vb, vg, rfl, _, _, _, h4, h5, h6⟩ := hp
  obtain ⟨ua, ub, ug, rfl, _, _, _, g4, g5, g6⟩ := hq
  obtain ⟨ag, cg, rfl, hlg⟩ := h6.form
  obtain ⟨bg, dg, rfl, _⟩ := g6.form
  have H4 := Lib.hid h4
  have H5 := Lib.hid h5
  have H6 := Lib.hid h6
  have G4 := Lib.hid g4
  have G5 := Lib.hid g5
  have G6 := Lib.hid g6
  have HI := Lib.hid hI
  have T := Lib.hid (tail_cases p q)
  clear h4 h5 h6 g4 g5 g6 hI
  go_enter Try.func32, Try.ntmps32
  go_wp2_with fail
  have A0 : Hid (Below w.heap.size w ((w.alloc (.cells #[.string p.name, .int .i64 p.ver, .bool p.tr, .bool p.se, va, vb, .slice ag p.groups.length cg, .int .i64 p.life] 49)).alloc (.cells #[.string q.name, .int .i64 q.ver, .bool q.tr, .bool q.se, ua, ub, .slice bg q.groups.length dg, .int .i64 q.life] 49))) := ((Below.refl _ _).alloc (Nat.le_refl _) _).alloc (by simp) _
  have B0 : Hid (((w.alloc (.cells #[.string p.name, .int .i64 p.ver, .bool p.tr, .bool p.se, va, vb, .slice ag p.groups.length cg, .int .i64 p.life] 49)).alloc (.cells #[.string q.name, .int .i64 q.ver, .bool q.tr, .bool q.se, ua, ub, .slice bg q.groups.length dg, .int .i64 q.life] 49)).heap[w.heap.size]? = some (.cells #[.string p.name, .int .i64 p.ver, .bool p.tr, .bool p.se, va, vb, .slice ag p.groups.length cg, .int .i64 p.life] 49 (0, 0))) := (Below.heap_alloc _ _ _ (by simp)).trans (heap_laid _ _)
  have C0 : Hid (((w.alloc (.cells #[.string p.name, .int .i64 p.ver, .bool p.tr, .bool p.se, va, vb, .slice ag p.groups.length cg, .int .i64 p.life] 49)).alloc (.cells #[.string q.name, .int .i64 q.ver, .bool q.tr, .bool q.se, ua, ub, .slice bg q.groups.length dg, .int .i64 q.life] 49)).heap[w.heap.size + 1]? = some (.cells #[.string q.name, .int .i64 q.ver, .bool q.tr, .bool q.se, ua, ub, .slice bg q.groups.length dg, .int .i64 q.life] 49 (0, 0))) := heap_laid2 _ _ _
  refine (samerow_any I _ _ _ _ _ (HI.out.on A0.out) (H4.out.on HI.out A0.out) (G4.out.on HI.out A0.out)).mono ?_
  rintro e w1 ⟨rfl, hb⟩
  have A1 := Lib.hid (A0.out.trans (hb.mono A0.out.size))
  have B1 := Lib.hid (heap_on B0.out hb)
  have C1 := Lib.hid (heap_on C0.out hb)
  clear hb A0 B0 C0
  cases h1 : eqB p.allowed q.allowed with
  | false =>
    have E : Hid (eqB p q = false) := eqB_false fun e => by rw [e, eqB_true rfl] at h1; cases h1
    clear h1
    go_wp2_with fail
    go_ret
    exact ⟨ret_bool E.out.symm, A1.out⟩
  | true =>
    have E1 := Lib.hid (eqB_iff.1 h1)
    clear h1
    have c5 := cell_of B1.out 5 rfl
    have d5 := cell_of C1.out 5 rfl
    go_wp2_with fail
    refine (samerow_any I _ _ _ _ _ (HI.out.on A1.out) (H5.out.on HI.out A1.out) (G5.out.on HI.out A1.out)).mono ?_
    rintro e w2 ⟨rfl, hb⟩
    have A2 := Lib.hid (A1.out.trans (hb.mono A1.out.size))
    have B2 := Lib.hid (heap_on B1.out hb)
    have C2 := Lib.hid (heap_on C1.out hb)
    clear hb A1 B1 C1 c5 d5
    cases h2 : eqB p.acts q.acts with
    | false =>
      have E : Hid (eqB p q = false) := eqB_false fun e => by rw [e, eqB_true rfl] at h2; cases h2
      clear h2
      go_wp2_with fail
      go_ret
      exact ⟨ret_bool E.out.symm, A2.out⟩
    | true =>
      have E2 := Lib.hid (eqB_iff.1 h2)
      clear h2
      have c6 := cell_of B2.out 6 rfl
      have d6 := cell_of C2.out 6 rfl
      by_cases hl : p.groups.length = q.groups.length
      · have d0 : (((p.groups.length : Int)) != (q.groups.length : Int)) = false := by simp [hl]
        have HL := Lib.hid hl
        clear hl
        go_wp2_with fail
        clear c6 d6
        go_loopw [5] (fun i wr => ∃ k : Nat, k ≤ p.groups.length ∧ i = .int .i64 k ∧ Hid (p.groups.take k = q.groups.take k) ∧ Hid (Below w2.heap.size w2 wr)) (fun i _ => p.groups.length - (intOf i).toNat)
        case atStart => exact ⟨0, Nat.zero_le _, rfl, by show _ = _; simp, Below.refl _ _⟩
        case round =>
          obtain ⟨k, hk1, rfl, ht, hbl⟩ := hrel
          have A3 := Lib.hid (A2.out.trans (hbl.out.mono A2.out.size))
          have B3 := Lib.hid (heap_on B2.out hbl.out)
          have C3 := Lib.hid (heap_on C2.out hbl.out)
          by_cases hk : k < p.groups.length
          · have hk2 : k < q.groups.length := by have := HL.out; omega
            obtain ⟨b1, o1, rfl, _, _, c1⟩ := (H6.out.on HI.out A3.out).at k hk
            obtain ⟨b2, o2, rfl, _, _, c2⟩ := (G6.out.on HI.out A3.out).at k hk2
            have c6 := cell_of B3.out 6 rfl
            have d6 := cell_of C3.out 6 rfl
            have BD := Lib.hid (hbl.out.drew)
            by_cases he : p.groups[k] = q.groups[k]
            · have e2 : (p.groups[k] != q.groups[k]) = false := by rw [he]; simp
              have HE := Lib.hid he
              clear he
              go_wp2_with fail
              go_region
              go_wp2_with fail
              go_roundw
              case rel =>
                refine ⟨k + 1, by omega, by go_num, ?_, BD.out⟩
                show _ = _
                rw [List.take_succ_eq_append_getElem hk, List.take_succ_eq_append_getElem hk2, ht.out, HE.out]
              case measure => simp [intOf]; omega
            · have e2 : (p.groups[k] != q.groups[k]) = true := by rw [bne_iff_ne]; exact he
              have E : Hid (eqB p q = false) := eqB_false fun e => he (by simp [e])
              have A4 := Lib.hid A3.out.drew
              clear he
              go_wp2_with fail
              go_region
              go_wp2_with fail
              go_ret
              exact ⟨ret_bool E.out.symm, A4.out⟩
          · have E : Hid (eqB p q = tailB p q) := by
              refine prin_eq E1.out E2.out ?_
              have := ht.out
              rw [List.take_of_length_le (by omega), List.take_of_length_le (by have := HL.out; omega)] at this
              exact this
            have c0 := cell_of B3.out 0 rfl
            have d0 := cell_of C3.out 0 rfl
            have c1 := cell_of B3.out 1 rfl
            have d1 := cell_of C3.out 1 rfl
            have c2 := cell_of B3.out 2 rfl
            have d2 := cell_of C3.out 2 rfl
            have c3 := cell_of B3.out 3 rfl
            have d3 := cell_of C3.out 3 rfl
            have c6 := cell_of B3.out 6 rfl
            have d6 := cell_of C3.out 6 rfl
            have c7 := cell_of B3.out 7 rfl
            have d7 := cell_of C3.out 7 rfl
            rcases T.out with ⟨t1, t⟩ | ⟨t1, t2, t⟩ | ⟨t1, t2, t3, t⟩ | ⟨t1, t2, t3, t4, t⟩ | ⟨t1, t2, t3, t4, t5, t⟩ | ⟨t1, t2, t3, t4, t5, t⟩
            all_goals
              have TT := Lib.hid t
              clear t
              go_wp2_with fail
              go_ret
              exact ⟨ret_bool (by rw [E.out, TT.out]), A3.out⟩
      · have d0 : (((p.groups.length : Int)) != (q.groups.length : Int)) = true := by rw [bne_iff_ne]; omega
        have E : Hid (eqB p q = false) := eqB_false fun e => hl (by rw [e])
        clear hl
        go_wp2_with fail
        go_ret
        exact ⟨ret_bool E.out.symm, A2.out⟩
end Go.Proofs.Ytmbclhjhmghapaa
