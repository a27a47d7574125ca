/- Package policy: principals in memory; Valid. -/
import Derived.Test.YtmbclhjhmghapaaPo1
namespace Go.Proofs.Ytmbclhjhmghapaa
open Go.RowKit Go.Maps Go.WideMaps

structure Prin where
  name : ByteArray
  ver : Int
  tr : Bool
  se : Bool
  allowed : List ByteArray
  acts : List ByteArray
  groups : List Int
  life : Int

/-- a principal, with what it is -/
def RPrin (I : Nat → Prop) (w : World) (cs : List Value) (p : Prin) : Prop :=
  ∃ va vb vg, cs = [.string p.name, .int .i64 p.ver, .bool p.tr, .bool p.se, va, vb, vg, .int .i64 p.life] ∧ InS p.name ∧ InI p.ver ∧ InI p.life ∧ RStrs I w va p.allowed ∧ RStrs I w vb p.acts ∧ RInts I w vg p.groups
theorem RPrin.frame {I I' : Nat → Prop} {w w' : World} {cs : List Value} {p : Prin} (h : RPrin I w cs p) (hw : ∀ b, I b → w'.heap[b]? = w.heap[b]?) (hI : ∀ b, I b → I' b) : RPrin I' w' cs p := by
  obtain ⟨va, vb, vg, e, h1, h2, h3, h4, h5, h6⟩ := h
  exact ⟨va, vb, vg, e, h1, h2, h3, h4.frame hw hI, h5.frame hw hI, h6.frame hw hI⟩
theorem RPrin.on {I : Nat → Prop} {w w' : World} {cs : List Value} {p : Prin} (h : RPrin I w cs p) (ho : Old I w) (hb : Below w.heap.size w w') : RPrin I w' cs p := h.frame (ho.same hb) fun _ h => h
def rprinA (cs : List Value) (p : Prin) : Asn := .pers (fun I w => RPrin I w cs p) fun h hw hI => h.frame hw hI

theorem cell_of {w : World} {b : Nat} {cs : Array Value} {T : TypeId} (h : w.heap[b]? = some (.cells cs T (0, 0))) (j : Nat) {v : Value} (hv : cs[j]? = some v) : w.cell? ⟨b, j, none⟩ = some v := by
  simp [World.cell?, h, hv]
theorem frozen_of {w : World} {b : Nat} {cs : Array Value} {T : TypeId} (h : w.heap[b]? = some (.cells cs T (0, 0))) (j : Nat) : w.frozen? ⟨b, j, none⟩ = false := by
  simp [World.frozen?, h]
theorem heap_on {w w' : World} {b : Nat} {o : Obj} (h : w.heap[b]? = some o) (hb : Below w.heap.size w w') : w'.heap[b]? = some o := (hb.block b (lt_of_block h)).trans h

def restB (p : Prin) : Bool := decide (1 ≤ p.ver) && decide (p.ver ≤ 1000) && decide (0 ≤ p.life) && decide (p.life ≤ 1099511627776) && decide (p.groups.length ≤ 20)
def validB (p : Prin) : Bool := nameB p.name && (namesB p.allowed && (namesB p.acts && restB p))
theorem rest_cases (p : Prin) : (decide (1 ≤ p.ver) = false ∧ restB p = false) ∨ (1 ≤ p.ver ∧ decide (p.ver ≤ 1000) = false ∧ restB p = false) ∨ (1 ≤ p.ver ∧ p.ver ≤ 1000 ∧ decide (0 ≤ p.life) = false ∧ restB p = false) ∨
    (1 ≤ p.ver ∧ p.ver ≤ 1000 ∧ 0 ≤ p.life ∧ decide (p.life ≤ 1099511627776) = false ∧ restB p = false) ∨ (1 ≤ p.ver ∧ p.ver ≤ 1000 ∧ 0 ≤ p.life ∧ p.life ≤ 1099511627776 ∧ restB p = decide (p.groups.length ≤ 20)) := by
  unfold restB
  by_cases h1 : 1 ≤ p.ver
  · by_cases h2 : p.ver ≤ 1000
    · by_cases h3 : 0 ≤ p.life
      · by_cases h4 : p.life ≤ 1099511627776
        · exact .inr (.inr (.inr (.inr ⟨h1, h2, h3, h4, by simp [h1, h2, h3, h4]⟩)))
        · exact .inr (.inr (.inr (.inl ⟨h1, h2, h3, by simp [h4], by simp [h4]⟩)))
      · exact .inr (.inr (.inl ⟨h1, h2, by simp [h3], by simp [h3]⟩))
    · exact .inr (.inl ⟨h1, by simp [h2], by simp [h2]⟩)
  · exact .inl ⟨by simp [h1], by simp [h1]⟩

set_option maxHeartbeats 1000000 in
set_option maxRecDepth 100000 in
theorem valid_any (I : Nat → Prop) (w : World) (cs : List Value) (p : Prin) (hI : Old I w) (h : RPrin I w cs p) :
    Calls Try.prog 44 #[.agg cs.toArray] w fun e w' => e = .returned (.bool (validB p)) ∧ Below w.heap.size w w' := by
  obtain ⟨va, vb, vg, rfl, h1, h2, h3, h4, h5, h6⟩ := h
  obtain ⟨ag, cg, rfl, _⟩ : ∃ a c, vg = .slice a p.groups.length c ∧ True := by
    obtain ⟨a, cap, f, e, _⟩ := h6
    exact ⟨a, cap, e, trivial⟩
  have H4 := Lib.hid h4
  have H5 := Lib.hid h5
  have HI := Lib.hid hI
  clear h4 h5 h6 hI
  go_enter Try.func44, Try.ntmps44
  go_wp2_with fail
  refine (name_any _ _ h1).mono ?_
  rintro e w' ⟨rfl, rfl⟩
  have A0 : Hid (Below w.heap.size w (w.alloc (.cells #[.string p.name, .int .i64 p.ver, .bool p.tr, .bool p.se, va, vb, .slice ag p.groups.length cg, .int .i64 p.life] 49))) := (Below.refl _ _).alloc (Nat.le_refl _) _
  have B0 : Hid ((w.alloc (.cells #[.string p.name, .int .i64 p.ver, .bool p.tr, .bool p.se, va, vb, .slice ag p.groups.length cg, .int .i64 p.life] 49)).heap[w.heap.size]? = some (.cells #[.string p.name, .int .i64 p.ver, .bool p.tr, .bool p.se, va, vb, .slice ag p.groups.length cg, .int .i64 p.life] 49 (0, 0))) := heap_laid _ _
  generalize w.alloc (.cells #[.string p.name, .int .i64 p.ver, .bool p.tr, .bool p.se, va, vb, .slice ag p.groups.length cg, .int .i64 p.life] 49) = wa at *
  cases hn : nameB p.name with
  | false =>
    have E : Hid (validB p = false) := by show _ = _; rw [validB, hn]; rfl
    clear hn
    go_wp2_with fail
    go_ret
    exact ⟨ret_bool E.out.symm, A0.out⟩
  | true =>
    have E : Hid (validB p = (namesB p.allowed && (namesB p.acts && restB p))) := by show _ = _; rw [validB, hn]; rfl
    clear hn
    have c4 := cell_of B0.out 4 rfl
    go_wp2_with fail
    refine (names_any I _ _ _ (HI.out.on A0.out) (H4.out.on HI.out A0.out)).mono ?_
    rintro e w1 ⟨rfl, hb⟩
    have A1 := Lib.hid (A0.out.trans (hb.mono A0.out.size))
    have B1 := Lib.hid (heap_on B0.out hb)
    clear hb c4
    cases hn : namesB p.allowed with
    | false =>
      have E : Hid (validB p = false) := by show _ = _; rw [E.out, hn]; rfl
      clear hn
      go_wp2_with fail
      go_ret
      exact ⟨ret_bool E.out.symm, A1.out⟩
    | true =>
      have E : Hid (validB p = (namesB p.acts && restB p)) := by show _ = _; rw [E.out, hn]; rfl
      clear hn
      have c5 := cell_of B1.out 5 rfl
      go_wp2_with fail
      refine (names_any I _ _ _ (HI.out.on A1.out) (H5.out.on HI.out A1.out)).mono ?_
      rintro e w2 ⟨rfl, hb⟩
      have A2 := Lib.hid (A1.out.trans (hb.mono A1.out.size))
      have B2 := Lib.hid (heap_on B1.out hb)
      clear hb c5
      cases hn : namesB p.acts with
      | false =>
        have E : Hid (validB p = false) := by show _ = _; rw [E.out, hn]; rfl
        clear hn
        go_wp2_with fail
        go_ret
        exact ⟨ret_bool E.out.symm, A2.out⟩
      | true =>
        have E : Hid (validB p = restB p) := by show _ = _; rw [E.out, hn]; rfl
        clear hn
        have c1 := cell_of B2.out 1 rfl
        have c6 := cell_of B2.out 6 rfl
        have c7 := cell_of B2.out 7 rfl
        rcases rest_cases p with ⟨t1, t⟩ | ⟨t1, t2, t⟩ | ⟨t1, t2, t3, t⟩ | ⟨t1, t2, t3, t4, t⟩ | ⟨t1, t2, t3, t4, t⟩
        all_goals
          rw [t] at E
          clear t
          go_wp2_with fail
          go_ret
          exact ⟨ret_bool (by rw [E.out]; try (rw [decide_eq_decide]; omega)), A2.out⟩
end Go.Proofs.Ytmbclhjhmghapaa
