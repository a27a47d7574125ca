/- legatelaw12: PolicyFull, its plain law. -/
import Derived.Test.YtmbclhjhmghapaaPoG
import Derived.Test.YtmbclhjhmghapaaDg
namespace Go.Proofs.Ytmbclhjhmghapaa
open Go.RowKit Go.Maps Go.WideMaps Go.Sort

def pn (k : Nat) : ByteArray := ⟨#[112]⟩ ++ digS k
def valL (l : List UInt8) : Nat := l.foldl (fun a d => 10 * a + (d.toNat - 48)) 0
theorem pn_list (k : Nat) : (pn k).data.toList = 112 :: digL k := by
  show ((⟨#[112]⟩ : ByteArray) ++ digS k).data.toList = _
  rw [ByteArray.data_append]
  simp [digS]
theorem dig_all : (List.range 101).all (fun k => (112 :: digL k).all okB && (valL (digL k) == k && decide ((digL k).length ≤ 3))) = true := by decide +kernel
theorem dig_at {k : Nat} (h : k < 101) : (112 :: digL k).all okB = true ∧ valL (digL k) = k ∧ (digL k).length ≤ 3 := by
  have h0 : ((112 :: digL k).all okB && (valL (digL k) == k && decide ((digL k).length ≤ 3))) = true := List.all_eq_true.1 dig_all k (List.mem_range.2 h)
  obtain ⟨h1, h2⟩ := Bool.and_eq_true_iff.1 h0
  obtain ⟨h2, h3⟩ := Bool.and_eq_true_iff.1 h2
  exact ⟨h1, beq_iff_eq.1 h2, of_decide_eq_true h3⟩
theorem pn_size {k : Nat} (h : k < 101) : 1 ≤ (pn k).size ∧ (pn k).size ≤ 4 := by
  have e : (pn k).size = (pn k).data.toList.length := (Array.length_toList (xs := (pn k).data)).symm
  rw [e, pn_list]
  have := (dig_at h).2.2
  rw [List.length_cons]
  omega
theorem pn_in {k : Nat} (h : k < 101) : InS (pn k) := by
  have := pn_size h
  show (pn k).size ≤ _
  omega
theorem pn_name {k : Nat} (h : k < 101) : nameB (pn k) = true := by
  have := pn_size h
  unfold nameB
  rw [pn_list, (dig_at h).1, decide_eq_true this.1, decide_eq_true (show (pn k).size ≤ 40 by omega)]
  rfl
theorem pn_inj {j k : Nat} (hj : j < 101) (hk : k < 101) (e : pn j = pn k) : j = k := by
  have e2 : (112 : UInt8) :: digL j = 112 :: digL k := by rw [← pn_list, ← pn_list, e]
  injection e2 with _ e2
  rw [← (dig_at hj).2.1, ← (dig_at hk).2.1, e2]
def idx (odd i : Nat) : Nat := (i * 37 + odd) % 101
theorem idx_lt (odd i : Nat) : idx odd i < 101 := Nat.mod_lt _ (by decide)
theorem idx_inj {odd i j : Nat} (hi : i < 101) (hj : j < i) : idx odd j ≠ idx odd i := by
  unfold idx
  omega
def bareP (s : ByteArray) : Prin := ⟨s, 1, false, false, [], [], [], 0⟩
def full (odd m : Nat) : List Prin := (List.range m).map fun j => bareP (pn (idx odd j))
theorem full_len (odd m : Nat) : (full odd m).length = m := by simp [full]
theorem bare_valid {k : Nat} (h : k < 101) : validB (bareP (pn k)) = true := by
  unfold validB
  rw [show (bareP (pn k)).name = pn k from rfl, pn_name h]
  show (true && (namesB [] && (namesB [] && restB (bareP ⟨#[]⟩)))) = true
  decide +kernel
theorem full_none {odd i m : Nat} (hi : i < 101) (hm : m ≤ i) : findP (full odd m) (pn (idx odd i)) = none := by
  unfold findP
  rw [List.find?_eq_none]
  intro p hp
  obtain ⟨j, hj, rfl⟩ := List.mem_map.1 hp
  intro e
  exact idx_inj hi (Nat.lt_of_lt_of_le (List.mem_range.1 hj) hm) (pn_inj (idx_lt ..) (idx_lt ..) (kEq.1 e))
theorem full_add {odd i : Nat} (hi : i < 100) : addF (full odd i) (bareP (pn (idx odd i))) = (full odd (i + 1), 0) := by
  rw [addF_ok (bare_valid (idx_lt ..)) (full_none (by omega) (Nat.le_refl _)) (by rw [full_len]; omega)]
  unfold full
  rw [List.range_succ, List.map_append]
  rfl
theorem full_get {odd i : Nat} (hi : i < 100) : getF (full odd (i + 1)) (pn (idx odd i)) = (bareP (pn (idx odd i)), 0) := by
  apply getF_some
  have h : full odd (i + 1) = full odd i ++ [bareP (pn (idx odd i))] := by
    unfold full
    rw [List.range_succ, List.map_append]
    rfl
  rw [h]
  unfold findP
  rw [List.find?_append, show List.find? _ (full odd i) = none from full_none (by omega) (Nat.le_refl _)]
  simp [bareP]
theorem full_more {odd i : Nat} : (addF (full odd 100) (bareP (pn (idx odd i))) = (full odd 100, 41) ∧ ∃ p, getF (full odd 100) (pn (idx odd i)) = (p, 0)) ∨
    (addF (full odd 100) (bareP (pn (idx odd i))) = (full odd 100, 53) ∧ getF (full odd 100) (pn (idx odd i)) = (zeroP, 40)) := by
  cases h : findP (full odd 100) (pn (idx odd i)) with
  | some p => exact .inl ⟨addF_twice (bare_valid (idx_lt ..)) h, p, getF_some h⟩
  | none => exact .inr ⟨addF_full (bare_valid (idx_lt ..)) h (by rw [full_len]; omega), getF_none h⟩
theorem full_names (odd m : Nat) (hn : ((full odd m).map fun q => kOf q.name).Nodup) : (namesF (full odd m)).Pairwise fun a b => a.data.toList < b.data.toList := by
  unfold namesF
  rw [List.pairwise_map]
  have h1 : (((full odd m).map fun p => kOf p.name).mergeSort leB).Pairwise fun a b => leB a b = true := List.pairwise_mergeSort (fun a b c h1 h2 => by
      simp only [leB, decide_eq_true_eq] at *
      exact List.le_trans h1 h2) (fun a b => by
      simp only [leB, Bool.or_eq_true, decide_eq_true_eq]
      exact List.le_total a b) _
  have h2 : (((full odd m).map fun p => kOf p.name).mergeSort leB).Nodup := (List.mergeSort_perm _ _).nodup_iff.2 hn
  refine (h1.and h2).imp fun {a b} h => ?_
  obtain ⟨h3, h4⟩ := h
  simp only [leB, decide_eq_true_eq] at h3
  show (textOf a).data.toList < (textOf b).data.toList
  simp only [textOf]
  exact Decidable.byContradiction fun h => h4 (List.le_antisymm h3 (List.not_lt.1 h))
end Go.Proofs.Ytmbclhjhmghapaa
