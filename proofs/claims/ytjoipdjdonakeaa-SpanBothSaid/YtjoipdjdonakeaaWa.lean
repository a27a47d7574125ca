/- The walks of package span's functions: what each returns, that memory below is as it was. -/
import Derived.Test.YtjoipdjdonakeaaProg
import Derived.WalkKit
import Derived.WalkSpells
import Derived.WalkLawsBesides
import Derived.Lib.Hide
import Derived.BigQuiet
import Derived.Deep.QuietTactic
import Derived.Test.YtjoipdjdonakeaaFl
namespace Go.Proofs.Ytjoipdjdonakeaa
open Go.RowKit

def okT (n : Int) : Bool := !(n < 0 || n > 1099511627776)

theorem ret_bool {a b : Bool} (h : a = b) : Ending.returned (.bool a) = .returned (.bool b) := by rw [h]

theorem all_take_succ (p : Int → Bool) (zs : List Int) (k : Nat) (h : k < zs.length) : (zs.take (k + 1)).all p = ((zs.take k).all p && p (zs.getD k 0)) := by
  rw [List.take_succ_eq_append_getElem h, List.all_append]
  simp [h]
theorem getD_mem (zs : List Int) (k : Nat) (h : k < zs.length) : zs.getD k 0 ∈ zs := by
  simp [h]

set_option maxHeartbeats 400000 in
theorem time_any (b n cap : Nat) (zs : List Int) (w : World) (hn : zs.length = n) (h60 : n ≤ 3) (hc : ∀ k, k < n → w.cell? ⟨b, k, none⟩ = some (.int .i64 (zs.getD k 0))) :
    Calls Try.prog 16 #[.slice (some ⟨b, 0, none⟩) n cap] w fun e w' => e = .returned (.bool (zs.all okT)) ∧ w = w' := by
  have HC := Lib.hid hc
  have HN := Lib.hid hn
  clear hc hn
  go_enter Try.func16, Try.ntmps16
  go_wp2
  go_loop [4, 7] (fun _ i => ∃ k : Nat, k ≤ n ∧ i = .int .i64 k ∧ (zs.take k).all okT = true) (fun _ i => n - (intOf i).toNat)
  case atStart => exact ⟨0, Nat.zero_le _, rfl, by simp⟩
  case round =>
    obtain ⟨k, hk, rfl, hall⟩ := hrel
    have HALL := Lib.hid hall
    clear hall
    by_cases hlt : k < n
    · have hcell := HC.out k hlt
      have hkz : k < zs.length := by rw [HN.out]; exact hlt
      have HTK := Lib.hid (all_take_succ okT zs k hkz)
      have HIN := Lib.hid (getD_mem zs k hkz)
      clear hkz
      generalize zs.getD k 0 = v at *
      by_cases hv : 0 ≤ v ∧ v ≤ 1099511627776
      · obtain ⟨hv1, hv2⟩ := hv
        go_wp2
        go_round
        case rel => exact ⟨k + 1, by omega, by go_num, by rw [HTK.out, HALL.out]; simp [okT]; omega⟩
        case measure => simp [intOf]; omega
      · have hf : okT v = false := by simp [okT]; omega
        have HF := Lib.hid hf
        clear hf
        by_cases hneg : v < 0
        · clear hv
          go_wp2
          go_ret
          refine ⟨ret_bool ?_, rfl⟩
          exact (List.all_eq_false.2 ⟨v, HIN.out, by rw [HF.out]; simp⟩).symm
        · have hgt : 1099511627776 < v := by omega
          have hge : 0 ≤ v := by omega
          clear hv hneg
          go_wp2
          go_ret
          refine ⟨ret_bool ?_, rfl⟩
          exact (List.all_eq_false.2 ⟨v, HIN.out, by rw [HF.out]; simp⟩).symm
    · go_wp2
      go_ret
      refine ⟨ret_bool ?_, rfl⟩
      rw [← HALL.out, List.take_of_length_le (by rw [HN.out]; omega)]

def validB (f t : Int) : Bool := okT f && okT t && decide (f ≤ t)

theorem below_refl' {w w' : World} (h : w = w') : Below w.heap.size w w' := by subst h; exact Below.refl _ _

set_option maxHeartbeats 400000 in
theorem valid_any (f t : Int) (w : World) :
    Calls Try.prog 10 #[.agg #[.int .i64 f, .int .i64 t]] w fun e w' => e = .returned (.bool (validB f t)) ∧ Below w.heap.size w w' := by
  go_enter Try.func10, Try.ntmps10
  go_wp2_with fail
  refine (time_any _ 2 2 [f, t] _ rfl (by omega) (fun k hk => ?_)).mono ?_
  · match k, hk with
    | 0, _ => simp [go_sem]
    | 1, _ => simp [go_sem]
  rintro e w1 ⟨rfl, rfl⟩
  by_cases hv : [f, t].all okT = true
  · have HV := Lib.hid hv
    rw [hv]
    clear hv
    go_wp2_with fail
    go_ret
    refine ⟨ret_bool ?_, ?_⟩
    · have := HV.out
      simp [validB] at this ⊢
      simp [this]
    · exact ((Below.refl _ _).alloc (Nat.le_refl _) _).alloc (by simp) _
  · have HV := Lib.hid hv
    rw [Bool.not_eq_true] at hv
    rw [hv]
    clear hv
    go_wp2_with fail
    go_ret
    refine ⟨ret_bool ?_, ?_⟩
    · have := HV.out
      simp [validB] at this ⊢
      intro a b
      exact absurd b (by simp [this a])
    · exact ((Below.refl _ _).alloc (Nat.le_refl _) _).alloc (by simp) _
end Go.Proofs.Ytjoipdjdonakeaa
