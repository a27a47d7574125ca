/- term.Order, term.Same: 0 just if the terms are one. -/
import Derived.Test.YtmbclhjhmghapaaProg
import Derived.WalkKit
import Derived.WalkSpells
import Derived.WalkLawsBesides
import Derived.Lib.Hide
import Derived.BigQuiet
import Derived.Deep.QuietTactic
import Derived.Deep.RegionHeld3
import Derived.Test.YtmbclhjhmghapaaTm
namespace Go.Proofs.Ytmbclhjhmghapaa
open Go.RowKit

theorem ret_bool {a b : Bool} (h : a = b) : Ending.returned (.bool a) = .returned (.bool b) := by rw [h]
theorem ret_int {k : IntKind} {a b : Int} (h : a = b) : Ending.returned (.int k a) = .returned (.int k b) := by rw [h]

def cmpI (a b : Int) : Int := if a < b then -1 else if b < a then 1 else 0
theorem cmpI_zero (a b : Int) : cmpI a b = 0 ↔ a = b := by unfold cmpI; split <;> (try split) <;> omega

set_option maxHeartbeats 400000 in
theorem isNaN_int (a : Int) (w : World) : Calls Try.prog 78 #[.int .i64 a] w fun e w' => e = .returned (.bool false) ∧ w = w' := by
  go_enter Try.func78, Try.ntmps78
  go_wp2
  go_ret
  exact ⟨ret_bool (by simp), rfl⟩
set_option maxHeartbeats 400000 in
theorem isNaN_kind (a : Int) (w : World) : Calls Try.prog 76 #[.int .i64 a] w fun e w' => e = .returned (.bool false) ∧ w = w' := by
  go_enter Try.func76, Try.ntmps76
  go_wp2
  go_ret
  exact ⟨ret_bool (by simp), rfl⟩

set_option maxHeartbeats 400000 in
theorem compare_int (a b : Int) (w : World) : Calls Try.prog 62 #[.int .i64 a, .int .i64 b] w fun e w' => e = .returned (.int .i64 (cmpI a b)) ∧ w = w' := by
  by_cases h1 : a < b
  · have e : cmpI a b = -1 := by unfold cmpI; rw [if_pos h1]
    rw [e]
    clear e
    go_enter Try.func62, Try.ntmps62
    go_wp2_with fail
    refine (isNaN_int a _).mono ?_
    rintro e w1 ⟨rfl, rfl⟩
    go_wp2_with fail
    refine (isNaN_int b _).mono ?_
    rintro e w1 ⟨rfl, rfl⟩
    go_wp2_with fail
    go_ret
    exact ⟨rfl, rfl⟩
  · by_cases h2 : b < a
    · have e : cmpI a b = 1 := by unfold cmpI; rw [if_neg h1, if_pos h2]
      rw [e]
      clear e
      go_enter Try.func62, Try.ntmps62
      go_wp2_with fail
      refine (isNaN_int a _).mono ?_
      rintro e w1 ⟨rfl, rfl⟩
      go_wp2_with fail
      refine (isNaN_int b _).mono ?_
      rintro e w1 ⟨rfl, rfl⟩
      go_wp2_with fail
      go_ret
      exact ⟨rfl, rfl⟩
    · have e : cmpI a b = 0 := by unfold cmpI; rw [if_neg h1, if_neg h2]
      rw [e]
      clear e
      go_enter Try.func62, Try.ntmps62
      go_wp2_with fail
      refine (isNaN_int a _).mono ?_
      rintro e w1 ⟨rfl, rfl⟩
      go_wp2_with fail
      refine (isNaN_int b _).mono ?_
      rintro e w1 ⟨rfl, rfl⟩
      go_wp2_with fail
      go_ret
      exact ⟨rfl, rfl⟩
set_option maxHeartbeats 400000 in
theorem compare_kind (a b : Int) (w : World) : Calls Try.prog 60 #[.int .i64 a, .int .i64 b] w fun e w' => e = .returned (.int .i64 (cmpI a b)) ∧ w = w' := by
  by_cases h1 : a < b
  · have e : cmpI a b = -1 := by unfold cmpI; rw [if_pos h1]
    rw [e]
    clear e
    go_enter Try.func60, Try.ntmps60
    go_wp2_with fail
    refine (isNaN_kind a _).mono ?_
    rintro e w1 ⟨rfl, rfl⟩
    go_wp2_with fail
    refine (isNaN_kind b _).mono ?_
    rintro e w1 ⟨rfl, rfl⟩
    go_wp2_with fail
    go_ret
    exact ⟨rfl, rfl⟩
  · by_cases h2 : b < a
    · have e : cmpI a b = 1 := by unfold cmpI; rw [if_neg h1, if_pos h2]
      rw [e]
      clear e
      go_enter Try.func60, Try.ntmps60
      go_wp2_with fail
      refine (isNaN_kind a _).mono ?_
      rintro e w1 ⟨rfl, rfl⟩
      go_wp2_with fail
      refine (isNaN_kind b _).mono ?_
      rintro e w1 ⟨rfl, rfl⟩
      go_wp2_with fail
      go_ret
      exact ⟨rfl, rfl⟩
    · have e : cmpI a b = 0 := by unfold cmpI; rw [if_neg h1, if_neg h2]
      rw [e]
      clear e
      go_enter Try.func60, Try.ntmps60
      go_wp2_with fail
      refine (isNaN_kind a _).mono ?_
      rintro e w1 ⟨rfl, rfl⟩
      go_wp2_with fail
      refine (isNaN_kind b _).mono ?_
      rintro e w1 ⟨rfl, rfl⟩
      go_wp2_with fail
      go_ret
      exact ⟨rfl, rfl⟩

def cmpS (a b : ByteArray) : Int := Extern.BytealgCompare.cmp a b
theorem call_cmpstring (a b : ByteArray) (w : World) : Sem.run Try.prog (callFunc 85 #[.string a, .string b]) w = .ok (.value (.int .i64 (cmpS a b))) w := by
  rw [run_callFunc_extern (fn := Try.f85) (e := Extern.BytealgCompare.compare) Try.func85 (by kernel_rfl) (by kernel_rfl) (by kernel_rfl) (by kernel_rfl)]
  rfl
set_option maxHeartbeats 400000 in
theorem compareString (a b : ByteArray) (w : World) : Calls Try.prog 77 #[.string a, .string b] w fun e w' => e = .returned (.int .i64 (cmpS a b)) ∧ w = w' := by
  have h := call_cmpstring a b
  go_enter Try.func77, Try.ntmps77
  go_wp2
  go_ret
  exact ⟨rfl, rfl⟩
set_option maxHeartbeats 400000 in
theorem compare_string (a b : ByteArray) (w : World) : Calls Try.prog 61 #[.string a, .string b] w fun e w' => e = .returned (.int .i64 (cmpS a b)) ∧ w = w' := by
  go_enter Try.func61, Try.ntmps61
  go_wp2_with fail
  refine (compareString a b _).mono ?_
  rintro e w1 ⟨rfl, rfl⟩
  go_wp2_with fail
  go_ret
  exact ⟨rfl, rfl⟩

theorem cmpS_zero (a b : ByteArray) : cmpS a b = 0 ↔ a = b := by
  unfold cmpS Extern.BytealgCompare.cmp
  constructor
  · intro h
    split at h
    · split at h <;> cases h
    · rename_i hf
      split at h
      · cases h
      · split at h
        · cases h
        · have hs : a.size = b.size := by omega
          rw [List.find?_eq_none] at hf
          have ha : a.data.size = a.size := rfl
          have hb : b.data.size = b.size := rfl
          have e : a.data = b.data := by
            apply Array.ext
            · exact hs
            · intro i h1 h2
              have := hf i (by simp only [List.mem_range]; omega)
              simp only [bne_iff_ne, ne_eq, Decidable.not_not] at this
              rw [getElem!_pos a i (by omega), getElem!_pos b i (by omega)] at this
              exact this
          cases a; cases b; simp only at e; rw [e]
  · rintro rfl
    have : (List.range (min a.size a.size)).find? (fun i => a[i]! != a[i]!) = none := by simp
    rw [this]
    simp

/-- the first that is not 0 -/
def orF : List Int → Int
  | [] => 0
  | z :: zs => if z = 0 then orF zs else z
theorem orF_take (zs : List Int) (k : Nat) (h : (zs.take k).all (· == 0) = true) : orF zs = orF (zs.drop k) := by
  induction k generalizing zs with
  | zero => rfl
  | succ k ih =>
    cases zs with
    | nil => rfl
    | cons z zs =>
      simp only [List.take_succ_cons, List.all_cons, Bool.and_eq_true, beq_iff_eq] at h
      simp only [List.drop_succ_cons, orF, h.1, if_true]
      exact ih zs h.2
theorem all_take_succ0 (p : Int → Bool) (zs : List Int) (k : Nat) (h : k < zs.length) : (zs.take (k + 1)).all p = ((zs.take k).all p && p (zs.getD k 0)) := by
  rw [List.take_succ_eq_append_getElem h, List.all_append]
  simp [h]
theorem orF_at (zs : List Int) (k : Nat) (h : k < zs.length) (ha : (zs.take k).all (· == 0) = true) (hz : zs.getD k 0 ≠ 0) : orF zs = zs.getD k 0 := by
  rw [orF_take zs k ha, List.drop_eq_getElem_cons h]
  simp only [orF]
  have e : zs.getD k 0 = zs[k] := by simp [h]
  rw [e] at hz ⊢
  rw [if_neg hz]
set_option maxHeartbeats 400000 in
theorem or_any (b n cap : Nat) (zs : List Int) (w : World) (hn : zs.length = n) (h60 : n ≤ 4) (hc : ∀ k, k < n → w.cell? ⟨b, k, none⟩ = some (.int .i64 (zs.getD k 0))) :
    Calls Try.prog 59 #[.slice (some ⟨b, 0, none⟩) n cap] w fun e w' => e = .returned (.int .i64 (orF zs)) ∧ w = w' := by
  have HC := Lib.hid hc
  have HN := Lib.hid hn
  clear hc hn
  go_enter Try.func59, Try.ntmps59
  go_wp2
  go_loop [5, 8] (fun _ i => ∃ k : Nat, k ≤ n ∧ i = .int .i64 k ∧ (zs.take k).all (· == 0) = true) (fun _ i => n - (intOf i).toNat)
  case atStart => exact ⟨0, Nat.zero_le _, rfl, by simp⟩
  case round =>
    obtain ⟨k, hk, rfl, hall⟩ := hrel
    have HALL := Lib.hid hall
    clear hall
    by_cases hlt : k < n
    · have hcell := HC.out k hlt
      have hkz : k < zs.length := by rw [HN.out]; exact hlt
      have HTK := Lib.hid (all_take_succ0 (· == 0) zs k hkz)
      have HAT := Lib.hid (orF_at zs k hkz HALL.out)
      clear hkz
      generalize zs.getD k 0 = v at *
      by_cases hv : v = 0
      · have hz : (v == 0) = true := by simp [hv]
        have hz2 : (v != 0) = false := by simp [hv]
        have HV := Lib.hid hv
        clear hv
        go_wp2
        go_round
        case rel => exact ⟨k + 1, by omega, by go_num, by rw [HTK.out, HALL.out, HV.out]; rfl⟩
        case measure => simp [intOf]; omega
      · have hz2 : (v != 0) = true := by simp [hv]
        have HF := Lib.hid (HAT.out hv)
        clear hv
        go_wp2
        go_ret
        exact ⟨ret_int (by rw [HF.out]), rfl⟩
    · go_wp2
      go_ret
      refine ⟨ret_int ?_, rfl⟩
      rw [orF_take zs k HALL.out, List.drop_of_length_le (by rw [HN.out]; omega)]
      rfl
end Go.Proofs.Ytmbclhjhmghapaa
