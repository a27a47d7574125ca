/- term.Name. -/
import Derived.Test.YtmbclhjhmghapaaPl2
import Derived.Test.YtmbclhjhmghapaaRp1
namespace Go.Proofs.Ytmbclhjhmghapaa
open Go.RowKit

def okC (c : Int) : Bool := (decide (97 ≤ c) && decide (c ≤ 122)) || (decide (48 ≤ c) && decide (c ≤ 57)) || decide (0 ≤ Lib.indexByte [45, 46, 47] c.toNat.toUInt8)

theorem okC_any (w : World) (c : Int) : Calls Try.prog 79 #[.int .u8 c] w fun e w' => e = .returned (.bool (okC c)) ∧ w = w' := by
  by_cases h1 : 97 ≤ c
  · by_cases h2 : c ≤ 122
    · have e : okC c = true := by simp [okC, h1, h2]
      have E := Lib.hid e
      clear e
      go_enter Try.func79, Try.ntmps79
      go_wp2_with fail
      go_ret
      exact ⟨ret_bool E.out.symm, rfl⟩
    · have h3 : 48 ≤ c := by omega
      have h4 : decide (c ≤ 57) = false := by simp; omega
      have h5 : decide (c ≤ 122) = false := by simp; omega
      have e : okC c = decide (0 ≤ Lib.indexByte [45, 46, 47] c.toNat.toUInt8) := by simp [okC, h4, h5]
      have E := Lib.hid e
      clear e
      go_enter Try.func79, Try.ntmps79
      go_wp2_with fail
      refine (Try.strings_IndexByte _ c w).mono ?_
      rintro e w' ⟨rfl, rfl⟩
      go_wp2_with fail
      go_ret
      exact ⟨ret_bool E.out.symm, rfl⟩
  · have h0 : decide (97 ≤ c) = false := by simp; omega
    by_cases h3 : 48 ≤ c
    · by_cases h4 : c ≤ 57
      · have e : okC c = true := by simp [okC, h3, h4]
        have E := Lib.hid e
        clear e
        go_enter Try.func79, Try.ntmps79
        go_wp2_with fail
        go_ret
        exact ⟨ret_bool E.out.symm, rfl⟩
      · have h4' : decide (c ≤ 57) = false := by simp; omega
        have e : okC c = decide (0 ≤ Lib.indexByte [45, 46, 47] c.toNat.toUInt8) := by simp [okC, h0, h4']
        have E := Lib.hid e
        clear e
        go_enter Try.func79, Try.ntmps79
        go_wp2_with fail
        refine (Try.strings_IndexByte _ c w).mono ?_
        rintro e w' ⟨rfl, rfl⟩
        go_wp2_with fail
        go_ret
        exact ⟨ret_bool E.out.symm, rfl⟩
    · have h3' : decide (48 ≤ c) = false := by simp; omega
      have e : okC c = decide (0 ≤ Lib.indexByte [45, 46, 47] c.toNat.toUInt8) := by simp [okC, h0, h3']
      have E := Lib.hid e
      clear e
      go_enter Try.func79, Try.ntmps79
      go_wp2_with fail
      refine (Try.strings_IndexByte _ c w).mono ?_
      rintro e w' ⟨rfl, rfl⟩
      go_wp2_with fail
      go_ret
      exact ⟨ret_bool E.out.symm, rfl⟩

def okB (b : UInt8) : Bool := okC b.toNat
def nameB (s : ByteArray) : Bool := s.data.toList.all okB && (decide (1 ≤ s.size) && decide (s.size ≤ 40))

set_option maxRecDepth 100000 in
theorem name_any (w : World) (s : ByteArray) (hs : InS s) : Calls Try.prog 64 #[.string s] w fun e w' => e = .returned (.bool (nameB s)) ∧ w = w' := by
  have hsz : s.size ≤ 140737488351232 := hs
  clear hs
  go_enter Try.func64, Try.ntmps64
  go_wp2_with fail
  go_loopw [7] (fun i wr => ∃ k : Nat, k ≤ s.size ∧ i = .int .i64 k ∧ Hid ((s.data.toList.take k).all okB = true) ∧ w = wr) (fun i _ => s.size - (intOf i).toNat)
  case atStart => exact ⟨0, Nat.zero_le _, rfl, rfl, rfl⟩
  case round =>
    obtain ⟨k, hk1, rfl, ht, rfl⟩ := hrel
    have hlen : s.data.toList.length = s.size := rfl
    by_cases h1 : k < s.size
    · have hk : k < s.data.toList.length := h1
      have hb : Hid (okB s.data.toList[k] = okC (s[k].toNat : Int)) := rfl
      have HT : Hid ((s.data.toList.take (k + 1)).all okB = ((s.data.toList.take k).all okB && okB s.data.toList[k])) := by
        show _ = _
        rw [List.take_succ_eq_append_getElem hk, List.all_append]
        simp
      have HF : Hid (okB s.data.toList[k] = false → nameB s = false) := fun h => by
        have : s.data.toList.all okB = false := List.all_eq_false.2 ⟨_, List.getElem_mem hk, by rw [h]; simp⟩
        rw [nameB, this]
        rfl
      go_wp2_with fail
      refine (okC_any w _).mono ?_
      rintro e w' ⟨rfl, rfl⟩
      cases hc : okC (s[k].toNat : Int) with
      | true =>
        have HCC := Lib.hid hc
        clear hc
        go_wp2_with fail
        go_roundw
        case rel =>
          refine ⟨k + 1, by omega, by go_num, ?_, trivial⟩
          show _ = _
          rw [HT.out, ht.out, hb.out, HCC.out]
          rfl
        case measure => simp [intOf]; omega
      | false =>
        have HCC := Lib.hid hc
        clear hc
        go_wp2_with fail
        go_ret
        exact ⟨ret_bool (HF.out (hb.out.trans HCC.out)).symm, rfl⟩
    · have HA : Hid (s.data.toList.all okB = true) := by
        have := ht.out
        rw [List.take_of_length_le (by omega)] at this
        exact this
      by_cases h2 : 1 ≤ s.size
      · have h3 : (1 : Int) ≤ (s.size : Int) := by omega
        have E : Hid (nameB s = decide (s.size ≤ 40)) := by show _ = _; simp [nameB, HA.out, h2]
        go_wp2_with fail
        go_ret
        exact ⟨ret_bool (by rw [E.out, decide_eq_decide]; omega), rfl⟩
      · have h3 : decide ((1 : Int) ≤ (s.size : Int)) = false := by simp; omega
        have E : Hid (nameB s = false) := by show _ = _; simp [nameB, h2]
        go_wp2_with fail
        go_ret
        exact ⟨ret_bool E.out.symm, rfl⟩
end Go.Proofs.Ytmbclhjhmghapaa
