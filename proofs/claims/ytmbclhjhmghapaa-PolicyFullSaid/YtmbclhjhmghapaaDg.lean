/- legateref08: Digits. -/
import Derived.Test.YtmbclhjhmghapaaPoF
import Derived.Laws.BytesString
namespace Go.Proofs.Ytmbclhjhmghapaa
open Go.RowKit Go.Maps Go.WideMaps

def dig (n : Nat) : UInt8 := 48 + UInt8.ofNat (n % 10)
def digL (n : Nat) : List UInt8 := if n < 10 then [dig n] else if n < 100 then [dig (n / 10), dig n] else [dig (n / 100), dig (n / 10), dig n]
def digS (n : Nat) : ByteArray := ⟨(digL n).toArray⟩
def DigInv (n m : Nat) (s : ByteArray) : Prop :=
  (m = n ∧ s = ⟨#[]⟩) ∨ (m = n / 10 ∧ s = ⟨#[dig n]⟩) ∨ (10 ≤ n ∧ m = n / 100 ∧ s = ⟨#[dig (n / 10), dig n]⟩) ∨ (100 ≤ n ∧ m = 0 ∧ s = ⟨#[dig (n / 100), dig (n / 10), dig n]⟩)
theorem DigInv.size {n m : Nat} {s : ByteArray} (h : DigInv n m s) : s.size ≤ 3 := by
  rcases h with ⟨_, rfl⟩ | ⟨_, rfl⟩ | ⟨_, _, rfl⟩ | ⟨_, _, rfl⟩ <;> simp [ByteArray.size]
theorem DigInv.next {n m : Nat} {s : ByteArray} (h : DigInv n m s) (hn : n < 1000) (hm : 0 < m ∨ s = ⟨#[]⟩) : DigInv n (m / 10) (⟨#[dig m]⟩ ++ s) := by
  rcases h with ⟨rfl, rfl⟩ | ⟨rfl, rfl⟩ | ⟨h, rfl, rfl⟩ | ⟨h, rfl, rfl⟩
  · exact .inr (.inl ⟨rfl, rfl⟩)
  · have : 0 < n / 10 := hm.resolve_right (by intro e; injection e with e; simp at e)
    exact .inr (.inr (.inl ⟨by omega, by omega, rfl⟩))
  · have : 0 < n / 100 := hm.resolve_right (by intro e; injection e with e; simp at e)
    exact .inr (.inr (.inr ⟨by omega, by omega, rfl⟩))
  · exact absurd (hm.resolve_right (by intro e; injection e with e; simp at e)) (by omega)
theorem DigInv.last {n : Nat} {s : ByteArray} (h : DigInv n 0 s) (hn : n < 1000) (hs : s ≠ ⟨#[]⟩) : s = digS n := by
  unfold digS digL
  rcases h with ⟨_, rfl⟩ | ⟨h, rfl⟩ | ⟨h, h2, rfl⟩ | ⟨h, _, rfl⟩
  · exact absurd rfl hs
  · rw [if_pos (by omega)]
  · rw [if_neg (by omega), if_pos (by omega)]
  · rw [if_neg (by omega), if_neg (by omega)]
def bare : Value → Nat
  | .string s => if s.size = 0 then 1 else 0
  | _ => 0

theorem bare_cons (d : UInt8) (s : ByteArray) : bare (.string (⟨#[d]⟩ ++ s)) = 0 := by
  unfold bare
  have : ((⟨#[d]⟩ : ByteArray) ++ s).size = 1 + s.size := by rw [ByteArray.size_append]; rfl
  simp only [this]
  rw [if_neg (by omega)]
theorem u8_under : Try.prog.underlying 5 = some (.int .u8) := by kernel_rfl
theorem bs_under : Try.prog.underlying 89 = some (.slice 5) := by kernel_rfl
theorem frozen_at (w : World) (x : Int) : (w.alloc (.cells #[.int .u8 x] 5)).cell? ((⟨w.heap.size, 0, none⟩ : Addr).add 0) = some (.int .u8 x) := World.cell?_alloc_at _ _ _ 0 rfl
theorem conv1 (w : World) (x : Int) : Sem.run Try.prog (convert 89 9 (.slice (some ⟨w.heap.size, 0, none⟩) 1 1)) (w.alloc (.cells #[.int .u8 x] 5)) = .ok (.string ⟨#[UInt8.ofNat x.toNat]⟩) (w.alloc (.cells #[.int .u8 x] 5)) := by
  rw [run_convert_bytes_string _ _ _ 5 _ _ _ bs_under u8_under Try.underlying9]
  exact run_bytesToString _ _ _ _ [x] (run_loadCells_list _ _ [.int .u8 x] (by
    intro j v h
    cases j with
    | zero =>
      injection h with h
      subst h
      exact frozen_at w x
    | succ j => simp at h))
def digW (m : Nat) (wr : World) (x : Int) : World := wr.alloc (.cells #[.int .u8 x] 5)

set_option maxRecDepth 100000 in
theorem digits_any (w : World) (n : Int) (h0 : 0 ≤ n) (h1 : n < 1000) :
    Calls Try.prog 24 #[.int .i64 n] w fun e w' => e = .returned (.string (digS n.toNat)) ∧ Below w.heap.size w w' := by
  obtain ⟨N, rfl⟩ := Int.eq_ofNat_of_zero_le h0
  have hN : N < 1000 := by omega
  have b0 : decide ((N : Int) < 0) = false := by simp
  clear h0 h1
  go_enter Try.func24, Try.ntmps24
  go_wp2_with fail
  go_loopw [0, 3] (fun n' s' wr => ∃ (m : Nat) (s : ByteArray), n' = .int .i64 m ∧ s' = .string s ∧ m ≤ N ∧ Hid (DigInv N m s) ∧ Hid (Below w.heap.size w wr)) (fun n' s' _ => (intOf n').toNat + bare s')
  case atStart => exact ⟨N, _, rfl, rfl, Nat.le_refl _, .inl ⟨rfl, rfl⟩, Below.refl _ _⟩
  case round =>
    obtain ⟨m, s, rfl, rfl, hm, hi, hb⟩ := hrel
    have cv := conv1 wr
    have sz : s.size ≤ 3 := hi.out.size
    by_cases hs : s = ⟨#[]⟩
    · subst hs
      by_cases h0 : m = 0
      · subst h0
        go_wp2_with fail
        exact ⟨⟨0, _, rfl, rfl, hm, hi.out.next hN (.inr rfl), hb.out.alloc hb.out.size _⟩, by decide⟩
      · go_wp2_with fail
        refine ⟨⟨m / 10, _, by go_num, rfl, Nat.le_trans (Nat.div_le_self ..) hm, hi.out.next hN (.inr rfl), hb.out.alloc hb.out.size _⟩, ?_⟩
        rw [bare_cons]
        simp only [intOf]
        omega
    · have e0 : s.toList.isEmpty = false := by
        have h1 := str_ne hs
        cases hl : s.toList with
        | nil =>
          rw [hl] at h1
          simp at h1
        | cons x xs => rfl
      by_cases h0 : m = 0
      · subst h0
        go_wp2_with fail
        go_ret
        rw [hi.out.last hN hs]
        exact ⟨rfl, hb.out⟩
      · go_wp2_with fail
        refine ⟨⟨m / 10, _, by go_num, rfl, Nat.le_trans (Nat.div_le_self ..) hm, hi.out.next hN (.inl (by omega)), hb.out.alloc hb.out.size _⟩, ?_⟩
        rw [bare_cons]
        simp only [intOf]
        omega
end Go.Proofs.Ytmbclhjhmghapaa
