/- Package replay: Has, Len. -/
import Derived.Test.YtmbclhjhmghapaaRp1
namespace Go.Proofs.Ytmbclhjhmghapaa
open Go.RowKit
abbrev CacheP := CacheAt 75 81

set_option maxHeartbeats 2000000 in
theorem has_any (I : Nat → Prop) (w : World) (g : Nat) (room : Int) (v : Value) (l : List (Tm × Int)) (m : Tm) (cm : List Value) (now : Int) (hI : Old I w) (hc : CacheP I w g room v l) (hm : Rep I w cm m) (hl : l.length ≤ 4398046511104) :
    Calls Try.prog 19 #[.pointer (some ⟨g, 0, none⟩), .agg cm.toArray, .int .i64 now] w fun e w' => e = .returned (.bool (hasF l m now)) ∧ Below w.heap.size w w' := by
  have hlt := hc.lt
  have g0 : w.cell? ⟨g, 0, none⟩ = some (.int .i64 room) := by simp [World.cell?, hc.blk]
  have g1 : w.cell? ⟨g, 1, none⟩ = some v := by simp [World.cell?, hc.blk]
  obtain ⟨am, nm, rfl, qm, _⟩ := hm.inv
  have HM := Lib.hid hm
  clear hm qm
  rcases hc.own.form with ⟨rfl, rfl⟩ | ⟨B, cap, rfl, hB, hcap⟩
  · have HC := Lib.hid hc
    clear hc
    go_enter Try.func19, Try.ntmps19
    go_wp2_with fail
    refine wp_loop_rounds 1 ?_
    rw [rounds_succ]
    go_wp2_with fail
    go_ret
    exact ⟨rfl, (Below.refl _ _).alloc (Nat.le_refl _) _⟩
  · have HC := Lib.hid hc
    have g0' := g0
    clear hc g0' g0
    go_enter Try.func19, Try.ntmps19
    go_wp2_with fail
    go_loopw [14] (fun i wr => ∃ k : Nat, k ≤ l.length ∧ i = .int .i64 k ∧ Hid ((l.take k).any (hitF m now) = false) ∧ w.heap.size < wr.heap.size ∧ Hid (Below (w.heap.size + 1) (w.alloc (.cells #[.int .i64 m.k, .string m.s, .int .i64 m.n, .slice am m.l.length nm] 26)) wr)) (fun i _ => l.length - (intOf i).toNat)
    case atStart => exact ⟨0, Nat.zero_le _, rfl, rfl, by simp, Below.refl _ _⟩
    case round =>
      obtain ⟨k, hk1, rfl, ht, hsz, hbl⟩ := hrel
      have hbw : Hid (Below w.heap.size w wr) := ((Below.refl _ _).alloc (Nat.le_refl _) _).trans (hbl.out.mono (by omega))
      have m0 := hbl.out.cell (p := ⟨w.heap.size, 0, none⟩) (by simp)
      have m1 := hbl.out.cell (p := ⟨w.heap.size, 1, none⟩) (by simp)
      have m2 := hbl.out.cell (p := ⟨w.heap.size, 2, none⟩) (by simp)
      have m3 := hbl.out.cell (p := ⟨w.heap.size, 3, none⟩) (by simp)
      simp at m0 m1 m2 m3
      by_cases h1 : k < l.length
      · have hcr := HC.out.on hI hbw.out
        obtain ⟨a, c, q, hr, hu, c0, c1, c2, c3, c4⟩ := hcr.at k h1
        have hBr : B < wr.heap.size := Nat.lt_of_lt_of_le hB hbw.out.size
        have HT := Lib.hid (any_take_succ (hitF m now) l k h1)
        have HA := Lib.hid (any_at (hitF m now) l k h1)
        have HR := Lib.hid hr
        clear hcr q hr
        by_cases h2 : now < l[k].2
        · have d2 : decide (now < l[k].2) = true := by simp [h2]
          have HH : Hid (hitF m now l[k] = sameB l[k].1 m) := by show _ = _; unfold hitF; rw [d2, Bool.true_and]
          go_wp2_with fail
          have hx : ∀ o, Hid (Below w.heap.size w (wr.alloc o)) := fun o => hbw.out.alloc hbw.out.size _
          refine (same_any l[k].1 m I _ _ _ (hI.on (hx _).out) (HR.out.on (hI.on hbw.out) ((Below.refl _ _).alloc (Nat.le_refl _) _)) (HM.out.on hI (hx _).out)).mono ?_
          rintro e w1 ⟨rfl, hb⟩
          have HB := Lib.hid ((hx _).out.trans (hb.mono (hx _).out.size))
          have HB1 := Lib.hid (hbl.out.trans (((Below.refl _ _).alloc (by omega) _).trans (hb.mono (by simp; omega))))
          clear hb
          cases hs : sameB l[k].1 m with
          | true =>
            have HS := Lib.hid hs
            clear hs
            go_wp2_with fail
            go_ret
            refine ⟨ret_bool ?_, HB.out⟩
            rw [hasF, HA.out (by rw [HH.out, HS.out])]
          | false =>
            have HS := Lib.hid hs
            clear hs
            go_wp2_with fail
            go_roundw
            case rel =>
              refine ⟨k + 1, by omega, by go_num, ?_, by have := HB1.out.size; simp at this; omega, HB1.out⟩
              show _ = _
              rw [HT.out, ht.out, HH.out, HS.out]
              rfl
            case measure => simp [intOf]; omega
        · have d2 : decide (now < l[k].2) = false := by simp; omega
          have HH : Hid (hitF m now l[k] = false) := by show _ = _; unfold hitF; rw [d2, Bool.false_and]
          go_wp2_with fail
          go_roundw
          case rel =>
            refine ⟨k + 1, by omega, by go_num, ?_, by simp; omega, hbl.out.alloc (by omega) _⟩
            show _ = _
            rw [HT.out, ht.out, HH.out]
            rfl
          case measure => simp [intOf]; omega
      · go_wp2_with fail
        go_ret
        refine ⟨ret_bool ?_, hbw.out⟩
        have := ht.out
        rw [List.take_of_length_le (by omega)] at this
        rw [hasF, this]

theorem len_take_succ (l : List (Tm × Int)) (now : Int) (k : Nat) (h : k < l.length) : lenF (l.take (k + 1)) now = lenF (l.take k) now + if now < l[k].2 then 1 else 0 := by
  unfold lenF
  rw [List.take_succ_eq_append_getElem h, List.filter_append]
  by_cases hc : now < l[k].2 <;> simp [hc]
theorem len_le (l : List (Tm × Int)) (now : Int) : 0 ≤ lenF l now ∧ lenF l now ≤ l.length := by
  unfold lenF
  have := List.length_filter_le (fun x : Tm × Int => decide (now < x.2)) l
  omega

set_option maxHeartbeats 2000000 in
theorem len_any (I : Nat → Prop) (w : World) (g : Nat) (room : Int) (v : Value) (l : List (Tm × Int)) (now : Int) (hI : Old I w) (hc : CacheP I w g room v l) (hl : l.length ≤ 4398046511104) :
    Calls Try.prog 17 #[.pointer (some ⟨g, 0, none⟩), .int .i64 now] w fun e w' => e = .returned (.int .i64 (lenF l now)) ∧ Below w.heap.size w w' := by
  have hlt := hc.lt
  have g1 : w.cell? ⟨g, 1, none⟩ = some v := by simp [World.cell?, hc.blk]
  rcases hc.own.form with ⟨rfl, rfl⟩ | ⟨B, cap, rfl, hB, hcap⟩
  · have HC := Lib.hid hc
    clear hc
    go_enter Try.func17, Try.ntmps17
    go_wp2_with fail
    refine wp_loop_rounds 1 ?_
    rw [rounds_succ]
    go_wp2_with fail
    go_ret
    exact ⟨rfl, Below.refl _ _⟩
  · have HC := Lib.hid hc
    clear hc
    go_enter Try.func17, Try.ntmps17
    go_wp2_with fail
    go_loopw [5, 13] (fun n i wr => ∃ k : Nat, k ≤ l.length ∧ i = .int .i64 k ∧ n = .int .i64 (lenF (l.take k) now) ∧ Hid (Below w.heap.size w wr)) (fun _ i _ => l.length - (intOf i).toNat)
    case atStart => exact ⟨0, Nat.zero_le _, rfl, rfl, Below.refl _ _⟩
    case round =>
      obtain ⟨k, hk1, rfl, rfl, hbw⟩ := hrel
      have hle := len_le (l.take k) now
      have htl : (l.take k).length ≤ k := List.length_take_le _ _
      by_cases h1 : k < l.length
      · have hcr := HC.out.on hI hbw.out
        obtain ⟨a, c, q, hr, hu, c0, c1, c2, c3, c4⟩ := hcr.at k h1
        have hBr : B < wr.heap.size := Nat.lt_of_lt_of_le hB hbw.out.size
        have HT := Lib.hid (len_take_succ l now k h1)
        clear hcr q hr
        by_cases h2 : now < l[k].2
        · have H2 := Lib.hid h2
          go_wp2_with fail
          go_roundw
          case rel => exact ⟨k + 1, by omega, by go_num, by rw [HT.out, if_pos H2.out], hbw.out.alloc hbw.out.size _⟩
          case measure => simp [intOf]; omega
        · have H2 := Lib.hid h2
          go_wp2_with fail
          go_roundw
          case rel => exact ⟨k + 1, by omega, by go_num, by rw [HT.out, if_neg H2.out, Int.add_zero], hbw.out.alloc hbw.out.size _⟩
          case measure => simp [intOf]; omega
      · go_wp2_with fail
        go_ret
        exact ⟨ret_int (by rw [List.take_of_length_le (by omega)]), hbw.out⟩
end Go.Proofs.Ytmbclhjhmghapaa
