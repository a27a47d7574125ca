/- legateref15: New, Len, Has. -/
import Derived.Test.YtmbclhjhmghapaaRp4
import Derived.Test.YtmbclhjhmghapaaRr1
namespace Go.Proofs.Ytmbclhjhmghapaa
open Go.RowKit
abbrev CacheR := CacheAt 78 83

theorem rnew_any (w : World) (room : Int) : Calls Try.prog 14 #[.int .i64 room] w fun e w' => e = .returned (.pointer (some ⟨w.heap.size, 0, none⟩)) ∧ w' = w.alloc (.cells #[.int .i64 (roomF room), .slice none 0 0] 78) := by
  by_cases h : 0 ≤ room
  · have h2 := roomF_pos h
    have H2 := Lib.hid h2
    clear h2
    have h3 : max room 0 = room := by omega
    go_enter Try.func14, Try.ntmps14
    go_wp2_with fail
    go_ret
    exact ⟨rfl, by rw [H2.out]⟩
  · have H2 := Lib.hid (roomF_neg h)
    have h3 : max room 0 = 0 := by omega
    go_enter Try.func14, Try.ntmps14
    go_wp2_with fail
    go_ret
    exact ⟨rfl, by rw [H2.out]⟩

theorem CacheR.new {I : Nat → Prop} {w : World} (hI : Old I w) (room : Int) : CacheR I (w.alloc (.cells #[.int .i64 room, .slice none 0 0] 78)) w.heap.size room (.slice none 0 0) [] :=
  ⟨heap_alloc_new w _, .nil _ _ _ _, by simp [Value.ownBlock], fun h => by have := hI _ h; omega, by simp [Value.ownBlock]⟩

set_option maxHeartbeats 2000000 in
theorem rlen_any (I : Nat → Prop) (w : World) (g : Nat) (room : Int) (v : Value) (l : List (Tm × Int)) (now : Int) (hI : Old I w) (hc : CacheR I w g room v l) (hl : l.length ≤ 4398046511104) :
    Calls Try.prog 18 #[.pointer (some ⟨g, 0, none⟩), .int .i64 now] w fun e w' => e = .returned (.int .i64 (lenF l now)) ∧ Below w.heap.size w w' := by
  have hlt := hc.lt
  have g1 : w.cell? ⟨g, 1, none⟩ = some v := by simp [World.cell?, hc.blk]
  rcases hc.own.form with ⟨rfl, rfl⟩ | ⟨B, cap, rfl, hB, hcap⟩
  · have HC := Lib.hid hc
    clear hc
    go_enter Try.func18, Try.ntmps18
    go_wp2_with fail
    refine wp_loop_rounds 1 ?_
    rw [rounds_succ]
    go_wp2_with fail
    go_ret
    exact ⟨rfl, Below.refl _ _⟩
  · have HC := Lib.hid hc
    have G1 := Lib.hid g1
    clear hc g1
    go_enter Try.func18, Try.ntmps18
    go_wp2_with fail
    go_loopw [5, 6] (fun n i wr => ∃ k : Nat, k ≤ l.length ∧ i = .int .i64 k ∧ n = .int .i64 (lenF (l.take k) now) ∧ w = wr) (fun _ i _ => l.length - (intOf i).toNat)
    case atStart => exact ⟨0, Nat.zero_le _, rfl, rfl, rfl⟩
    case round =>
      obtain ⟨k, hk1, rfl, rfl, rfl⟩ := hrel
      have hle := len_le (l.take k) now
      have htl : (l.take k).length ≤ k := List.length_take_le _ _
      have g1 := G1.out
      by_cases h1 : k < l.length
      · obtain ⟨a, c, q, hr, hu, c0, c1, c2, c3, c4⟩ := HC.out.at k h1
        have HT := Lib.hid (len_take_succ l now k h1)
        clear q hr
        by_cases h2 : now < l[k].2
        · have H2 := Lib.hid h2
          go_wp2_with fail
          go_roundw
          case rel => exact ⟨k + 1, by omega, by go_num, by rw [HT.out, if_pos H2.out], trivial⟩
          case measure => simp [intOf]; omega
        · have H2 := Lib.hid h2
          go_wp2_with fail
          go_roundw
          case rel => exact ⟨k + 1, by omega, by go_num, by rw [HT.out, if_neg H2.out, Int.add_zero], trivial⟩
          case measure => simp [intOf]; omega
      · go_wp2_with fail
        go_ret
        exact ⟨ret_int (by rw [List.take_of_length_le (by omega)]), Below.refl _ _⟩

set_option maxHeartbeats 2000000 in
set_option maxRecDepth 100000 in
theorem rhas_any (I : Nat → Prop) (w : World) (g : Nat) (room : Int) (v : Value) (l : List (Tm × Int)) (m : Tm) (cm : List Value) (now : Int) (hI : Old I w) (hc : CacheR I w g room v l) (hm : Rep I w cm m) (hl : l.length ≤ 4398046511104) :
    Calls Try.prog 20 #[.pointer (some ⟨g, 0, none⟩), .agg cm.toArray, .int .i64 now] w fun e w' => e = .returned (.bool (hasF l m now)) ∧ Below w.heap.size w w' := by
  have hlt := hc.lt
  have g1 : w.cell? ⟨g, 1, none⟩ = some v := by simp [World.cell?, hc.blk]
  obtain ⟨am, nm, rfl, qm, _⟩ := hm.inv
  have HM := Lib.hid hm
  clear hm qm
  rcases hc.own.form with ⟨rfl, rfl⟩ | ⟨B, cap, rfl, hB, hcap⟩
  · have HC := Lib.hid hc
    clear hc
    go_enter Try.func20, Try.ntmps20
    go_wp2_with fail
    refine wp_loop_rounds 1 ?_
    rw [rounds_succ]
    go_wp2_with fail
    go_ret
    exact ⟨rfl, (Below.refl _ _).alloc (Nat.le_refl _) _⟩
  · have HC := Lib.hid hc
    clear hc g1
    go_enter Try.func20, Try.ntmps20
    go_wp2_with fail
    go_loopw [7] (fun i wr => ∃ k : Nat, k ≤ l.length ∧ i = .int .i64 k ∧ Hid ((l.take k).any (hitF m now) = false) ∧ w.heap.size < wr.heap.size ∧ Hid (Below (w.heap.size + 1) (w.alloc (.cells #[.int .i64 m.k, .string m.s, .int .i64 m.n, .slice am m.l.length nm] 26)) wr)) (fun i _ => l.length - (intOf i).toNat)
    case atStart => exact ⟨0, Nat.zero_le _, rfl, rfl, by simp, Below.refl _ _⟩
    case round =>
      obtain ⟨k, hk1, rfl, ht, hsz, hbl⟩ := hrel
      have hbw : Hid (Below w.heap.size w wr) := ((Below.refl _ _).alloc (Nat.le_refl _) _).trans (hbl.out.mono (by omega))
      have m0 := hbl.out.cell (p := ⟨w.heap.size, 0, none⟩) (by simp)
      have m1 := hbl.out.cell (p := ⟨w.heap.size, 1, none⟩) (by simp)
      have m2 := hbl.out.cell (p := ⟨w.heap.size, 2, none⟩) (by simp)
      have m3 := hbl.out.cell (p := ⟨w.heap.size, 3, none⟩) (by simp)
      simp at m0 m1 m2 m3
      have hcr := HC.out.on hI hbw.out
      have g1 : wr.cell? ⟨g, 1, none⟩ = some (.slice (some ⟨B, 0, none⟩) l.length cap) := by simp [World.cell?, hcr.blk]
      have hgr : g < wr.heap.size := Nat.lt_of_lt_of_le hlt hbw.out.size
      by_cases h1 : k < l.length
      · obtain ⟨a, c, q, hr, hu, c0, c1, c2, c3, c4⟩ := hcr.at k h1
        have hBr : B < wr.heap.size := Nat.lt_of_lt_of_le hB hbw.out.size
        have HT := Lib.hid (any_take_succ (hitF m now) l k h1)
        have HA := Lib.hid (any_at (hitF m now) l k h1)
        have HR := Lib.hid hr
        have HI := Lib.hid hI
        clear hcr q hr hI
        go_wp2_with fail
        refine wp_region_still_tail 9 (by kernel_rfl) (by kernel_rfl) ?_
        simp only [List.take_succ_cons, List.take_zero, List.drop_succ_cons, List.drop_zero]
        change wpStill _ _ (World.drew wr) _ _ _
        repeat still_step
        refine wpStill_nil ?_
        go_wp2_with fail
        have hx : Hid (Below w.heap.size w wr.drew) := hbw.out.drew
        have hx0 : Hid (Below wr.heap.size wr wr.drew) := (Below.refl _ _).drew
        refine (rsame_any l[k].1 m I wr.drew _ _ (HI.out.on hx.out) (HR.out.on (HI.out.on hbw.out) hx0.out) (HM.out.on HI.out hx.out)).mono ?_
        rintro e w1 ⟨rfl, hb⟩
        have HB := Lib.hid (hx.out.trans (hb.mono hx.out.size))
        have HB1 := Lib.hid (hbl.out.drew.trans (hb.mono (by simp; omega)))
        have HB2 := Lib.hid (hx0.out.trans hb)
        have hg2 := hb.cell (p := ⟨g, 1, none⟩) (by simpa using hgr)
        have hc2 := hb.cell (p := ⟨B, k * 5 + 4, none⟩) (by simpa using hBr)
        simp only [World.cell?_drew] at hg2 hc2
        rw [g1] at hg2
        rw [c4] at hc2
        have hsz1 : wr.heap.size ≤ w1.heap.size := HB2.out.size
        clear hb m0 m1 m2 m3 c0 c1 c2 c3 c4 g1
        cases hs : sameB l[k].1 m with
        | true =>
          have HS := Lib.hid hs
          clear hs
          by_cases h2 : now < l[k].2
          · have HH : Hid (hitF m now l[k] = true) := by show _ = _; unfold hitF; rw [HS.out]; simp [h2]
            go_wp2_with fail
            go_ret
            refine ⟨ret_bool ?_, HB.out⟩
            rw [hasF, HA.out HH.out]
          · have HH : Hid (hitF m now l[k] = false) := by show _ = _; unfold hitF; rw [HS.out]; simp; omega
            have d2 : decide (now < l[k].2) = false := by simp; omega
            go_wp2_with fail
            go_roundw
            case rel =>
              refine ⟨k + 1, by omega, by go_num, ?_, by omega, HB1.out⟩
              show _ = _
              rw [HT.out, ht.out, HH.out]
              rfl
            case measure => simp [intOf]; omega
        | false =>
          have HS := Lib.hid hs
          clear hs
          have HH : Hid (hitF m now l[k] = false) := by show _ = _; unfold hitF; rw [HS.out]; simp
          go_wp2_with fail
          go_roundw
          case rel =>
            refine ⟨k + 1, by omega, by go_num, ?_, by omega, HB1.out⟩
            show _ = _
            rw [HT.out, ht.out, HH.out]
            rfl
          case measure => simp [intOf]; omega
      · go_wp2_with fail
        go_ret
        refine ⟨ret_bool ?_, hbw.out⟩
        have := ht.out
        rw [List.take_of_length_le (by omega)] at this
        rw [hasF, this]
end Go.Proofs.Ytmbclhjhmghapaa
