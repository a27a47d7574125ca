/- ReplayRoom: the walk. -/
import Derived.Test.YtmbclhjhmghapaaWorks
import Derived.Deep.RegionHeld3
import Derived.Deep.RegionHeldLaw
namespace Go.Proofs.Ytmbclhjhmghapaa
open Go.RowKit

abbrev PairPP (I : Nat → Prop) (W w : World) (g : Nat) (room : Int) (l : List (Tm × Int)) (g' : Nat) (room' : Int) (l' : List (Tm × Int)) := PairS 75 81 75 81 I W w g room l g' room' l'

/-- what the two caches hold behind k acts -/
structure RoomInv (acts : List Act) (k : Nat) (la lb : List (Tm × Int)) : Prop where
  sub : List.Sublist la lb
  len : lb.length ≤ k
  marks : ∀ x ∈ lb, ∃ j, ∃ h : j < acts.length, j < k ∧ x.1 = acts[j].m
theorem RoomInv.zero (acts : List Act) : RoomInv acts 0 [] [] := ⟨.slnil, by simp, by simp⟩
theorem live_sub {la lb : List (Tm × Int)} (h : List.Sublist la lb) (now : Int) : List.Sublist (liveF la now) (liveF lb now) := h.filter _
theorem lenF_sub {la lb : List (Tm × Int)} (h : List.Sublist la lb) (now : Int) : lenF la now ≤ lenF lb now := by
  have := (h.filter (fun x => decide (now < x.2))).length_le
  unfold lenF
  omega
theorem hasF_sub {la lb : List (Tm × Int)} (h : List.Sublist la lb) (m : Tm) (now : Int) (hb : hasF lb m now = false) : hasF la m now = false := by
  unfold hasF at *
  rw [List.any_eq_false] at *
  exact fun x hx => hb x (h.subset hx)

theorem RoomInv.turn {acts : List Act} {k : Nat} {la lb : List (Tm × Int)} (h : RoomInv acts k la lb) (hk : k < acts.length) (hn : ∀ j (hj : j < acts.length), j < k → sameB acts[j].m acts[k].m = false) (room : Int) (h0 : 0 ≤ room) (til now : Int) :
    (putL ((acts.length : Int) + room) lb acts[k].m til now).1 = 0 ∧ ((putL room la acts[k].m til now).1 = 0 ∨ (putL room la acts[k].m til now).1 = 53) ∧
      RoomInv acts (k + 1) (putL room la acts[k].m til now).2 (putL ((acts.length : Int) + room) lb acts[k].m til now).2 := by
  have hb : hasF lb acts[k].m now = false := by
    unfold hasF
    rw [List.any_eq_false]
    intro x hx
    obtain ⟨j, hj, hjk, e⟩ := h.marks x hx
    have := hn j hj hjk
    simp [hitF, e, this]
  have ha := hasF_sub h.sub _ _ hb
  have hl := live_le lb now
  have hlen := h.len
  have hpb : putL ((acts.length : Int) + room) lb acts[k].m til now = (0, liveF lb now ++ [(acts[k].m, til)]) := putL_ok hb rfl (by omega)
  have hm : ∀ x ∈ liveF lb now ++ [(acts[k].m, til)], ∃ j, ∃ h : j < acts.length, j < k + 1 ∧ x.1 = acts[j].m := by
    intro x hx
    rcases List.mem_append.1 hx with hx | hx
    · obtain ⟨j, hj, hjk, e⟩ := h.marks x ((List.mem_filter.1 hx).1)
      exact ⟨j, hj, by omega, e⟩
    · rw [List.mem_singleton.1 hx]
      exact ⟨k, hk, by omega, rfl⟩
  rw [hpb]
  by_cases hf : room ≤ ((liveF la now).length : Int)
  · rw [putL_full ha rfl hf]
    exact ⟨rfl, .inr rfl, (live_sub h.sub now).trans (List.sublist_append_left _ _), by simp; omega, hm⟩
  · rw [putL_ok ha rfl hf]
    exact ⟨rfl, .inl rfl, (live_sub h.sub now).append (List.Sublist.refl _), by simp; omega, hm⟩

theorem keep1 {B : Nat} {W w1 w2 : World} {y o : Nat} {v4 : Value} (hb : Hid (Below w1.heap.size w1 w2))
    (h : w1.cell? ⟨y, o, none⟩ = some v4 ∧ Hid (Below B W w1)) (hB : B ≤ W.heap.size) : w2.cell? ⟨y, o, none⟩ = some v4 ∧ Hid (Below B W w2) :=
  ⟨cell_later hb.out h.1, h.2.out.trans (hb.out.mono (Nat.le_trans hB h.2.out.size))⟩
theorem s1 {B : Nat} {W w1 : World} {y o : Nat} {v4 : Value} (h : w1.cell? ⟨y, o, none⟩ = some v4 ∧ Hid (Below B W w1)) : Below B W w1 := h.2.out

noncomputable def pickLen (p g : Nat) (la lb : List (Tm × Int)) (now : Int) : Int := if p = g then lenF la now else lenF lb now
theorem lenPP {I : Nat → Prop} {W w : World} {g g' : Nat} {room room' : Int} {la lb : List (Tm × Int)} {now : Int} (h : PairPP I W w g room la g' room' lb) (hI : Old I w) (hg : g ≠ g') (hl : la.length ≤ 1048576) (hl' : lb.length ≤ 1048576) (p : Nat) (hp : p = g ∨ p = g') :
    Calls Try.prog 17 #[.pointer (some ⟨p, 0, none⟩), .int .i64 now] w fun e w' => e = .returned (.int .i64 (pickLen p g la lb now)) ∧ Below w.heap.size w w' := by
  rcases hp with rfl | rfl
  · have e : pickLen p p la lb now = lenF la now := if_pos rfl
    rw [e]
    exact lenP h hI hl
  · have e : pickLen p g la lb now = lenF lb now := if_neg (fun h => hg h.symm)
    rw [e]
    exact lenP h.swap hI hl'


set_option maxHeartbeats 4000000 in
set_option maxRecDepth 100000 in
theorem room_any (W : World) (room : Int) (va : Value) (l : List Act) (ha : RActs (There W) W va l) :
    Calls Try.prog 4 #[.int .i64 room, va] W fun e w' => e = .returned (.bool true) ∧ Below W.heap.size W w' := by
  obtain ⟨a, cap, rfl, hmax⟩ := ha.form
  have HA := Lib.hid ha
  have HT := Lib.hid (There.old W)
  clear ha
  go_enter Try.func4, Try.ntmps4
  go_wp2_with fail
  refine (works_any W).mono ?_
  rintro e w1 ⟨rfl, hb⟩
  have D1 := Lib.hid hb
  clear hb
  go_wp2_with fail
  refine (over_any (There W) w1 _ l (HT.out.on D1.out) (HA.out.on HT.out D1.out)).mono ?_
  rintro e w2 ⟨b, rfl, hov, hb⟩
  have D2 := Lib.hid (D1.out.trans (hb.mono D1.out.size))
  clear hb
  cases b with
  | true =>
    go_wp2_with fail
    go_ret
    exact ⟨rfl, D2.out⟩
  | false =>
    have hl60 := hov rfl
    clear hov
    by_cases hr0 : room < 0
    · go_wp2_with fail
      go_ret
      exact ⟨rfl, D2.out⟩
    · have d0 : decide (room < 0) = false := by simp; omega
      by_cases hr1 : 100 < room
      · go_wp2_with fail
        go_ret
        exact ⟨rfl, D2.out⟩
      · have d1 : decide (100 < room) = false := by simp; omega
        have hr0' : 0 ≤ room := by omega
        have hr1' : room ≤ 100 := by omega
        have R1 := Lib.hid (roomF_pos hr0')
        have R2 := Lib.hid (roomF_pos (room := (l.length : Int) + room) (by omega))
        have k1 : IntKind.i64.wrap ((l.length : Int) + room) = (l.length : Int) + room := IntWalk.i64_in _ (by omega)
        go_wp2_with fail
        refine (new_any w2 room).mono ?_
        rintro e w4 ⟨rfl, h4⟩
        have H4 := Lib.hid h4
        clear h4
        go_wp2_with fail
        refine (new_any w4 ((l.length : Int) + room)).mono ?_
        rintro e w5 ⟨rfl, h5⟩
        have hP : PairPP (There W) W w5 w2.heap.size room [] (w2.heap.size + 1) ((l.length : Int) + room) [] := by
          rw [h5, H4.out, R1.out, R2.out]
          exact PairS.of_new (HT.out.on D2.out) D2.out rfl rfl
        have h6 : w4.heap.size = w2.heap.size + 1 := by rw [H4.out]; simp
        have HP := Lib.hid hP
        rw [h6]
        have RI := Lib.hid (RoomInv.zero l)
        generalize w2.heap.size = gc at *
        clear H4 h5 h6 hP R1 R2
        go_wp2_with fail
        go_loopw [8] (fun i wr => ∃ (k : Nat) (la lb : List (Tm × Int)), k ≤ l.length ∧ i = .int .i64 k ∧ Hid (RoomInv l k la lb) ∧ Hid (PairPP (There W) W wr gc room la (gc + 1) ((l.length : Int) + room) lb)) (fun i _ => l.length - (intOf i).toNat)
        case atStart => exact ⟨0, [], [], Nat.zero_le _, rfl, RI.out, HP.out⟩
        case round =>
          obtain ⟨k, la, lb, hk1, rfl, hri, hp⟩ := hrel
          have DR := Lib.hid hp.out.below
          have hll := hri.out.sub.length_le
          have hlb := hri.out.len
          generalize hz : (k : Int) = z
          have HZ := Lib.hid hz
          have z0 : 0 ≤ z := by omega
          have z1 : z.toNat = k := by omega
          have zw : IntKind.i64.wrap (z + 1) = z + 1 := IntWalk.i64_in _ (by omega)
          clear hz
          by_cases h1 : k < l.length
          · have z2 : z < (l.length : Int) := by have := HZ.out; omega
            obtain ⟨b, o, u, c, rfl, hb, hr, ht1, ht2, c0, c1, c2, c3, c4, c5⟩ := (HA.out.on HT.out DR.out).at k h1
            have hbr : b < wr.heap.size := Nat.lt_of_lt_of_le hb DR.out.size
            have HR := Lib.hid hr
            clear hr
            by_cases hk0 : 0 < z
            · have hkk : 0 < k := by omega
              have HKK := Lib.hid hkk
              have hk1l : k - 1 < l.length := by omega
              obtain ⟨b', o', u', c', e', _, _, _, _, _, _, _, _, _, p5⟩ := (HA.out.on HT.out DR.out).at (k - 1) hk1l
              injection e' with e'
              injection e' with e1 e2
              subst e1; subst e2
              clear hkk
              generalize hnow : l[k - 1].now = pnow at p5
              clear hnow
              have q1 : IntKind.i64.wrap (z - 1) = z - 1 := IntWalk.i64_in _ (by omega)
              have q2 : (0 : Int) ≤ z - 1 := by omega
              have q3 : (z - 1).toNat = k - 1 := by omega
              have q4 : z - 1 < (l.length : Int) := by omega
              have q5 : (1 : Int) ≤ z := by omega
              have q6 : z < (l.length : Int) + 1 := by omega
              have q7 : z ≤ (l.length : Int) := by omega
              by_cases ht : l[k].now < pnow
              · go_wp2_with fail
                go_region
                go_wp2_with fail
                go_ret
                exact ⟨rfl, DR.out.drew⟩
              · have d2 : decide (l[k].now < pnow) = false := by simp; omega
                go_wp2_with fail
                go_region
                clear q1 q2 q3 q4 q5 q6 q7 d2 ht p5
                have X0 : Hid (Below wr.heap.size wr wr.drew) := (Below.refl _ _).drew
                have P0 := Lib.hid (hp.out.on (HT.out.on DR.out) X0.out)
                have D0 := Lib.hid DR.out.drew
                go_wp2_with fail
                generalize wr.drew = wz at *
                clear c0 c1 c2 c3 c4 c5 HR
                obtain ⟨b', o', u0, c0', e', _, hr, _, _, c0, c1, c2, c3, c4, c5⟩ := (HA.out.on HT.out D0.out).at k h1
                injection e' with e'
                injection e' with e1 e2
                subst e1; subst e2
                have hbr0 : b < wz.heap.size := Nat.lt_of_lt_of_le hb D0.out.size
                have HR0 := Lib.hid hr
                clear hr
                refine wp_region_still_tail 16 (by kernel_rfl) (by kernel_rfl) ?_
                simp only [List.take_succ_cons, List.take_zero, List.drop_succ_cons, List.drop_zero]
                change wpStill _ _ (World.drew wz) _ _ _
                repeat still_step
                refine wpStill_nil ?_
                go_wp2_with fail
                have XZ : Hid (Below wz.heap.size wz wz.drew) := (Below.refl _ _).drew
                refine (putP (P0.out.on (HT.out.on D0.out) XZ.out) (HT.out.on (D0.out.drew)) (HR0.out.on (HT.out.on D0.out) XZ.out) ht1 (by omega)).mono ?_
                rintro e y1 ⟨rfl, hp1, _⟩
                have P1 := Lib.hid hp1
                have D4 := Lib.hid hp1.below
                clear hp1 c0 c1 c2 c3 c4 c5
                obtain ⟨b', o', u', c', e', _, hr, _, _, c0, c1, c2, c3, c4, c5⟩ := (HA.out.on HT.out D4.out).at k h1
                injection e' with e'
                injection e' with e1 e2
                subst e1; subst e2
                have hbr1 : b < y1.heap.size := Nat.lt_of_lt_of_le hb D4.out.size
                have HR1 := Lib.hid hr
                clear hr
                go_wp2_with fail
                refine wp_region_still_tail 16 (by kernel_rfl) (by kernel_rfl) ?_
                simp only [List.take_succ_cons, List.take_zero, List.drop_succ_cons, List.drop_zero]
                change wpStill _ _ (World.drew y1) _ _ _
                repeat still_step
                refine wpStill_nil ?_
                go_wp2_with fail
                have X1 : Hid (Below y1.heap.size y1 y1.drew) := (Below.refl _ _).drew
                refine (putP (P1.out.swap.on (HT.out.on D4.out) X1.out) (HT.out.on (D4.out.drew)) (HR1.out.on (HT.out.on D4.out) X1.out) ht1 (by omega)).mono ?_
                rintro e y2 ⟨rfl, hp2, _⟩
                have P2 := Lib.hid hp2.swap
                have D5 := Lib.hid hp2.below
                have TU := Lib.hid (fun hn => hri.out.turn h1 hn room hr0' l[k].til l[k].now)
                have la1 := putL_len room la l[k].m l[k].til l[k].now
                have lb1 := putL_len ((l.length : Int) + room) lb l[k].m l[k].til l[k].now
                generalize putL room la l[k].m l[k].til l[k].now = pa at *
                generalize putL ((l.length : Int) + room) lb l[k].m l[k].til l[k].now = pb at *
                obtain ⟨ea, la2⟩ := pa
                obtain ⟨eb, lb2⟩ := pb
                simp only at P2 TU la1 lb1 ⊢
                clear hp2 c0 c1 c2 c3 c4 c5 P0 P1 HR0 HR1
                have hl3 : la2.length ≤ 1048576 := by omega
                have hl4 : lb2.length ≤ 1048576 := by omega
                go_wp2_with fail
                go_loopw [11] (fun i wr => ∃ j : Nat, j ≤ k ∧ i = .int .i64 j ∧ Hid (∀ j' (hj : j' < l.length), j' < j → sameB l[j'].m l[k].m = false) ∧ Hid (Below y2.heap.size y2 wr)) (fun i _ => k - (intOf i).toNat)
                case atStart => exact ⟨0, Nat.zero_le _, rfl, fun _ _ h => absurd h (Nat.not_lt_zero _), Below.refl _ _⟩
                case round =>
                  obtain ⟨j, hj1, rfl, hne, hb2⟩ := hrel
                  have D6 := Lib.hid (D5.out.trans (hb2.out.mono D5.out.size))
                  have hbr2 : b < wr.heap.size := Nat.lt_of_lt_of_le hb D6.out.size
                  by_cases hjk : j < k
                  · have hjz : (j : Int) < z := by omega
                    obtain ⟨b', o', u1, c1', e', _, hrj, _, _, p0, p1, p2, p3, _, _⟩ := (HA.out.on HT.out D6.out).at j (by omega)
                    injection e' with e'
                    injection e' with e1 e2
                    subst e1; subst e2
                    obtain ⟨b', o', u2, c2', e', _, hrk, _, _, p4, p5, p6, p7, _, _⟩ := (HA.out.on HT.out D6.out).at k h1
                    injection e' with e'
                    injection e' with e1 e2
                    subst e1; subst e2
                    have RJ := Lib.hid hrj
                    have RK := Lib.hid hrk
                    have hjl : j < l.length := by omega
                    have hjl2 : (j : Int) < (l.length : Int) := by omega
                    clear hrj hrk
                    go_wp2_with fail
                    refine wp_region_still_tail 10 (by kernel_rfl) (by kernel_rfl) ?_
                    simp only [List.take_succ_cons, List.take_zero, List.drop_succ_cons, List.drop_zero]
                    change wpStill _ _ (World.drew wr) _ _ _
                    repeat still_step
                    refine wpStill_nil ?_
                    go_wp2_with fail
                    have X2 : Hid (Below wr.heap.size wr wr.drew) := (Below.refl _ _).drew
                    refine (same_any l[j].m l[k].m (There W) wr.drew _ _ (HT.out.on D6.out.drew) (RJ.out.on (HT.out.on D6.out) X2.out) (RK.out.on (HT.out.on D6.out) X2.out)).mono ?_
                    rintro e z1 ⟨rfl, hbz⟩
                    have BZ := Lib.hid (X2.out.trans hbz)
                    have D7 := Lib.hid (D6.out.trans (BZ.out.mono D6.out.size))
                    have B7 := Lib.hid (hb2.out.trans (BZ.out.mono hb2.out.size))
                    clear hbz p0 p1 p2 p3 p4 p5 p6 p7
                    cases hs : sameB l[j].m l[k].m with
                    | true =>
                      clear hs
                      go_wp2_with fail
                      go_ret
                      exact ⟨rfl, D7.out⟩
                    | false =>
                      have HS := Lib.hid hs
                      clear hs
                      go_wp2_with fail
                      go_roundw
                      case rel =>
                        refine ⟨j + 1, by omega, by go_num, ?_, B7.out⟩
                        show ∀ j' (hj : j' < l.length), j' < j + 1 → sameB l[j'].m l[k].m = false
                        intro j' hj' hlt
                        by_cases hjj : j' < j
                        · exact hne.out j' hj' hjj
                        · have ejj : j' = j := by omega
                          subst ejj
                          exact HS.out
                      case measure => simp [intOf]; omega
                  · have hjz : z ≤ (j : Int) := by omega
                    have hjd : decide ((j : Int) < z) = false := by simp; omega
                    obtain ⟨hf0, he, hri2⟩ := TU.out (fun j' hj' hlt => hne.out j' hj' (by omega))
                    subst hf0
                    have RI2 := Lib.hid hri2
                    have hln := lenF_sub hri2.sub l[k].now
                    have dle : pickLen gc gc la2 lb2 l[k].now ≤ pickLen (gc + 1) gc la2 lb2 l[k].now := by simp [pickLen]; exact hln
                    have dln : decide (pickLen (gc + 1) gc la2 lb2 l[k].now < pickLen gc gc la2 lb2 l[k].now) = false := by simp; omega
                    clear hln
                    have hgg : gc ≠ gc + 1 := by omega
                    have HGG := Lib.hid hgg
                    clear hgg
                    obtain ⟨b', o', u2, c2', e', _, _, _, _, _, _, _, _, _, p5⟩ := (HA.out.on HT.out D6.out).at k h1
                    injection e' with e'
                    injection e' with e1 e2
                    subst e1; subst e2
                    have PW := Lib.hid (P2.out.on (HT.out.on D5.out) hb2.out)
                    have HI6 := Lib.hid (HT.out.on D6.out)
                    clear hri2 P2
                    rcases he with rfl | rfl
                    · go_wp2_with fail
                      first
                        | (go_region_held_law (fun w'' => w''.cell? ⟨b, o + k * 6 + 5, none⟩ = some (.int .i64 l[k].now) ∧ Hid (Below wr.heap.size wr w''))
                             (first | assumption | exact keep1 (by assumption) (by assumption) (Nat.le_refl _) | (exact ⟨by simpa using p5, (Below.refl _ _).drew⟩))
                             (first
                               | (go_at_call 17; refine (lenPP (PW.out.on HI6.out (s1 (by assumption))) (HI6.out.on (s1 (by assumption))) HGG.out hl3 hl4 _ (by first | exact .inl rfl | exact .inr rfl)).mono ?_; rintro e w1 ⟨rfl, hb'⟩; have HB' := Lib.hid hb'; clear hb')))
                        | fail
                      rename_i hS
                      have PE := Lib.hid (PW.out.on HI6.out (s1 hS))
                      clear hS
                      go_wp2_with fail
                      go_roundw
                      case rel => exact ⟨k + 1, la2, lb2, by omega, congrArg (Value.int .i64) (by have := HZ.out; omega), RI2.out, PE.out⟩
                      case measure => simp [intOf]; omega
                    · go_wp2_with fail
                      first
                        | (go_region_held3 (fun w'' => w''.cell? ⟨b, o + k * 6 + 5, none⟩ = some (.int .i64 l[k].now) ∧ Hid (Below wr.heap.size wr w''))
                             (first | assumption | exact keep1 (by assumption) (by assumption) (Nat.le_refl _) | (exact ⟨by simpa using p5, (Below.refl _ _).drew⟩))
                             (first
                               | (go_at_call 17; refine (lenPP (PW.out.on HI6.out (s1 (by assumption))) (HI6.out.on (s1 (by assumption))) HGG.out hl3 hl4 _ (by first | exact .inl rfl | exact .inr rfl)).mono ?_; rintro e w1 ⟨rfl, hb'⟩; have HB' := Lib.hid hb'; clear hb')))
                        | fail
                      rename_i hS
                      have PE := Lib.hid (PW.out.on HI6.out (s1 hS))
                      clear hS
                      go_wp2_with fail
                      go_roundw
                      case rel => exact ⟨k + 1, la2, lb2, by omega, congrArg (Value.int .i64) (by have := HZ.out; omega), RI2.out, PE.out⟩
                      case measure => simp [intOf]; omega
            · have d3 : decide ((0 : Int) < z) = false := by simp; omega
              go_wp2_with fail
              go_region
              clear d3 hk0
              have X0 : Hid (Below wr.heap.size wr wr.drew) := (Below.refl _ _).drew
              have P0 := Lib.hid (hp.out.on (HT.out.on DR.out) X0.out)
              have D0 := Lib.hid DR.out.drew
              go_wp2_with fail
              generalize wr.drew = wz at *
              clear c0 c1 c2 c3 c4 c5 HR
              obtain ⟨b', o', u0, c0', e', _, hr, _, _, c0, c1, c2, c3, c4, c5⟩ := (HA.out.on HT.out D0.out).at k h1
              injection e' with e'
              injection e' with e1 e2
              subst e1; subst e2
              have hbr0 : b < wz.heap.size := Nat.lt_of_lt_of_le hb D0.out.size
              have HR0 := Lib.hid hr
              clear hr
              refine wp_region_still_tail 16 (by kernel_rfl) (by kernel_rfl) ?_
              simp only [List.take_succ_cons, List.take_zero, List.drop_succ_cons, List.drop_zero]
              change wpStill _ _ (World.drew wz) _ _ _
              repeat still_step
              refine wpStill_nil ?_
              go_wp2_with fail
              have XZ : Hid (Below wz.heap.size wz wz.drew) := (Below.refl _ _).drew
              refine (putP (P0.out.on (HT.out.on D0.out) XZ.out) (HT.out.on (D0.out.drew)) (HR0.out.on (HT.out.on D0.out) XZ.out) ht1 (by omega)).mono ?_
              rintro e y1 ⟨rfl, hp1, _⟩
              have P1 := Lib.hid hp1
              have D4 := Lib.hid hp1.below
              clear hp1 c0 c1 c2 c3 c4 c5
              obtain ⟨b', o', u', c', e', _, hr, _, _, c0, c1, c2, c3, c4, c5⟩ := (HA.out.on HT.out D4.out).at k h1
              injection e' with e'
              injection e' with e1 e2
              subst e1; subst e2
              have hbr1 : b < y1.heap.size := Nat.lt_of_lt_of_le hb D4.out.size
              have HR1 := Lib.hid hr
              clear hr
              go_wp2_with fail
              refine wp_region_still_tail 16 (by kernel_rfl) (by kernel_rfl) ?_
              simp only [List.take_succ_cons, List.take_zero, List.drop_succ_cons, List.drop_zero]
              change wpStill _ _ (World.drew y1) _ _ _
              repeat still_step
              refine wpStill_nil ?_
              go_wp2_with fail
              have X1 : Hid (Below y1.heap.size y1 y1.drew) := (Below.refl _ _).drew
              refine (putP (P1.out.swap.on (HT.out.on D4.out) X1.out) (HT.out.on (D4.out.drew)) (HR1.out.on (HT.out.on D4.out) X1.out) ht1 (by omega)).mono ?_
              rintro e y2 ⟨rfl, hp2, _⟩
              have P2 := Lib.hid hp2.swap
              have D5 := Lib.hid hp2.below
              have TU := Lib.hid (fun hn => hri.out.turn h1 hn room hr0' l[k].til l[k].now)
              have la1 := putL_len room la l[k].m l[k].til l[k].now
              have lb1 := putL_len ((l.length : Int) + room) lb l[k].m l[k].til l[k].now
              generalize putL room la l[k].m l[k].til l[k].now = pa at *
              generalize putL ((l.length : Int) + room) lb l[k].m l[k].til l[k].now = pb at *
              obtain ⟨ea, la2⟩ := pa
              obtain ⟨eb, lb2⟩ := pb
              simp only at P2 TU la1 lb1 ⊢
              clear hp2 c0 c1 c2 c3 c4 c5 P0 P1 HR0 HR1
              have hl3 : la2.length ≤ 1048576 := by omega
              have hl4 : lb2.length ≤ 1048576 := by omega
              go_wp2_with fail
              go_loopw [11] (fun i wr => ∃ j : Nat, j ≤ k ∧ i = .int .i64 j ∧ Hid (∀ j' (hj : j' < l.length), j' < j → sameB l[j'].m l[k].m = false) ∧ Hid (Below y2.heap.size y2 wr)) (fun i _ => k - (intOf i).toNat)
              case atStart => exact ⟨0, Nat.zero_le _, rfl, fun _ _ h => absurd h (Nat.not_lt_zero _), Below.refl _ _⟩
              case round =>
                obtain ⟨j, hj1, rfl, hne, hb2⟩ := hrel
                have D6 := Lib.hid (D5.out.trans (hb2.out.mono D5.out.size))
                have hbr2 : b < wr.heap.size := Nat.lt_of_lt_of_le hb D6.out.size
                by_cases hjk : j < k
                · have hjz : (j : Int) < z := by omega
                  obtain ⟨b', o', u1, c1', e', _, hrj, _, _, p0, p1, p2, p3, _, _⟩ := (HA.out.on HT.out D6.out).at j (by omega)
                  injection e' with e'
                  injection e' with e1 e2
                  subst e1; subst e2
                  obtain ⟨b', o', u2, c2', e', _, hrk, _, _, p4, p5, p6, p7, _, _⟩ := (HA.out.on HT.out D6.out).at k h1
                  injection e' with e'
                  injection e' with e1 e2
                  subst e1; subst e2
                  have RJ := Lib.hid hrj
                  have RK := Lib.hid hrk
                  have hjl : j < l.length := by omega
                  have hjl2 : (j : Int) < (l.length : Int) := by omega
                  clear hrj hrk
                  go_wp2_with fail
                  refine wp_region_still_tail 10 (by kernel_rfl) (by kernel_rfl) ?_
                  simp only [List.take_succ_cons, List.take_zero, List.drop_succ_cons, List.drop_zero]
                  change wpStill _ _ (World.drew wr) _ _ _
                  repeat still_step
                  refine wpStill_nil ?_
                  go_wp2_with fail
                  have X2 : Hid (Below wr.heap.size wr wr.drew) := (Below.refl _ _).drew
                  refine (same_any l[j].m l[k].m (There W) wr.drew _ _ (HT.out.on D6.out.drew) (RJ.out.on (HT.out.on D6.out) X2.out) (RK.out.on (HT.out.on D6.out) X2.out)).mono ?_
                  rintro e z1 ⟨rfl, hbz⟩
                  have BZ := Lib.hid (X2.out.trans hbz)
                  have D7 := Lib.hid (D6.out.trans (BZ.out.mono D6.out.size))
                  have B7 := Lib.hid (hb2.out.trans (BZ.out.mono hb2.out.size))
                  clear hbz p0 p1 p2 p3 p4 p5 p6 p7
                  cases hs : sameB l[j].m l[k].m with
                  | true =>
                    clear hs
                    go_wp2_with fail
                    go_ret
                    exact ⟨rfl, D7.out⟩
                  | false =>
                    have HS := Lib.hid hs
                    clear hs
                    go_wp2_with fail
                    go_roundw
                    case rel =>
                      refine ⟨j + 1, by omega, by go_num, ?_, B7.out⟩
                      show ∀ j' (hj : j' < l.length), j' < j + 1 → sameB l[j'].m l[k].m = false
                      intro j' hj' hlt
                      by_cases hjj : j' < j
                      · exact hne.out j' hj' hjj
                      · have ejj : j' = j := by omega
                        subst ejj
                        exact HS.out
                    case measure => simp [intOf]; omega
                · have hjz : z ≤ (j : Int) := by omega
                  have hjd : decide ((j : Int) < z) = false := by simp; omega
                  obtain ⟨hf0, he, hri2⟩ := TU.out (fun j' hj' hlt => hne.out j' hj' (by omega))
                  subst hf0
                  have RI2 := Lib.hid hri2
                  have hln := lenF_sub hri2.sub l[k].now
                  have dle : pickLen gc gc la2 lb2 l[k].now ≤ pickLen (gc + 1) gc la2 lb2 l[k].now := by simp [pickLen]; exact hln
                  have dln : decide (pickLen (gc + 1) gc la2 lb2 l[k].now < pickLen gc gc la2 lb2 l[k].now) = false := by simp; omega
                  clear hln
                  have hgg : gc ≠ gc + 1 := by omega
                  have HGG := Lib.hid hgg
                  clear hgg
                  obtain ⟨b', o', u2, c2', e', _, _, _, _, _, _, _, _, _, p5⟩ := (HA.out.on HT.out D6.out).at k h1
                  injection e' with e'
                  injection e' with e1 e2
                  subst e1; subst e2
                  have PW := Lib.hid (P2.out.on (HT.out.on D5.out) hb2.out)
                  have HI6 := Lib.hid (HT.out.on D6.out)
                  clear hri2 P2
                  rcases he with rfl | rfl
                  · go_wp2_with fail
                    first
                      | (go_region_held_law (fun w'' => w''.cell? ⟨b, o + k * 6 + 5, none⟩ = some (.int .i64 l[k].now) ∧ Hid (Below wr.heap.size wr w''))
                           (first | assumption | exact keep1 (by assumption) (by assumption) (Nat.le_refl _) | (exact ⟨by simpa using p5, (Below.refl _ _).drew⟩))
                           (first
                             | (go_at_call 17; refine (lenPP (PW.out.on HI6.out (s1 (by assumption))) (HI6.out.on (s1 (by assumption))) HGG.out hl3 hl4 _ (by first | exact .inl rfl | exact .inr rfl)).mono ?_; rintro e w1 ⟨rfl, hb'⟩; have HB' := Lib.hid hb'; clear hb')))
                      | fail
                    rename_i hS
                    have PE := Lib.hid (PW.out.on HI6.out (s1 hS))
                    clear hS
                    go_wp2_with fail
                    go_roundw
                    case rel => exact ⟨k + 1, la2, lb2, by omega, congrArg (Value.int .i64) (by have := HZ.out; omega), RI2.out, PE.out⟩
                    case measure => simp [intOf]; omega
                  · go_wp2_with fail
                    first
                      | (go_region_held3 (fun w'' => w''.cell? ⟨b, o + k * 6 + 5, none⟩ = some (.int .i64 l[k].now) ∧ Hid (Below wr.heap.size wr w''))
                           (first | assumption | exact keep1 (by assumption) (by assumption) (Nat.le_refl _) | (exact ⟨by simpa using p5, (Below.refl _ _).drew⟩))
                           (first
                             | (go_at_call 17; refine (lenPP (PW.out.on HI6.out (s1 (by assumption))) (HI6.out.on (s1 (by assumption))) HGG.out hl3 hl4 _ (by first | exact .inl rfl | exact .inr rfl)).mono ?_; rintro e w1 ⟨rfl, hb'⟩; have HB' := Lib.hid hb'; clear hb')))
                      | fail
                    rename_i hS
                    have PE := Lib.hid (PW.out.on HI6.out (s1 hS))
                    clear hS
                    go_wp2_with fail
                    go_roundw
                    case rel => exact ⟨k + 1, la2, lb2, by omega, congrArg (Value.int .i64) (by have := HZ.out; omega), RI2.out, PE.out⟩
                    case measure => simp [intOf]; omega
          · have zx : decide (z < (l.length : Int)) = false := by simp; omega
            go_wp2_with fail
            go_ret
            exact ⟨rfl, DR.out⟩
end Go.Proofs.Ytmbclhjhmghapaa
