/- legateref15: Put. -/
import Derived.Test.YtmbclhjhmghapaaRr2
import Derived.OwnWalk
namespace Go.Proofs.Ytmbclhjhmghapaa
open Go.RowKit

theorem live_take_succ (l : List (Tm × Int)) (now : Int) (k : Nat) (h : k < l.length) : liveF (l.take (k + 1)) now = if now < l[k].2 then liveF (l.take k) now ++ [l[k]] else liveF (l.take k) now := by
  unfold liveF
  rw [List.take_succ_eq_append_getElem h, List.filter_append]
  by_cases hc : now < l[k].2 <;> simp [hc]

theorem rentry_info : (Try.prog.info? 83).map (fun i => (i.zero, i.size, i.bytes)) = some (some (.agg #[.int .i64 0, .string ByteArray.empty, .int .i64 0, .slice none 0 0, .int .i64 0]), 5, 64) := by kernel_rfl

/-- a slice of the call's own takes the cache's place -/
theorem CacheAt.turn {TC TE : Nat} {I : Nat → Prop} {w w' : World} {g : Nat} {room : Int} {v vn : Value} {l l' : List (Tm × Int)} (h : CacheAt TC TE I w g room v l) (hI : Old I w) (hb : Below w.heap.size w w') (ho : OwnSl w' TE 5 (REntry I w') vn l') (hn : ∀ b, vn.ownBlock = some b → w.heap.size ≤ b) :
    CacheAt TC TE I (w'.setCell ⟨g, 1, none⟩ vn) g room vn l' ∧ Only (CF g v) w (w'.setCell ⟨g, 1, none⟩ vn) := by
  have hg : w'.heap[g]? = some (.cells #[.int .i64 room, v] TC (0, 0)) := (hb.block g h.lt).trans h.blk
  have hx : ∀ b, b ≠ g → (w'.setCell ⟨g, 1, none⟩ vn).heap[b]? = w'.heap[b]? := fun b hb => heap_setCell_other _ _ _ _ hb
  have hgn : ∀ b, vn.ownBlock = some b → b ≠ g := fun b hb e => by have := hn b hb; have := h.lt; omega
  refine ⟨⟨?_, ?_, fun e => hgn g e rfl, h.gI, fun b hb hi => ?_⟩, ?_⟩
  · rw [heap_setCell_same _ _ _ _ _ _ hg]; rfl
  · refine ho.frame (fun k hk => hx k (hgn k hk)) fun cs x r => r.frame (fun b hi => hx b fun e => h.gI (e ▸ hi)) fun _ h => h
  · have := hn b hb; have := hI b hi; omega
  · exact (Only.of_below hb).setCell (.inl (.inl rfl)) _

set_option maxHeartbeats 4000000 in
set_option maxRecDepth 100000 in
theorem rput_any (I : Nat → Prop) (w : World) (g : Nat) (room : Int) (v : Value) (l : List (Tm × Int)) (m : Tm) (cm : List Value) (til now : Int) (hI : Old I w) (hc : CacheR I w g room v l) (hm : Rep I w cm m) (hti : InI til) (hl : l.length ≤ 1048576) :
    Calls Try.prog 16 #[.pointer (some ⟨g, 0, none⟩), .agg cm.toArray, .int .i64 til, .int .i64 now] w fun e w' =>
      e = .returned (.int .i64 (putL room l m til now).1) ∧ ∃ v', (∀ k, v'.ownBlock = some k → v.ownBlock = some k ∨ w.heap.size ≤ k) ∧ CacheR I w' g room v' (putL room l m til now).2 ∧ Only (CF g v) w w' := by
  have hlt := hc.lt
  obtain ⟨am, nm, rfl, qm, _⟩ := hm.inv
  have HM := Lib.hid hm
  have HC := Lib.hid hc
  clear hm qm hc
  go_enter Try.func16, Try.ntmps16
  go_wp2_with fail
  have hA : ∀ o, Hid (Below w.heap.size w (w.alloc o)) := fun o => (Below.refl _ _).alloc (Nat.le_refl _) _
  refine (rhas_any I _ g room v l m _ now (hI.on (hA _).out) (HC.out.on hI (hA _).out) (HM.out.on hI (hA _).out) (by omega)).mono ?_
  rintro e w1 ⟨rfl, hb⟩
  have HB := Lib.hid ((hA _).out.trans (hb.mono (hA _).out.size))
  have hblk := hb.block w.heap.size (by simp)
  rw [heap_alloc_new] at hblk
  have hsz1 : w.heap.size < w1.heap.size := by have := hb.size; simp at this; omega
  cases hh : hasF l m now with
  | true =>
    have HH := Lib.hid hh
    clear hh hblk hb
    go_wp2_with fail
    go_ret
    rw [putL_has HH.out]
    exact ⟨rfl, v, fun k hk => .inl hk, HC.out.on hI HB.out, .of_below HB.out⟩
  | false =>
    have HH := Lib.hid hh
    clear hh hb
    have HI1 := Lib.hid (hI.on HB.out)
    have HC1 := Lib.hid (HC.out.on hI HB.out)
    have HM1 := Lib.hid (HM.out.on hI HB.out)
    have HBLK := Lib.hid hblk
    clear hblk
    obtain ⟨i0, hi0, hz0, hz1, hz2⟩ := info_parts rentry_info
    have HI0 := Lib.hid hi0
    have HZ0 := Lib.hid hz0
    have HZ1 := Lib.hid hz1
    have HZ2 := Lib.hid hz2
    clear hi0 hz0 hz1 hz2
    have hlt1 : g < w1.heap.size := HC1.out.lt
    have HVF := Lib.hid HC1.out.own.form
    go_wp2_with fail
    go_loopw [9, 10] (fun vn i wr => ∃ k : Nat, k ≤ l.length ∧ i = .int .i64 k ∧ Hid (OwnSl wr 83 5 (REntry I wr) vn (liveF (l.take k) now)) ∧ Hid (∀ b, vn.ownBlock = some b → w1.heap.size ≤ b) ∧ Hid (Below w1.heap.size w1 wr)) (fun _ i _ => l.length - (intOf i).toNat)
    case atStart => exact ⟨0, Nat.zero_le _, rfl, OwnSl.nil _ _ _ _, fun b hb => (by cases hb), Below.refl _ _⟩
    case round =>
      obtain ⟨k, hk1, rfl, ho, hvn, hbl⟩ := hrel
      have hcr := HC1.out.on HI1.out hbl.out
      have g1 : wr.cell? ⟨g, 1, none⟩ = some v := by simp [World.cell?, hcr.blk]
      have hgr : g < wr.heap.size := Nat.lt_of_lt_of_le hlt1 hbl.out.size
      rcases HVF.out with ⟨rfl, rfl⟩ | ⟨B, cap, rfl, hB, hcap⟩
      · have hk0 : k = 0 := by simpa using hk1
        subst hk0
        have hoo := ho.out
        rw [List.take_nil] at hoo
        have hl2 := Nat.le_trans (live_le [] now) hl
        generalize hL : liveF [] now = l2 at *
        have HL := Lib.hid hL
        have HT := Lib.hid (HC1.out.turn HI1.out hbl.out hoo hvn.out)
        have hform := hoo.form
        have g0 : wr.cell? ⟨g, 0, none⟩ = some (.int .i64 room) := by simp [World.cell?, hcr.blk]
        have hfz : wr.frozen? ⟨g, 1, none⟩ = false := frozen_of_block hcr.blk _
        have HBR := Lib.hid ((hbl.out.block w.heap.size hsz1).trans HBLK.out)
        have hsz2 : w.heap.size < wr.heap.size := Nat.lt_of_lt_of_le hsz1 hbl.out.size
        have hHgN : w.heap.size ≠ g := by omega
        have HMW := Lib.hid (HM1.out.on HI1.out hbl.out)
        clear hL hoo ho hcr
        have hmax : l2.length + 1 ≤ maxLen := by simp [maxLen]; omega
        rcases hform with ⟨rfl, rfl⟩ | ⟨B2, cap2, rfl, hB2, hcap2⟩
        · by_cases hf : room ≤ (0 : Int)
          · have HP := Lib.hid (putL_full (til := til) HH.out HL.out hf)
            go_wp2_with fail
            go_ret
            rw [HP.out]
            exact ⟨rfl, _, fun b hb => .inr (Nat.le_trans (Nat.le_of_lt hsz1) (hvn.out b hb)), HT.out.1, (Only.of_below HB.out).trans HT.out.2⟩
          · have HP := Lib.hid (putL_ok (til := til) HH.out HL.out hf)
            have HBX := Lib.hid ((heap_setCell_other wr ⟨g, 1, none⟩ w.heap.size (.slice none 0 0) hHgN).trans HBR.out)
            have HMX := Lib.hid (HMW.out.frame (w' := wr.setCell ⟨g, 1, none⟩ (.slice none 0 0)) (fun b hi => heap_setCell_other wr ⟨g, 1, none⟩ b _ (fun e => HC1.out.gI ((show b = g from e) ▸ hi))) (fun _ h => h))
            have hszX : Hid ((wr.setCell ⟨g, 1, none⟩ (.slice none 0 0)).heap.size = wr.heap.size) := by show _ = _; simp
            have HFR : Hid (∀ b, (Value.slice none 0 0).ownBlock = some b → w1.heap.size ≤ b) := hvn
            go_wp2_with fail
            generalize hX : wr.setCell ⟨g, 1, none⟩ (.slice none 0 0) = w2 at *
            clear hX
            have m0 : w2.cell? ⟨w.heap.size, 0, none⟩ = some (.int .i64 m.k) := by simp [World.cell?, HBX.out]
            have m1 : w2.cell? ⟨w.heap.size, 1, none⟩ = some (.string m.s) := by simp [World.cell?, HBX.out]
            have m2 : w2.cell? ⟨w.heap.size, 2, none⟩ = some (.int .i64 m.n) := by simp [World.cell?, HBX.out]
            have m3 : w2.cell? ⟨w.heap.size, 3, none⟩ = some (.slice am m.l.length nm) := by simp [World.cell?, HBX.out]
            have g1X : w2.cell? ⟨g, 1, none⟩ = some (.slice none 0 0) := by simp [World.cell?, HT.out.1.blk]
            have hltX : g < w2.heap.size := HT.out.1.lt
            have hHX : w.heap.size < w2.heap.size := by rw [hszX.out]; exact hsz2
            obtain ⟨css, hown, ha⟩ := HT.out.1.own
            have HOW := Lib.hid hown
            have HA := Lib.hid ha
            have hBgX : ∀ b, (Value.slice none 0 0).ownBlock = some b → b ≠ g := fun b hb e => by have := HFR.out b hb; omega
            have hBHX : ∀ b, (Value.slice none 0 0).ownBlock = some b → b ≠ w.heap.size := fun b hb e => by have := HFR.out b hb; omega
            clear hown ha
            go_region_law
              (first
                | (refine step_append_lies _ (by rfl) _ _ _ (by rfl) 0 83 i0 _ 5 64 Try.underlying76 HI0.out HZ0.out HZ1.out HZ2.out rfl (by omega) _ 0 css.flatten (by rfl) ((HOW.out.alloc _).drew) ⟨w2.heap.size, 0, none⟩ 1 1 [.int .i64 m.k, .string m.s, .int .i64 m.n, .slice am m.l.length nm, .int .i64 til] (by rfl) (by rfl) (World.news_of_block (cs := #[.int .i64 m.k, .string m.s, .int .i64 m.n, .slice am m.l.length nm, .int .i64 til]) (t := 83) (fr := (0, 0)) (heap_alloc_new w2 _)) (by simp [Value.oneCell']) (by omega) hmax (by omega) (Nat.zero_le _) (w2.heap.size + 1) (by simp) ?_
                   intro gg cap1 w3 hown1 hgrow hat hlt3
                   have hneg : some g ≠ (Value.slice none 0 0).ownBlock := fun e => (by cases e)
                   have hfz3 : w3.frozen? ⟨g, 1, none⟩ = false := (hgrow.frozen_far ⟨g, 1, none⟩ (by simp; omega) hneg).trans (frozen_of_block ((heap_alloc_old w2.drew _ hltX).trans HT.out.1.blk) _)
                   have hc3 := (hgrow.cell_far ⟨g, 1, none⟩ (by simp; omega) hneg).trans (World.cell?_of_block (w := w2) (heap_alloc_old w2.drew _ hltX))
                   rw [g1X] at hc3))
            all_goals
              go_wp2_with fail
              go_ret
              rw [HP.out]
              have hfin := HT.out.1.put (HI1.out.only HT.out.2) HA.out _ HMX.out hti hown1 hgrow rfl ((Only.refl _ _).alloc _).drew hat rfl
              have hall : ∀ b, b < w.heap.size → (CF g (.slice none 0 0) b → CF g (.slice none 0 0) b) := fun b hb hf => hf.imp id fun h => by have := HFR.out b h; omega
              refine ⟨rfl, _, ?_, hfin.1, ?_⟩
              · intro b hb
                right
                simp [Value.ownBlock] at hb
                subst hb
                rcases hat with h1 | h1
                · have := HFR.out _ h1; omega
                · omega
              · have h1 : Only (fun b => CF g (.slice none 0 0) b ∨ w.heap.size ≤ b) w w2 := ((Only.of_below HB.out).trans HT.out.2).mono fun b _ h => .inl h
                have h2 : Only (fun b => CF g (.slice none 0 0) b ∨ w.heap.size ≤ b) w2 (w3.setCell ⟨g, 1, none⟩ (.slice (some ⟨gg, 0, none⟩) (0 + 1) cap1)) := hfin.2.mono fun b _ h => by
                  rcases h with h | h
                  · exact .inl (.inl h)
                  · right; have := HFR.out b h; omega
                exact (h1.trans h2).mono fun b hb h => h.resolve_right (by omega)
        · by_cases hf : room ≤ (l2.length : Int)
          · have HP := Lib.hid (putL_full (til := til) HH.out HL.out hf)
            go_wp2_with fail
            go_ret
            rw [HP.out]
            exact ⟨rfl, _, fun b hb => .inr (Nat.le_trans (Nat.le_of_lt hsz1) (hvn.out b hb)), HT.out.1, (Only.of_below HB.out).trans HT.out.2⟩
          · have HP := Lib.hid (putL_ok (til := til) HH.out HL.out hf)
            have HBX := Lib.hid ((heap_setCell_other wr ⟨g, 1, none⟩ w.heap.size (.slice (some ⟨B2, 0, none⟩) l2.length cap2) hHgN).trans HBR.out)
            have HMX := Lib.hid (HMW.out.frame (w' := wr.setCell ⟨g, 1, none⟩ (.slice (some ⟨B2, 0, none⟩) l2.length cap2)) (fun b hi => heap_setCell_other wr ⟨g, 1, none⟩ b _ (fun e => HC1.out.gI ((show b = g from e) ▸ hi))) (fun _ h => h))
            have hszX : Hid ((wr.setCell ⟨g, 1, none⟩ (.slice (some ⟨B2, 0, none⟩) l2.length cap2)).heap.size = wr.heap.size) := by show _ = _; simp
            have HFR : Hid (∀ b, (Value.slice (some ⟨B2, 0, none⟩) l2.length cap2).ownBlock = some b → w1.heap.size ≤ b) := hvn
            go_wp2_with fail
            generalize hX : wr.setCell ⟨g, 1, none⟩ (.slice (some ⟨B2, 0, none⟩) l2.length cap2) = w2 at *
            clear hX
            have m0 : w2.cell? ⟨w.heap.size, 0, none⟩ = some (.int .i64 m.k) := by simp [World.cell?, HBX.out]
            have m1 : w2.cell? ⟨w.heap.size, 1, none⟩ = some (.string m.s) := by simp [World.cell?, HBX.out]
            have m2 : w2.cell? ⟨w.heap.size, 2, none⟩ = some (.int .i64 m.n) := by simp [World.cell?, HBX.out]
            have m3 : w2.cell? ⟨w.heap.size, 3, none⟩ = some (.slice am m.l.length nm) := by simp [World.cell?, HBX.out]
            have g1X : w2.cell? ⟨g, 1, none⟩ = some (.slice (some ⟨B2, 0, none⟩) l2.length cap2) := by simp [World.cell?, HT.out.1.blk]
            have hltX : g < w2.heap.size := HT.out.1.lt
            have hHX : w.heap.size < w2.heap.size := by rw [hszX.out]; exact hsz2
            obtain ⟨css, hown, ha⟩ := HT.out.1.own
            have HOW := Lib.hid hown
            have HA := Lib.hid ha
            have hBgX : ∀ b, (Value.slice (some ⟨B2, 0, none⟩) l2.length cap2).ownBlock = some b → b ≠ g := fun b hb e => by have := HFR.out b hb; omega
            have hBHX : ∀ b, (Value.slice (some ⟨B2, 0, none⟩) l2.length cap2).ownBlock = some b → b ≠ w.heap.size := fun b hb e => by have := HFR.out b hb; omega
            clear hown ha
            go_region_law
              (first
                | (refine step_append_lies _ (by rfl) _ _ _ (by rfl) 0 83 i0 _ 5 64 Try.underlying76 HI0.out HZ0.out HZ1.out HZ2.out rfl (by omega) _ l2.length css.flatten (by rfl) ((HOW.out.alloc _).drew) ⟨w2.heap.size, 0, none⟩ 1 1 [.int .i64 m.k, .string m.s, .int .i64 m.n, .slice am m.l.length nm, .int .i64 til] (by rfl) (by rfl) (World.news_of_block (cs := #[.int .i64 m.k, .string m.s, .int .i64 m.n, .slice am m.l.length nm, .int .i64 til]) (t := 83) (fr := (0, 0)) (heap_alloc_new w2 _)) (by simp [Value.oneCell']) (by omega) hmax (by omega) (Nat.zero_le _) (w2.heap.size + 1) (by simp) ?_
                   intro gg cap1 w3 hown1 hgrow hat hlt3
                   have hneg : some g ≠ (Value.slice (some ⟨B2, 0, none⟩) l2.length cap2).ownBlock := fun e => hBgX g e.symm rfl
                   have hfz3 : w3.frozen? ⟨g, 1, none⟩ = false := (hgrow.frozen_far ⟨g, 1, none⟩ (by simp; omega) hneg).trans (frozen_of_block ((heap_alloc_old w2.drew _ hltX).trans HT.out.1.blk) _)
                   have hc3 := (hgrow.cell_far ⟨g, 1, none⟩ (by simp; omega) hneg).trans (World.cell?_of_block (w := w2) (heap_alloc_old w2.drew _ hltX))
                   rw [g1X] at hc3))
            all_goals
              go_wp2_with fail
              go_ret
              rw [HP.out]
              have hfin := HT.out.1.put (HI1.out.only HT.out.2) HA.out _ HMX.out hti hown1 hgrow rfl ((Only.refl _ _).alloc _).drew hat rfl
              have hall : ∀ b, b < w.heap.size → (CF g (.slice (some ⟨B2, 0, none⟩) l2.length cap2) b → CF g (.slice none 0 0) b) := fun b hb hf => hf.imp id fun h => by have := HFR.out b h; omega
              refine ⟨rfl, _, ?_, hfin.1, ?_⟩
              · intro b hb
                right
                simp [Value.ownBlock] at hb
                subst hb
                rcases hat with h1 | h1
                · have := HFR.out _ h1; omega
                · omega
              · have h1 : Only (fun b => CF g (.slice none 0 0) b ∨ w.heap.size ≤ b) w w2 := ((Only.of_below HB.out).trans HT.out.2).mono fun b _ h => .inl h
                have h2 : Only (fun b => CF g (.slice none 0 0) b ∨ w.heap.size ≤ b) w2 (w3.setCell ⟨g, 1, none⟩ (.slice (some ⟨gg, 0, none⟩) (l2.length + 1) cap1)) := hfin.2.mono fun b _ h => by
                  rcases h with h | h
                  · exact .inl (.inl h)
                  · right; have := HFR.out b h; omega
                exact (h1.trans h2).mono fun b hb h => h.resolve_right (by omega)
      · by_cases h1 : k < l.length
        · obtain ⟨a, c, q, hr, hu, c0, c1, c2, c3, c4⟩ := hcr.at k h1
          have hBr : B < wr.heap.size := Nat.lt_of_lt_of_le hB hbl.out.size
          have HR := Lib.hid hr
          clear hcr q hr
          by_cases h2 : now < l[k].2
          · have HT := Lib.hid ((live_take_succ l now k h1).trans (if_pos h2))
            obtain ⟨css, hown, ha⟩ := ho.out
            have HOW := Lib.hid hown
            have HAA := Lib.hid ha
            have hll := live_le (l.take k) now
            have htl : (l.take k).length ≤ k := List.length_take_le _ _
            generalize hL : liveF (l.take k) now = lk at *
            clear hown ha
            go_wp2_with (first
              | (at_builtin; (refine wpList_append_lies _ rfl _ _ 76 rfl 0 83 i0 _ 5 64 Try.underlying76 HI0.out HZ0.out HZ1.out HZ2.out rfl (by omega) u9 lk.length css.flatten rfl (HOW.out.alloc _) ⟨wr.heap.size, 0, none⟩ 1 1 [.int .i64 l[k].1.k, .string l[k].1.s, .int .i64 l[k].1.n, .slice a l[k].1.l.length c, .int .i64 l[k].2] rfl rfl (World.news_of_block (cs := #[.int .i64 l[k].1.k, .string l[k].1.s, .int .i64 l[k].1.n, .slice a l[k].1.l.length c, .int .i64 l[k].2]) (t := 83) (fr := (0, 0)) (heap_alloc_new wr _)) (by simp [Value.oneCell']) (by omega) (by simp [maxLen]; omega) (by omega) (Nat.zero_le _) (wr.heap.size + 1) (by simp) ?_); intro gg cap1 w3 hown1 hgrow hat hlt3)
              | fail)
            have hfresh : ∀ b, u9.ownBlock = some b → w1.heap.size ≤ b := hvn.out
            have h3 : Below w1.heap.size w1 w3 := by
              have h0 : Only (fun _ => False) w1 (wr.alloc (.cells #[.int .i64 l[k].1.k, .string l[k].1.s, .int .i64 l[k].1.n, .slice a l[k].1.l.length c, .int .i64 l[k].2] 83)) := (Only.of_below hbl.out).alloc _
              exact (h0.grown hgrow fun b hb => .inr (hfresh b hb)).below fun _ h => h.elim
            have hIw : ∀ b, I b → w3.heap[b]? = wr.heap[b]? := fun b hi => by
              have h1 := h3.block b (HI1.out b hi)
              rw [h1, ← hbl.out.block b (HI1.out b hi)]
            refine ⟨⟨k + 1, by omega, by go_num, ?_, ?_, h3⟩, by simp [intOf]; omega⟩
            · show OwnSl _ _ _ _ _ _
              rw [HT.out]
              exact OwnSl.snoc HAA.out rfl hown1 rfl (fun cs x r => r.frame hIw fun _ h => h) ⟨_, HR.out.frame hIw fun _ h => h, rfl, hu⟩
            · show ∀ b, _ → _
              intro b hb
              simp [Value.ownBlock] at hb
              subst hb
              rcases hat with h1 | h1
              · exact hfresh _ h1
              · have := hbl.out.size; omega
          · have HT := Lib.hid ((live_take_succ l now k h1).trans (if_neg h2))
            go_wp2_with fail
            refine ⟨⟨k + 1, by omega, by go_num, ?_, hvn, hbl⟩, by simp [intOf]; omega⟩
            show OwnSl _ _ _ _ _ _
            rw [HT.out]
            exact ho.out
        · have hle : l.length ≤ k := by omega
          have hoo := ho.out
          rw [List.take_of_length_le hle] at hoo
          have hl2 := Nat.le_trans (live_le l now) hl
          generalize hL : liveF l now = l2 at *
          have HL := Lib.hid hL
          have HT := Lib.hid (HC1.out.turn HI1.out hbl.out hoo hvn.out)
          have hform := hoo.form
          have g0 : wr.cell? ⟨g, 0, none⟩ = some (.int .i64 room) := by simp [World.cell?, hcr.blk]
          have hfz : wr.frozen? ⟨g, 1, none⟩ = false := frozen_of_block hcr.blk _
          have HBR := Lib.hid ((hbl.out.block w.heap.size hsz1).trans HBLK.out)
          have hsz2 : w.heap.size < wr.heap.size := Nat.lt_of_lt_of_le hsz1 hbl.out.size
          have hHgN : w.heap.size ≠ g := by omega
          have HMW := Lib.hid (HM1.out.on HI1.out hbl.out)
          clear hL hoo ho hcr
          have hmax : l2.length + 1 ≤ maxLen := by simp [maxLen]; omega
          rcases hform with ⟨rfl, rfl⟩ | ⟨B2, cap2, rfl, hB2, hcap2⟩
          · by_cases hf : room ≤ (0 : Int)
            · have HP := Lib.hid (putL_full (til := til) HH.out HL.out hf)
              go_wp2_with fail
              go_ret
              rw [HP.out]
              exact ⟨rfl, _, fun b hb => .inr (Nat.le_trans (Nat.le_of_lt hsz1) (hvn.out b hb)), HT.out.1, (Only.of_below HB.out).trans HT.out.2⟩
            · have HP := Lib.hid (putL_ok (til := til) HH.out HL.out hf)
              have HBX := Lib.hid ((heap_setCell_other wr ⟨g, 1, none⟩ w.heap.size (.slice none 0 0) hHgN).trans HBR.out)
              have HMX := Lib.hid (HMW.out.frame (w' := wr.setCell ⟨g, 1, none⟩ (.slice none 0 0)) (fun b hi => heap_setCell_other wr ⟨g, 1, none⟩ b _ (fun e => HC1.out.gI ((show b = g from e) ▸ hi))) (fun _ h => h))
              have hszX : Hid ((wr.setCell ⟨g, 1, none⟩ (.slice none 0 0)).heap.size = wr.heap.size) := by show _ = _; simp
              have HFR : Hid (∀ b, (Value.slice none 0 0).ownBlock = some b → w1.heap.size ≤ b) := hvn
              go_wp2_with fail
              generalize hX : wr.setCell ⟨g, 1, none⟩ (.slice none 0 0) = w2 at *
              clear hX
              have m0 : w2.cell? ⟨w.heap.size, 0, none⟩ = some (.int .i64 m.k) := by simp [World.cell?, HBX.out]
              have m1 : w2.cell? ⟨w.heap.size, 1, none⟩ = some (.string m.s) := by simp [World.cell?, HBX.out]
              have m2 : w2.cell? ⟨w.heap.size, 2, none⟩ = some (.int .i64 m.n) := by simp [World.cell?, HBX.out]
              have m3 : w2.cell? ⟨w.heap.size, 3, none⟩ = some (.slice am m.l.length nm) := by simp [World.cell?, HBX.out]
              have g1X : w2.cell? ⟨g, 1, none⟩ = some (.slice none 0 0) := by simp [World.cell?, HT.out.1.blk]
              have hltX : g < w2.heap.size := HT.out.1.lt
              have hHX : w.heap.size < w2.heap.size := by rw [hszX.out]; exact hsz2
              obtain ⟨css, hown, ha⟩ := HT.out.1.own
              have HOW := Lib.hid hown
              have HA := Lib.hid ha
              have hBgX : ∀ b, (Value.slice none 0 0).ownBlock = some b → b ≠ g := fun b hb e => by have := HFR.out b hb; omega
              have hBHX : ∀ b, (Value.slice none 0 0).ownBlock = some b → b ≠ w.heap.size := fun b hb e => by have := HFR.out b hb; omega
              clear hown ha
              go_region_law
                (first
                  | (refine step_append_lies _ (by rfl) _ _ _ (by rfl) 0 83 i0 _ 5 64 Try.underlying76 HI0.out HZ0.out HZ1.out HZ2.out rfl (by omega) _ 0 css.flatten (by rfl) ((HOW.out.alloc _).drew) ⟨w2.heap.size, 0, none⟩ 1 1 [.int .i64 m.k, .string m.s, .int .i64 m.n, .slice am m.l.length nm, .int .i64 til] (by rfl) (by rfl) (World.news_of_block (cs := #[.int .i64 m.k, .string m.s, .int .i64 m.n, .slice am m.l.length nm, .int .i64 til]) (t := 83) (fr := (0, 0)) (heap_alloc_new w2 _)) (by simp [Value.oneCell']) (by omega) hmax (by omega) (Nat.zero_le _) (w2.heap.size + 1) (by simp) ?_
                     intro gg cap1 w3 hown1 hgrow hat hlt3
                     have hneg : some g ≠ (Value.slice none 0 0).ownBlock := fun e => (by cases e)
                     have hfz3 : w3.frozen? ⟨g, 1, none⟩ = false := (hgrow.frozen_far ⟨g, 1, none⟩ (by simp; omega) hneg).trans (frozen_of_block ((heap_alloc_old w2.drew _ hltX).trans HT.out.1.blk) _)
                     have hc3 := (hgrow.cell_far ⟨g, 1, none⟩ (by simp; omega) hneg).trans (World.cell?_of_block (w := w2) (heap_alloc_old w2.drew _ hltX))
                     rw [g1X] at hc3))
              all_goals
                go_wp2_with fail
                go_ret
                rw [HP.out]
                have hfin := HT.out.1.put (HI1.out.only HT.out.2) HA.out _ HMX.out hti hown1 hgrow rfl ((Only.refl _ _).alloc _).drew hat rfl
                have hall : ∀ b, b < w.heap.size → (CF g (.slice none 0 0) b → CF g (.slice (some ⟨B, 0, none⟩) l.length cap) b) := fun b hb hf => hf.imp id fun h => by have := HFR.out b h; omega
                refine ⟨rfl, _, ?_, hfin.1, ?_⟩
                · intro b hb
                  right
                  simp [Value.ownBlock] at hb
                  subst hb
                  rcases hat with h1 | h1
                  · have := HFR.out _ h1; omega
                  · omega
                · have h1 : Only (fun b => CF g (.slice (some ⟨B, 0, none⟩) l.length cap) b ∨ w.heap.size ≤ b) w w2 := ((Only.of_below HB.out).trans HT.out.2).mono fun b _ h => .inl h
                  have h2 : Only (fun b => CF g (.slice (some ⟨B, 0, none⟩) l.length cap) b ∨ w.heap.size ≤ b) w2 (w3.setCell ⟨g, 1, none⟩ (.slice (some ⟨gg, 0, none⟩) (0 + 1) cap1)) := hfin.2.mono fun b _ h => by
                    rcases h with h | h
                    · exact .inl (.inl h)
                    · right; have := HFR.out b h; omega
                  exact (h1.trans h2).mono fun b hb h => h.resolve_right (by omega)
          · by_cases hf : room ≤ (l2.length : Int)
            · have HP := Lib.hid (putL_full (til := til) HH.out HL.out hf)
              go_wp2_with fail
              go_ret
              rw [HP.out]
              exact ⟨rfl, _, fun b hb => .inr (Nat.le_trans (Nat.le_of_lt hsz1) (hvn.out b hb)), HT.out.1, (Only.of_below HB.out).trans HT.out.2⟩
            · have HP := Lib.hid (putL_ok (til := til) HH.out HL.out hf)
              have HBX := Lib.hid ((heap_setCell_other wr ⟨g, 1, none⟩ w.heap.size (.slice (some ⟨B2, 0, none⟩) l2.length cap2) hHgN).trans HBR.out)
              have HMX := Lib.hid (HMW.out.frame (w' := wr.setCell ⟨g, 1, none⟩ (.slice (some ⟨B2, 0, none⟩) l2.length cap2)) (fun b hi => heap_setCell_other wr ⟨g, 1, none⟩ b _ (fun e => HC1.out.gI ((show b = g from e) ▸ hi))) (fun _ h => h))
              have hszX : Hid ((wr.setCell ⟨g, 1, none⟩ (.slice (some ⟨B2, 0, none⟩) l2.length cap2)).heap.size = wr.heap.size) := by show _ = _; simp
              have HFR : Hid (∀ b, (Value.slice (some ⟨B2, 0, none⟩) l2.length cap2).ownBlock = some b → w1.heap.size ≤ b) := hvn
              go_wp2_with fail
              generalize hX : wr.setCell ⟨g, 1, none⟩ (.slice (some ⟨B2, 0, none⟩) l2.length cap2) = w2 at *
              clear hX
              have m0 : w2.cell? ⟨w.heap.size, 0, none⟩ = some (.int .i64 m.k) := by simp [World.cell?, HBX.out]
              have m1 : w2.cell? ⟨w.heap.size, 1, none⟩ = some (.string m.s) := by simp [World.cell?, HBX.out]
              have m2 : w2.cell? ⟨w.heap.size, 2, none⟩ = some (.int .i64 m.n) := by simp [World.cell?, HBX.out]
              have m3 : w2.cell? ⟨w.heap.size, 3, none⟩ = some (.slice am m.l.length nm) := by simp [World.cell?, HBX.out]
              have g1X : w2.cell? ⟨g, 1, none⟩ = some (.slice (some ⟨B2, 0, none⟩) l2.length cap2) := by simp [World.cell?, HT.out.1.blk]
              have hltX : g < w2.heap.size := HT.out.1.lt
              have hHX : w.heap.size < w2.heap.size := by rw [hszX.out]; exact hsz2
              obtain ⟨css, hown, ha⟩ := HT.out.1.own
              have HOW := Lib.hid hown
              have HA := Lib.hid ha
              have hBgX : ∀ b, (Value.slice (some ⟨B2, 0, none⟩) l2.length cap2).ownBlock = some b → b ≠ g := fun b hb e => by have := HFR.out b hb; omega
              have hBHX : ∀ b, (Value.slice (some ⟨B2, 0, none⟩) l2.length cap2).ownBlock = some b → b ≠ w.heap.size := fun b hb e => by have := HFR.out b hb; omega
              clear hown ha
              go_region_law
                (first
                  | (refine step_append_lies _ (by rfl) _ _ _ (by rfl) 0 83 i0 _ 5 64 Try.underlying76 HI0.out HZ0.out HZ1.out HZ2.out rfl (by omega) _ l2.length css.flatten (by rfl) ((HOW.out.alloc _).drew) ⟨w2.heap.size, 0, none⟩ 1 1 [.int .i64 m.k, .string m.s, .int .i64 m.n, .slice am m.l.length nm, .int .i64 til] (by rfl) (by rfl) (World.news_of_block (cs := #[.int .i64 m.k, .string m.s, .int .i64 m.n, .slice am m.l.length nm, .int .i64 til]) (t := 83) (fr := (0, 0)) (heap_alloc_new w2 _)) (by simp [Value.oneCell']) (by omega) hmax (by omega) (Nat.zero_le _) (w2.heap.size + 1) (by simp) ?_
                     intro gg cap1 w3 hown1 hgrow hat hlt3
                     have hneg : some g ≠ (Value.slice (some ⟨B2, 0, none⟩) l2.length cap2).ownBlock := fun e => hBgX g e.symm rfl
                     have hfz3 : w3.frozen? ⟨g, 1, none⟩ = false := (hgrow.frozen_far ⟨g, 1, none⟩ (by simp; omega) hneg).trans (frozen_of_block ((heap_alloc_old w2.drew _ hltX).trans HT.out.1.blk) _)
                     have hc3 := (hgrow.cell_far ⟨g, 1, none⟩ (by simp; omega) hneg).trans (World.cell?_of_block (w := w2) (heap_alloc_old w2.drew _ hltX))
                     rw [g1X] at hc3))
              all_goals
                go_wp2_with fail
                go_ret
                rw [HP.out]
                have hfin := HT.out.1.put (HI1.out.only HT.out.2) HA.out _ HMX.out hti hown1 hgrow rfl ((Only.refl _ _).alloc _).drew hat rfl
                have hall : ∀ b, b < w.heap.size → (CF g (.slice (some ⟨B2, 0, none⟩) l2.length cap2) b → CF g (.slice (some ⟨B, 0, none⟩) l.length cap) b) := fun b hb hf => hf.imp id fun h => by have := HFR.out b h; omega
                refine ⟨rfl, _, ?_, hfin.1, ?_⟩
                · intro b hb
                  right
                  simp [Value.ownBlock] at hb
                  subst hb
                  rcases hat with h1 | h1
                  · have := HFR.out _ h1; omega
                  · omega
                · have h1 : Only (fun b => CF g (.slice (some ⟨B, 0, none⟩) l.length cap) b ∨ w.heap.size ≤ b) w w2 := ((Only.of_below HB.out).trans HT.out.2).mono fun b _ h => .inl h
                  have h2 : Only (fun b => CF g (.slice (some ⟨B, 0, none⟩) l.length cap) b ∨ w.heap.size ≤ b) w2 (w3.setCell ⟨g, 1, none⟩ (.slice (some ⟨gg, 0, none⟩) (l2.length + 1) cap1)) := hfin.2.mono fun b _ h => by
                    rcases h with h | h
                    · exact .inl (.inl h)
                    · right; have := HFR.out b h; omega
                  exact (h1.trans h2).mono fun b hb h => h.resolve_right (by omega)
end Go.Proofs.Ytmbclhjhmghapaa
