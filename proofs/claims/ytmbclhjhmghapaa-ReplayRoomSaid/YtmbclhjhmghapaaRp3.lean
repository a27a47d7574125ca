/- Package replay: clean. -/
import Derived.Test.YtmbclhjhmghapaaRp2
import Derived.Test.YtmbclhjhmghapaaCopy
import Derived.StillTailTactics
namespace Go.Proofs.Ytmbclhjhmghapaa
open Go.RowKit

def lenAt (w : World) (g : Nat) : Nat := match w.cell? ⟨g, 1, none⟩ with | some (.slice _ n _) => n | _ => 0
noncomputable def liveF (l : List (Tm × Int)) (now : Int) : List (Tm × Int) := l.filter fun x => decide (now < x.2)

theorem entry_one (I : Nat → Prop) (w : World) : ∀ cs x, REntry I w cs x → ∀ u ∈ cs, u.oneCell' = true := by
  rintro cs x ⟨ct, h1, h2, _⟩ u hu
  obtain ⟨a, c, e, _⟩ := h1.inv
  rw [h2, e] at hu
  simp at hu
  rcases hu with rfl | rfl | rfl | rfl | rfl <;> rfl

/-- a scope that begins with some code and a label to which alone the run jumps back -/
theorem wp_scope_head {P : Program} {a : Act} {w : World} {Q : Exit → Act → World → Prop} {init rest : Code} (l : Nat) (J : Act → World → Prop) (μ : Act → World → Nat)
    (hf : findLabel (.seq init (.seq (.label l) rest)) l = some (.seq .skip rest)) (h0 : init.wp P (Exit.then J (fun _ _ _ => False)) a w)
    (pass : ∀ a w, J a w → rest.wp P (Exit.jump l (fun a' w' => J a' w' ∧ μ a' w' < μ a w) Q) a w) : (Code.scope (.seq init (.seq (.label l) rest))).wp P Q a w := by
  refine wp_scope_jumps l J μ hf ?_ (fun a w h => wp_seq (wp_skip (pass a w h)))
  refine wp_seq (Code.wp_mono (fun e a' w' h => ?_) h0)
  cases e with
  | normal =>
    refine wp_seq (wp_label ?_)
    refine Code.wp_mono (fun e a'' w'' h' => ?_) (pass a' w' h)
    cases e <;> first | exact h' | exact ⟨h'.1, h'.2.1⟩
  | _ => exact h.elim

/-- what holds at the label -/
structure CleanInv (I : Nat → Prop) (w : World) (g B cap : Nat) (room : Int) (now : Int) (l : List (Tm × Int)) (k : Nat) (l' : List (Tm × Int)) (w' : World) : Prop where
  at_ : CacheP I w' g room (.slice (some ⟨B, 0, none⟩) l'.length cap) l'
  le : k ≤ l'.length
  le2 : l'.length ≤ l.length
  live : ∀ x ∈ l'.take k, now < x.2
  same : liveF l' now = liveF l now
  only : Only (fun b => b = g ∨ b = B) w w'

theorem CleanInv.step {I : Nat → Prop} {w : World} {g B cap : Nat} {room now : Int} {l l' : List (Tm × Int)} {k : Nat} {w' : World} (h : CleanInv I w g B cap room now l k l' w') (hk : k < l'.length) (hn : now < l'[k].2) : CleanInv I w g B cap room now l (k + 1) l' w' := by
  refine ⟨h.at_, hk, h.le2, ?_, h.same, h.only⟩
  intro x hx
  rw [List.take_succ_eq_append_getElem hk] at hx
  rcases List.mem_append.1 hx with hx | hx
  · exact h.live x hx
  · rw [List.mem_singleton.1 hx]; exact hn

theorem frozen_of_block {w : World} {b : Nat} {c : Array Value} {t : TypeId} (h : w.heap[b]? = some (.cells c t (0, 0))) (o : Nat) : w.frozen? ⟨b, o, none⟩ = false := by simp [World.frozen?, h]

/-- an element that does not live is taken out -/
theorem CleanInv.del {I : Nat → Prop} {w : World} {g B cap : Nat} {room now : Int} {l l' : List (Tm × Int)} {k : Nat} {w' : World} (h : CleanInv I w g B cap room now l k l' w') (hk : k < l'.length) (hn : l'[k].2 ≤ now) (hBg : B ≠ g)
    {cur : Array Value} {cs : List Value} (hcur : w'.heap[B]? = some (.cells cur 81 (0, 0)))
    (hdel : ∀ w'' : World, w''.heap[B]? = some (.cells (cur.toList.take (k * 5) ++ cs ++ cur.toList.drop (k * 5 + cs.length)).toArray 81 (0, 0)) →
      ∀ R' : List Value → Tm × Int → Prop, (∀ cs x, REntry I w' cs x → R' cs x) → OwnSl w'' 81 5 R' (.slice (some ⟨B, 0, none⟩) (l'.length - 1) cap) (l'.eraseIdx k)) :
    CleanInv I w g B cap room now l k (l'.eraseIdx k) (((w'.drew).setRow B (cur.toList.take (k * 5) ++ cs ++ cur.toList.drop (k * 5 + cs.length)).toArray).setCell ⟨g, 1, none⟩ (.slice (some ⟨B, 0, none⟩) (l'.length - 1) cap)).drew := by
  have hlen : (l'.eraseIdx k).length = l'.length - 1 := by rw [List.length_eraseIdx, if_pos hk]
  have hB2 : ∀ (W : World) (r : Array Value) v, ((W.setRow B r).setCell ⟨g, 1, none⟩ v).heap[B]? = (W.setRow B r).heap[B]? := fun W r v => heap_setCell_other _ _ _ _ hBg
  have hg2 : ∀ (r : Array Value) v, ((w'.drew.setRow B r).setCell ⟨g, 1, none⟩ v).heap[g]? = some (.cells #[.int .i64 room, v] 75 (0, 0)) := fun r v => by
    rw [heap_setCell_same _ _ _ _ _ _ ((setRow_other w'.drew _ _ _ (fun e => hBg e.symm)).trans h.at_.blk)]
    rfl
  have hI : ∀ (r : Array Value) v b, I b → ((w'.drew.setRow B r).setCell ⟨g, 1, none⟩ v).drew.heap[b]? = w'.heap[b]? := fun r v b hb => by
    have h1 : b ≠ g := fun e => h.at_.gI (e ▸ hb)
    have h2 : b ≠ B := fun e => h.at_.vI B rfl (e ▸ hb)
    exact (heap_setCell_other _ _ _ _ h1).trans (setRow_other _ _ _ _ h2)
  refine ⟨⟨?_, ?_, ?_, h.at_.gI, ?_⟩, ?_, ?_, ?_, ?_, ?_⟩
  · rw [hlen]; exact hg2 _ _
  · rw [hlen]
    exact hdel _ ((hB2 _ _ _).trans (setRow_heap w'.drew _ _ _ _ _ hcur)) _ fun cs x r => r.frame (hI _ _) fun _ h => h
  · intro e
    simp [Value.ownBlock] at e
    exact hBg e
  · intro b hb
    simp [Value.ownBlock] at hb
    subst hb
    exact h.at_.vI B rfl
  · rw [hlen]; have := h.le; omega
  · rw [hlen]; have := h.le2; omega
  · intro x hx
    rw [List.eraseIdx_eq_take_drop_succ, List.take_append_of_le_length (by rw [List.length_take]; have := h.le; omega), List.take_take, Nat.min_self] at hx
    exact h.live x hx
  · rw [← h.same]
    unfold liveF
    have e : l' = l'.take k ++ l'[k] :: l'.drop (k + 1) := by
      rw [← List.drop_eq_getElem_cons, List.take_append_drop]
    conv => rhs; rw [e]
    rw [List.eraseIdx_eq_take_drop_succ, List.filter_append, List.filter_append, List.filter_cons_of_neg (by simp; omega)]
  · have h0 := h.only
    exact ((h0.drew.setRow (.inl (.inr rfl)) _).setCell (.inl (.inl rfl)) _).drew

theorem CleanInv.len {I : Nat → Prop} {w : World} {g B cap : Nat} {room now : Int} {l l' : List (Tm × Int)} {k : Nat} {w' : World} (h : CleanInv I w g B cap room now l k l' w') : lenAt w' g = l'.length := by
  simp [lenAt, World.cell?, h.at_.blk]

def CleanPost (I : Nat → Prop) (w : World) (g : Nat) (v : Value) (room : Int) (now : Int) (l : List (Tm × Int)) (e : Ending) (w' : World) : Prop :=
  e = .returned (.tuple #[]) ∧ ∃ v', v'.ownBlock = v.ownBlock ∧ CacheP I w' g room v' (liveF l now) ∧ Only (CF g v) w w'

set_option maxHeartbeats 4000000 in
set_option maxRecDepth 100000 in
theorem clean_some (I : Nat → Prop) (w : World) (g B cap : Nat) (room : Int) (l : List (Tm × Int)) (now : Int) (hI : Old I w) (hc : CacheP I w g room (.slice (some ⟨B, 0, none⟩) l.length cap) l) (hl : l.length ≤ 4398046511104) :
    Calls Try.prog 41 #[.pointer (some ⟨g, 0, none⟩), .int .i64 now] w (CleanPost I w g (.slice (some ⟨B, 0, none⟩) l.length cap) room now l) := by
  have HC := Lib.hid hc
  clear hc
  go_enter Try.func41, Try.ntmps41
  refine wp_scope_head 0 (fun a' w' => ∃ (k : Nat) (l' : List (Tm × Int)) (u5 u6 u7 u8 u9 u10 u11 u12 u13 u14 u15 u16 u17 u18 u19 u20 u21 u22 u23 u24 u25 u26 u27 u28 u29 u30 u31 u32 u33 u34 u35 u36 u37 u38 u39 u40 u41 u42 u43 u44 u45 u46 u47 u48 u49 u50 u51 : Value), a' = { tmps := #[.pointer (some ⟨g, 0, none⟩), .int .i64 now, undef, undef, .int .i64 k, u5, u6, u7, u8, u9, u10, u11, u12, u13, u14, u15, u16, u17, u18, u19, u20, u21, u22, u23, u24, u25, u26, u27, u28, u29, u30, u31, u32, u33, u34, u35, u36, u37, u38, u39, u40, u41, u42, u43, u44, u45, u46, u47, u48, u49, u50, u51], defers := [] } ∧ CleanInv I w g B cap room now l k l' w')
    (fun a' w' => lenAt w' g - (intOf (a'.tmps.getD 4 undef)).toNat) rfl ?_ ?_
  · go_wp2
    exact ⟨0, l, undef, undef, undef, undef, undef, undef, undef, undef, undef, undef, undef, undef, undef, undef, undef, undef, undef, undef, undef, undef, undef, undef, undef, undef, undef, undef, undef, undef, undef, undef, undef, undef, undef, undef, undef, undef, undef, undef, undef, undef, undef, undef, undef, undef, undef, undef, undef, rfl, ⟨HC.out, Nat.zero_le _, Nat.le_refl _, by simp, rfl, Only.refl _ _⟩⟩
  · rintro a' w' ⟨k, l', u5, u6, u7, u8, u9, u10, u11, u12, u13, u14, u15, u16, u17, u18, u19, u20, u21, u22, u23, u24, u25, u26, u27, u28, u29, u30, u31, u32, u33, u34, u35, u36, u37, u38, u39, u40, u41, u42, u43, u44, u45, u46, u47, u48, u49, u50, u51, rfl, hin⟩
    have hcc := hin.at_
    have hlt := hcc.lt
    have hk := hin.le
    have hle := hin.le2
    have g1 : w'.cell? ⟨g, 1, none⟩ = some (.slice (some ⟨B, 0, none⟩) l'.length cap) := by simp [World.cell?, hcc.blk]
    have hBg : B ≠ g := fun h => hcc.ne (by simp [Value.ownBlock, h])
    by_cases h1 : k < l'.length
    · obtain ⟨a, c, q, hr, hu, c0, c1, c2, c3, c4⟩ := hcc.at k h1
      clear c0 c1 c2 c3 q hr
      have HIN := Lib.hid hin
      clear hin hcc
      by_cases h2 : now < l'[k].2
      · have H2 := Lib.hid h2
        go_wp2_with fail
        go_step3
        have ek : ((k : Int) + 1) = ((k + 1 : Nat) : Int) := by omega
        rw [ek]
        refine ⟨rfl, ⟨k + 1, l', _, _, _, _, _, _, _, _, _, _, _, _, _, _, _, _, _, _, _, _, _, _, _, _, _, _, _, _, _, _, _, _, _, _, _, _, _, _, _, _, _, _, _, _, _, _, _, rfl, HIN.out.step h1 H2.out⟩, ?_⟩
        simp [lenAt, g1, intOf]
        omega
      · have d2 : decide (now < l'[k].2) = false := by simp; omega
        obtain ⟨cur, hcur, hsz, hcap, cs, hcs, hone, hsrc, hdel⟩ := HIN.out.at_.own.del k h1 (entry_one I w')
        have hB : B < w'.heap.size := lt_of_block hcur
        have k1 : IntKind.i64.wrap ((k : Int) + 1) = (k : Int) + 1 := IntWalk.i64_in _ (by omega)
        have k2 : (0 : Int) ≤ (k : Int) + 1 := by omega
        have k3 : ((k : Int) + 1).toNat = k + 1 := by omega
        have HCUR := Lib.hid hcur
        have HCS := Lib.hid hcs
        have HONE := Lib.hid hone
        have HSRC := Lib.hid hsrc
        have HDEL := Lib.hid hdel
        have HSZ := Lib.hid hsz
        have hszE : (Try.prog.info? 81).map (·.size) = some 5 := by kernel_rfl
        have HSE := Lib.hid hszE
        clear hcur hcs hone hsrc hdel hsz hszE
        have k4 : (k : Int) + 1 ≤ (l'.length : Int) := by omega
        have k5 : ¬ cap = k := by omega
        have hkk : (k : Int) ≤ (l'.length : Int) := by omega
        have hnl : l'[k].2 ≤ now := by simpa using d2
        have N1 : Hid (cs.length = Nat.min (l'.length - (k + 1)) (l'.length - k) * 5) := by
          show _ = _
          have : Nat.min (l'.length - (k + 1)) (l'.length - k) = l'.length - k - 1 := by show min _ _ = _; omega
          rw [HCS.out, this]
        have N4 : Hid (k * 5 + cs.length ≤ cur.size) := by
          show _ ≤ _
          rw [HCS.out, HSZ.out]; omega
        have HNL := Lib.hid hnl
        have g1h : Hid (lenAt w' g = l'.length) := by show _ = _; simp [lenAt, g1]
        by_cases hck : cap = k + 1
        · subst hck
          have N1' : Hid (cs.length = Nat.min 0 (l'.length - k) * 5) := by
            show _ = _
            rw [HCS.out, show l'.length - k - 1 = 0 from by omega, show Nat.min 0 (l'.length - k) = 0 from Nat.zero_min _]
          have N3 : Hid (∀ ad, some (⟨B, 0, none⟩ : Addr) = some ad → ∀ j v, cs[j]? = some v → w'.cell? (ad.add j) = some v) := by
            intro ad _ j v hj
            have := (List.getElem?_eq_some_iff.1 hj).1
            rw [HCS.out] at this
            omega
          go_wp2_with fail
          go_region_held3 (fun w'' => w''.cell? ⟨g, 1, none⟩ = some (.slice (some ⟨B, 0, none⟩) l'.length (k + 1))) (first | assumption | exact g1 | exact (cell_setRow_other _ _ _ _ (fun h => hBg h.symm)).trans (by assumption))
            ((refine step_copy_cells (by rfl) _ _ _ _ (by rfl) 81 5 Try.underlying73 HSE.out B (k * 5) _ _ _ _ _ (by rfl) (by rfl) cur 81 HCUR.out cs N1'.out (fun h => by cases h) N3.out N4.out HONE.out ?_))
          have hg2 : ((w'.drew).setRow B (cur.toList.take (k * 5) ++ cs ++ cur.toList.drop (k * 5 + cs.length)).toArray).cell? ⟨g, 1, none⟩ = some (.slice (some ⟨B, 0, none⟩) l'.length (k + 1)) := (cell_setRow_other _ _ _ _ (fun h => hBg h.symm)).trans g1
          have hg3 : ((w'.drew).setRow B (cur.toList.take (k * 5) ++ cs ++ cur.toList.drop (k * 5 + cs.length)).toArray).frozen? ⟨g, 1, none⟩ = false := by
            exact frozen_of_block ((setRow_other _ _ _ _ (fun h => hBg h.symm)).trans HIN.out.at_.blk) _
          have HN := Lib.hid (HIN.out.del h1 HNL.out hBg HCUR.out HDEL.out)
          generalize hW : (w'.drew).setRow B (cur.toList.take (k * 5) ++ cs ++ cur.toList.drop (k * 5 + cs.length)).toArray = W at *
          clear hW g1
          have k6 : IntKind.i64.wrap ((l'.length : Int) - 1) = (l'.length : Int) - 1 := IntWalk.i64_in _ (by omega)
          have k7 : (0 : Int) ≤ (l'.length : Int) - 1 := by omega
          have k8 : ((l'.length : Int) - 1).toNat = l'.length - 1 := by omega
          have k9 : (l'.length : Int) - 1 ≤ ((k + 1) : Int) := by omega
          have k10 : (1 : Int) ≤ (l'.length : Int) := by omega
          have k11 : (l'.length : Int) ≤ ((k + 1) : Int) + 1 := by omega
          have k12 : 1 ≤ l'.length := by omega
          have k13 : l'.length ≤ (k + 1) + 1 := by omega
          have k14 : (l'.length : Int) - 1 ≤ (k : Int) + 1 := by omega
          have k15 : (l'.length : Int) ≤ (k : Int) + 1 + 1 := by omega
          have k16 : l'.length ≤ k + 1 + 1 := by omega
          go_wp2_with fail
          refine wp_region_still_tail 12 (by kernel_rfl) (by kernel_rfl) ?_
          simp only [List.take_succ_cons, List.take_zero, List.drop_succ_cons, List.drop_zero]
          change wpStill _ _ (World.drew W) _ _ _
          repeat still_step
          refine wpStill_nil ?_
          go_wp2_with fail
          go_step3
          refine ⟨rfl, ⟨k, l'.eraseIdx k, _, _, _, _, _, _, _, _, _, _, _, _, _, _, _, _, _, _, _, _, _, _, _, _, _, _, _, _, _, _, _, _, _, _, _, _, _, _, _, _, _, _, _, _, _, _, _, rfl, HN.out⟩, ?_⟩
          rw [g1h.out, HN.out.len, List.length_eraseIdx, if_pos h1]
          simp [intOf]
          omega
        · have N3 : Hid (∀ ad, some (⟨B, (k + 1) * 5, none⟩ : Addr) = some ad → ∀ j v, cs[j]? = some v → w'.cell? (ad.add j) = some v) := by
            rintro ad h j v hj
            injection h with h
            subst h
            rw [← HSRC.out j v hj]
            unfold Addr.add
            split
            · rename_i h0; subst h0; rfl
            · rfl
          go_wp2_with fail
          go_region_held3 (fun w'' => w''.cell? ⟨g, 1, none⟩ = some (.slice (some ⟨B, 0, none⟩) l'.length cap)) (first | assumption | exact g1 | exact (cell_setRow_other _ _ _ _ (fun h => hBg h.symm)).trans (by assumption))
            ((refine step_copy_cells (by rfl) _ _ _ _ (by rfl) 81 5 Try.underlying73 HSE.out B (k * 5) _ _ _ _ _ (by rfl) (by rfl) cur 81 HCUR.out cs N1.out (fun h => by cases h) N3.out N4.out HONE.out ?_))
          have hg2 : ((w'.drew).setRow B (cur.toList.take (k * 5) ++ cs ++ cur.toList.drop (k * 5 + cs.length)).toArray).cell? ⟨g, 1, none⟩ = some (.slice (some ⟨B, 0, none⟩) l'.length cap) := (cell_setRow_other _ _ _ _ (fun h => hBg h.symm)).trans g1
          have hg3 : ((w'.drew).setRow B (cur.toList.take (k * 5) ++ cs ++ cur.toList.drop (k * 5 + cs.length)).toArray).frozen? ⟨g, 1, none⟩ = false := by
            exact frozen_of_block ((setRow_other _ _ _ _ (fun h => hBg h.symm)).trans HIN.out.at_.blk) _
          have HN := Lib.hid (HIN.out.del h1 HNL.out hBg HCUR.out HDEL.out)
          generalize hW : (w'.drew).setRow B (cur.toList.take (k * 5) ++ cs ++ cur.toList.drop (k * 5 + cs.length)).toArray = W at *
          clear hW g1
          have k6 : IntKind.i64.wrap ((l'.length : Int) - 1) = (l'.length : Int) - 1 := IntWalk.i64_in _ (by omega)
          have k7 : (0 : Int) ≤ (l'.length : Int) - 1 := by omega
          have k8 : ((l'.length : Int) - 1).toNat = l'.length - 1 := by omega
          have k9 : (l'.length : Int) - 1 ≤ (cap : Int) := by omega
          have k10 : (1 : Int) ≤ (l'.length : Int) := by omega
          have k11 : (l'.length : Int) ≤ (cap : Int) + 1 := by omega
          have k12 : 1 ≤ l'.length := by omega
          have k13 : l'.length ≤ cap + 1 := by omega
          go_wp2_with fail
          refine wp_region_still_tail 12 (by kernel_rfl) (by kernel_rfl) ?_
          simp only [List.take_succ_cons, List.take_zero, List.drop_succ_cons, List.drop_zero]
          change wpStill _ _ (World.drew W) _ _ _
          repeat still_step
          refine wpStill_nil ?_
          go_wp2_with fail
          go_step3
          refine ⟨rfl, ⟨k, l'.eraseIdx k, _, _, _, _, _, _, _, _, _, _, _, _, _, _, _, _, _, _, _, _, _, _, _, _, _, _, _, _, _, _, _, _, _, _, _, _, _, _, _, _, _, _, _, _, _, _, _, rfl, HN.out⟩, ?_⟩
          rw [g1h.out, HN.out.len, List.length_eraseIdx, if_pos h1]
          simp [intOf]
          omega
    · have hle : l'.length ≤ k := by omega
      have d1 : decide (l'.length ≤ k) = true := by simp; omega
      have HIN := Lib.hid hin
      clear hin hcc
      go_wp2_with fail
      simp only [Exit.jump]
      refine bodyPost_ret (results_none rfl _ _ _) rfl ⟨rfl, .slice (some ⟨B, 0, none⟩) l'.length cap, rfl, ?_, HIN.out.only.mono ?_⟩
      · have e : liveF l now = l' := by
          rw [← HIN.out.same]
          unfold liveF
          rw [List.filter_eq_self]
          intro x hx
          have := HIN.out.live x (by rw [List.take_of_length_le hle]; exact hx)
          simpa using this
        rw [e]
        exact HIN.out.at_
      · rintro b _ (rfl | rfl)
        · exact .inl rfl
        · exact .inr rfl
end Go.Proofs.Ytmbclhjhmghapaa
