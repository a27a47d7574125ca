/- Package replay: New, clean of any cache, Put. -/
import Derived.Test.YtmbclhjhmghapaaRp3
import Derived.Deep.AppendLies
import Derived.Deep.RegionLaw
namespace Go.Proofs.Ytmbclhjhmghapaa
open Go.RowKit

def roomF (room : Int) : Int := if 0 ≤ room then room else 0
theorem roomF_pos {room : Int} (h : 0 ≤ room) : roomF room = room := if_pos h
theorem roomF_neg {room : Int} (h : ¬ 0 ≤ room) : roomF room = 0 := if_neg h

theorem new_any (w : World) (room : Int) : Calls Try.prog 13 #[.int .i64 room] w fun e w' => e = .returned (.pointer (some ⟨w.heap.size, 0, none⟩)) ∧ w' = w.alloc (.cells #[.int .i64 (roomF room), .slice none 0 0] 75) := by
  by_cases h : 0 ≤ room
  · have h2 := roomF_pos h
    have H2 := Lib.hid h2
    clear h2
    have h3 : max room 0 = room := by omega
    go_enter Try.func13, Try.ntmps13
    go_wp2_with fail
    go_ret
    exact ⟨rfl, by rw [H2.out]⟩
  · have H2 := Lib.hid (roomF_neg h)
    have h3 : max room 0 = 0 := by omega
    go_enter Try.func13, Try.ntmps13
    go_wp2_with fail
    go_ret
    exact ⟨rfl, by rw [H2.out]⟩

theorem CacheP.new {I : Nat → Prop} {w : World} (hI : Old I w) (room : Int) : CacheP I (w.alloc (.cells #[.int .i64 room, .slice none 0 0] 75)) w.heap.size room (.slice none 0 0) [] :=
  ⟨heap_alloc_new w _, .nil _ _ _ _, by simp [Value.ownBlock], fun h => by have := hI _ h; omega, by simp [Value.ownBlock]⟩

set_option maxHeartbeats 1000000 in
theorem clean_any (I : Nat → Prop) (w : World) (g : Nat) (v : Value) (room : Int) (l : List (Tm × Int)) (now : Int) (hI : Old I w) (hc : CacheP I w g room v l) (hl : l.length ≤ 4398046511104) :
    Calls Try.prog 41 #[.pointer (some ⟨g, 0, none⟩), .int .i64 now] w (CleanPost I w g v room now l) := by
  rcases hc.own.form with ⟨rfl, rfl⟩ | ⟨B, cap, rfl, hB, hcap⟩
  · have g1 : w.cell? ⟨g, 1, none⟩ = some (.slice none 0 0) := by simp [World.cell?, hc.blk]
    have HC := Lib.hid hc
    have hlt := hc.lt
    clear hc
    go_enter Try.func41, Try.ntmps41
    refine wp_scope_head 0 (fun a' w' => ∃ (u5 u6 u7 u8 u9 u10 u11 u12 u13 u14 u15 u16 u17 u18 u19 u20 u21 u22 u23 u24 u25 u26 u27 u28 u29 u30 u31 u32 u33 u34 u35 u36 u37 u38 u39 u40 u41 u42 u43 u44 u45 u46 u47 u48 u49 u50 u51 : Value), a' = { tmps := #[.pointer (some ⟨g, 0, none⟩), .int .i64 now, undef, undef, .int .i64 0, u5, u6, u7, u8, u9, u10, u11, u12, u13, u14, u15, u16, u17, u18, u19, u20, u21, u22, u23, u24, u25, u26, u27, u28, u29, u30, u31, u32, u33, u34, u35, u36, u37, u38, u39, u40, u41, u42, u43, u44, u45, u46, u47, u48, u49, u50, u51], defers := [] } ∧ w' = w)
      (fun a' w' => 0) rfl ?_ ?_
    · go_wp2
      exact ⟨undef, undef, undef, undef, undef, undef, undef, undef, undef, undef, undef, undef, undef, undef, undef, undef, undef, undef, undef, undef, undef, undef, undef, undef, undef, undef, undef, undef, undef, undef, undef, undef, undef, undef, undef, undef, undef, undef, undef, undef, undef, undef, undef, undef, undef, undef, undef, rfl, trivial⟩
    · rintro a' w' ⟨u5, u6, u7, u8, u9, u10, u11, u12, u13, u14, u15, u16, u17, u18, u19, u20, u21, u22, u23, u24, u25, u26, u27, u28, u29, u30, u31, u32, u33, u34, u35, u36, u37, u38, u39, u40, u41, u42, u43, u44, u45, u46, u47, u48, u49, u50, u51, rfl, rfl⟩
      go_wp2_with fail
      simp only [Exit.jump]
      exact bodyPost_ret (results_none rfl _ _ _) rfl ⟨rfl, _, rfl, HC.out.on hI ((Below.refl _ _)), .refl _ _⟩
  · exact clean_some I w g B cap room l now hI hc hl

noncomputable def putL (room : Int) (l : List (Tm × Int)) (m : Tm) (til now : Int) : Int × List (Tm × Int) :=
  bif hasF l m now then (52, l) else bif decide (room ≤ ((liveF l now).length : Int)) then (53, liveF l now) else (0, liveF l now ++ [(m, til)])
theorem putL_has {room : Int} {l : List (Tm × Int)} {m : Tm} {til now : Int} (h : hasF l m now = true) : putL room l m til now = (52, l) := by simp [putL, h]
theorem putL_full {room : Int} {l l' : List (Tm × Int)} {m : Tm} {til now : Int} (h : hasF l m now = false) (e : liveF l now = l') (hf : room ≤ (l'.length : Int)) : putL room l m til now = (53, l') := by simp [putL, h, e, hf]
theorem putL_ok {room : Int} {l l' : List (Tm × Int)} {m : Tm} {til now : Int} (h : hasF l m now = false) (e : liveF l now = l') (hf : ¬ room ≤ (l'.length : Int)) : putL room l m til now = (0, l' ++ [(m, til)]) := by simp [putL, h, e, hf]
theorem live_le (l : List (Tm × Int)) (now : Int) : (liveF l now).length ≤ l.length := List.length_filter_le _ _

def PutPost (I : Nat → Prop) (w : World) (g : Nat) (v : Value) (room : Int) (r : Int × List (Tm × Int)) (e : Ending) (w' : World) : Prop :=
  e = .returned (.int .i64 r.1) ∧ ∃ v', (∀ k, v'.ownBlock = some k → v.ownBlock = some k ∨ w.heap.size ≤ k) ∧ CacheP I w' g room v' r.2 ∧ Only (CF g v) w w'

theorem OwnSl.snoc {α : Type} {w : World} {E sz : Nat} {R R' : List Value → α → Prop} {v : Value} {n : Nat} {l : List α} {css : List (List Value)} {news : List Value} {x : α} (ha : All2 sz R css l) (hn : n = l.length) (ho : w.ownsRow 0 E sz v (n + 1) (css.flatten ++ news)) (hs : news.length = sz) (hR : ∀ cs x, R cs x → R' cs x) (hr : R' news x) : OwnSl w E sz R' v (l ++ [x]) := by
  refine ⟨css ++ [news], ?_, (ha.mono hR).snoc hs hr⟩
  subst hn
  simpa using ho

/-- what the append and the store leave -/
theorem CacheAt.put {TC TE : Nat} {I : Nat → Prop} {w w1 : World} {g : Nat} {room : Int} {v : Value} {l : List (Tm × Int)} (h : CacheAt TC TE I w g room v l) (hI : Old I w) {css : List (List Value)} (ha : All2 5 (REntry I w) css l) (o : Obj) {m : Tm} {ct : List Value} (hm : Rep I w ct m) {til : Int} (hti : InI til) {gg cap : Nat}
    (hown : w1.ownsRow 0 TE 5 (.slice (some ⟨gg, 0, none⟩) (l.length + 1) cap) (l.length + 1) (css.flatten ++ (ct ++ [.int .i64 til]))) {W : World} (hg : W.grownBy w1 v.ownBlock) (hW : W.heap = (w.alloc o).heap) (hO : Only (CF g v) w W) (hat : v.ownBlock = some gg ∨ gg = w.heap.size + 1) (hlen : ct.length = 4) :
    CacheAt TC TE I (w1.setCell ⟨g, 1, none⟩ (.slice (some ⟨gg, 0, none⟩) (l.length + 1) cap)) g room (.slice (some ⟨gg, 0, none⟩) (l.length + 1) cap) (l ++ [(m, til)]) ∧
      Only (CF g v) w (w1.setCell ⟨g, 1, none⟩ (.slice (some ⟨gg, 0, none⟩) (l.length + 1) cap)) := by
  have hlt := h.lt
  have hgg : gg ≠ g := by
    rintro rfl
    rcases hat with h1 | h1
    · exact h.ne h1
    · omega
  have ho1 : Only (CF g v) w w1 := by
    exact hO.grown hg fun k hk => .inl (.inr hk)
  have ho2 := ho1.setCell (p := ⟨g, 1, none⟩) (.inl (.inl rfl)) (.slice (some ⟨gg, 0, none⟩) (l.length + 1) cap)
  have hIb : ∀ b, I b → (w1.setCell ⟨g, 1, none⟩ (.slice (some ⟨gg, 0, none⟩) (l.length + 1) cap)).heap[b]? = w.heap[b]? := ho2.same hI fun b hb hf => by
    rcases hf with rfl | hf
    · exact h.gI hb
    · exact h.vI _ hf hb
  refine ⟨⟨?_, ?_, ?_, h.gI, ?_⟩, ho2⟩
  · have hb : w1.heap[g]? = some (.cells #[.int .i64 room, v] TC (0, 0)) := by
      refine (hg.block g (by rw [hW]; simp; omega) (fun e => h.ne e.symm)).trans ?_
      rw [hW]
      exact (heap_alloc_old w o hlt).trans h.blk
    rw [heap_setCell_same _ _ _ _ _ _ hb]
    rfl
  · refine (OwnSl.snoc ha rfl hown (by simp [hlen]) (fun cs x r => ?_) ?_).frame ?_ (fun _ _ r => r)
    · exact r.frame hIb fun _ h => h
    · exact ⟨ct, hm.frame hIb fun _ h => h, rfl, hti⟩
    · intro k hk
      simp [Value.ownBlock] at hk
      subst hk
      exact heap_setCell_other _ _ _ _ hgg
  · intro e
    simp [Value.ownBlock] at e
    exact hgg e
  · intro k hk hIk
    simp [Value.ownBlock] at hk
    subst hk
    rcases hat with h1 | h1
    · exact h.vI _ h1 hIk
    · have := hI _ hIk; omega

theorem entry_info : (Try.prog.info? 81).map (fun i => (i.zero, i.size, i.bytes)) = some (some (.agg #[.int .i64 0, .string ByteArray.empty, .int .i64 0, .slice none 0 0, .int .i64 0]), 5, 64) := by kernel_rfl

theorem Only.cell {F : Nat → Prop} {w w' : World} (h : Only F w w') (p : Addr) (hp : p.block < w.heap.size) (hf : ¬ F p.block) : w'.cell? p = w.cell? p := World.cell?_of_block (h.block p.block hp hf)

set_option maxHeartbeats 4000000 in
set_option maxRecDepth 100000 in
theorem put_any (I : Nat → Prop) (w : World) (g : Nat) (room : Int) (v : Value) (l : List (Tm × Int)) (m : Tm) (cm : List Value) (til now : Int) (hI : Old I w) (hc : CacheP I w g room v l) (hm : Rep I w cm m) (hti : InI til) (hl : l.length ≤ 1048576) :
    Calls Try.prog 15 #[.pointer (some ⟨g, 0, none⟩), .agg cm.toArray, .int .i64 til, .int .i64 now] w (PutPost I w g v room (putL room l m til now)) := by
  have hlt := hc.lt
  obtain ⟨am, nm, rfl, qm, _⟩ := hm.inv
  have HM := Lib.hid hm
  have HC := Lib.hid hc
  have hvl := fun k hk => hc.own.lt k hk
  have HVL := Lib.hid hvl
  clear hm qm hc hvl
  go_enter Try.func15, Try.ntmps15
  go_wp2_with fail
  have hA : ∀ o, Hid (Below w.heap.size w (w.alloc o)) := fun o => (Below.refl _ _).alloc (Nat.le_refl _) _
  refine (has_any I _ g room v l m _ now (hI.on (hA _).out) (HC.out.on hI (hA _).out) (HM.out.on hI (hA _).out) (by omega)).mono ?_
  rintro e w1 ⟨rfl, hb⟩
  have HB := Lib.hid ((hA _).out.trans (hb.mono (hA _).out.size))
  have hblk := hb.block w.heap.size (by simp)
  rw [heap_alloc_new] at hblk
  have hsz1 : w.heap.size < w1.heap.size := by have := hb.size; simp at this; omega
  cases hh : hasF l m now with
  | true =>
    have HH := Lib.hid hh
    clear hh hblk hb
    go_wp2_with fail
    go_ret
    rw [putL_has HH.out]
    exact ⟨rfl, v, fun k hk => .inl hk, HC.out.on hI HB.out, .of_below HB.out⟩
  | false =>
    have HH := Lib.hid hh
    clear hh hb
    go_wp2_with fail
    refine (clean_any I _ g v room l now (hI.on HB.out) (HC.out.on hI HB.out) (by omega)).mono ?_
    rintro e w2 ⟨rfl, v2, hv2, hc2, ho2⟩
    generalize hL : liveF l now = l2 at hc2
    have hl2 : l2.length ≤ 1048576 := by have := live_le l now; rw [hL] at this; omega
    have hHg : ∀ F : Prop, CF g v w.heap.size → F := fun F h => by
      exfalso
      rcases h with h | h
      · omega
      · have := HVL.out _ h; omega
    have hsz2 : w.heap.size < w2.heap.size := Nat.lt_of_lt_of_le hsz1 ho2.size
    have hblk2 := (ho2.block w.heap.size hsz1 (hHg False)).trans hblk
    have m0 : w2.cell? ⟨w.heap.size, 0, none⟩ = some (.int .i64 m.k) := by simp [World.cell?, hblk2]
    have m1 : w2.cell? ⟨w.heap.size, 1, none⟩ = some (.string m.s) := by simp [World.cell?, hblk2]
    have m2 : w2.cell? ⟨w.heap.size, 2, none⟩ = some (.int .i64 m.n) := by simp [World.cell?, hblk2]
    have m3 : w2.cell? ⟨w.heap.size, 3, none⟩ = some (.slice am m.l.length nm) := by simp [World.cell?, hblk2]
    have HO : Hid (Only (CF g v) w w2) := (Only.of_below HB.out).trans ho2
    have hI2 := hI.only HO.out
    have g0 : w2.cell? ⟨g, 0, none⟩ = some (.int .i64 room) := by simp [World.cell?, hc2.blk]
    have g1 : w2.cell? ⟨g, 1, none⟩ = some v2 := by simp [World.cell?, hc2.blk]
    have hlt2 := hc2.lt
    have hHgN : w.heap.size ≠ g := by omega
    have HV2 := Lib.hid hv2
    have HL := Lib.hid hL
    have hform := hc2.own.form
    have HC2 := Lib.hid hc2
    have HHG := Lib.hid hHg
    have hM2 := HM.out.frame (w' := w2) (HO.out.same hI fun b hb hf => by
      rcases hf with rfl | hf
      · exact HC.out.gI hb
      · exact HC.out.vI _ hf hb) (fun _ h => h)
    have HM2 := Lib.hid hM2
    clear hv2 hL hc2 ho2 hblk hblk2 hHg hM2
    have hmax : l2.length + 1 ≤ maxLen := by simp [maxLen]; omega
    rcases hform with ⟨rfl, rfl⟩ | ⟨B, cap, rfl, hB, hcap⟩
    · by_cases hf : room ≤ (0 : Int)
      · have HP := Lib.hid (putL_full (til := til) HH.out HL.out hf)
        go_wp2_with fail
        go_region
        go_wp2_with fail
        go_ret
        rw [HP.out]
        exact ⟨rfl, _, fun k hk => .inl (HV2.out ▸ hk), HC2.out.frame (fun _ _ => rfl) (fun _ h => h) rfl (fun _ _ => rfl) HC2.out.gI HC2.out.vI, HO.out.drew⟩
      · have HP := Lib.hid (putL_ok (til := til) HH.out HL.out hf)
        obtain ⟨css, hown, ha⟩ := HC2.out.own
        obtain ⟨i0, hi0, hz0, hz1, hz2⟩ := info_parts entry_info
        have HI0 := Lib.hid hi0
        have HZ0 := Lib.hid hz0
        have HZ1 := Lib.hid hz1
        have HZ2 := Lib.hid hz2
        have HOW := Lib.hid hown
        have HA := Lib.hid ha
        clear hi0 hz0 hz1 hz2 hown ha
        have hfz : w2.frozen? ⟨g, 1, none⟩ = false := frozen_of_block HC2.out.blk _
        go_wp2_with fail
        go_region
        go_wp2_with fail
        go_region_law
          (first
            | (refine step_append_lies _ (by rfl) _ _ _ (by rfl) 0 81 i0 _ 5 64 Try.underlying73 HI0.out HZ0.out HZ1.out HZ2.out rfl (by omega) _ 0 css.flatten (by rfl) (((HOW.out.alloc _).drew).drew) ⟨w2.heap.size, 0, none⟩ 1 1 [.int .i64 m.k, .string m.s, .int .i64 m.n, .slice am m.l.length nm, .int .i64 til] (by rfl) (by rfl) (World.news_of_block (cs := #[.int .i64 m.k, .string m.s, .int .i64 m.n, .slice am m.l.length nm, .int .i64 til]) (t := 81) (fr := (0, 0)) (heap_alloc_new w2 _)) (by simp [Value.oneCell']) (by omega) hmax (by omega) (Nat.zero_le _) (w2.heap.size + 1) (by simp) ?_
               intro gg cap1 w3 hown1 hgrow hat hlt3
               have hfz3 : w3.frozen? ⟨g, 1, none⟩ = false := (hgrow.frozen_far ⟨g, 1, none⟩ (by simp; omega) (by simp [Value.ownBlock])).trans (frozen_of_block ((heap_alloc_old w2.drew _ hlt2).trans HC2.out.blk) _)
               have hc3 := (hgrow.cell_far ⟨g, 1, none⟩ (by simp; omega) (by simp [Value.ownBlock])).trans (World.cell?_of_block (w := w2) (heap_alloc_old w2.drew _ hlt2))
               rw [g1] at hc3))
        all_goals
          go_wp2_with fail
          go_ret
          rw [HP.out]
          have hfin := HC2.out.put hI2 HA.out _ HM2.out hti hown1 hgrow rfl ((Only.refl _ _).alloc _).drew.drew hat rfl
          refine ⟨rfl, _, ?_, hfin.1, HO.out.trans (hfin.2.mono fun b _ hb => hb.imp id fun h => HV2.out.symm.trans h)⟩
          intro k hk
          simp [Value.ownBlock] at hk
          subst hk
          rcases hat with h1 | h1
          · exact .inl (HV2.out.symm.trans h1)
          · right; omega
    · by_cases hf : room ≤ (l2.length : Int)
      · have HP := Lib.hid (putL_full (til := til) HH.out HL.out hf)
        go_wp2_with fail
        go_region
        go_wp2_with fail
        go_ret
        rw [HP.out]
        exact ⟨rfl, _, fun k hk => .inl (HV2.out ▸ hk), HC2.out.frame (fun _ _ => rfl) (fun _ h => h) rfl (fun _ _ => rfl) HC2.out.gI HC2.out.vI, HO.out.drew⟩
      · have HP := Lib.hid (putL_ok (til := til) HH.out HL.out hf)
        have hBg : B ≠ g := fun e => HC2.out.ne (by rw [e]; rfl)
        have hBH : B ≠ w.heap.size := fun e => HHG.out False (.inr (HV2.out.symm.trans (by rw [e]; rfl)))
        obtain ⟨css, hown, ha⟩ := HC2.out.own
        obtain ⟨i0, hi0, hz0, hz1, hz2⟩ := info_parts entry_info
        have HI0 := Lib.hid hi0
        have HZ0 := Lib.hid hz0
        have HZ1 := Lib.hid hz1
        have HZ2 := Lib.hid hz2
        have HOW := Lib.hid hown
        have HA := Lib.hid ha
        clear hi0 hz0 hz1 hz2 hown ha
        have hfz : w2.frozen? ⟨g, 1, none⟩ = false := frozen_of_block HC2.out.blk _
        go_wp2_with fail
        go_region
        go_wp2_with fail
        go_region_law
          (first
            | (refine step_append_lies _ (by rfl) _ _ _ (by rfl) 0 81 i0 _ 5 64 Try.underlying73 HI0.out HZ0.out HZ1.out HZ2.out rfl (by omega) _ l2.length css.flatten (by rfl) (((HOW.out.alloc _).drew).drew) ⟨w2.heap.size, 0, none⟩ 1 1 [.int .i64 m.k, .string m.s, .int .i64 m.n, .slice am m.l.length nm, .int .i64 til] (by rfl) (by rfl) (World.news_of_block (cs := #[.int .i64 m.k, .string m.s, .int .i64 m.n, .slice am m.l.length nm, .int .i64 til]) (t := 81) (fr := (0, 0)) (heap_alloc_new w2 _)) (by simp [Value.oneCell']) (by omega) hmax (by omega) (Nat.zero_le _) (w2.heap.size + 1) (by simp) ?_
               intro gg cap1 w3 hown1 hgrow hat hlt3
               have hfz3 : w3.frozen? ⟨g, 1, none⟩ = false := (hgrow.frozen_far ⟨g, 1, none⟩ (by simp; omega) (by simp [Value.ownBlock]; omega)).trans (frozen_of_block ((heap_alloc_old w2.drew _ hlt2).trans HC2.out.blk) _)
               have hc3 := (hgrow.cell_far ⟨g, 1, none⟩ (by simp; omega) (by simp [Value.ownBlock]; omega)).trans (World.cell?_of_block (w := w2) (heap_alloc_old w2.drew _ hlt2))
               rw [g1] at hc3))
        all_goals
          go_wp2_with fail
          go_ret
          rw [HP.out]
          have hfin := HC2.out.put hI2 HA.out _ HM2.out hti hown1 hgrow rfl ((Only.refl _ _).alloc _).drew.drew hat rfl
          refine ⟨rfl, _, ?_, hfin.1, HO.out.trans (hfin.2.mono fun b _ hb => hb.imp id fun h => HV2.out.symm.trans h)⟩
          intro k hk
          simp [Value.ownBlock] at hk
          subst hk
          rcases hat with h1 | h1
          · exact .inl (HV2.out.symm.trans h1)
          · right; omega
end Go.Proofs.Ytmbclhjhmghapaa
