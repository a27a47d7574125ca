/- Package policy: copied. -/
import Derived.Test.YtmbclhjhmghapaaPo2
import Derived.Test.YtmbclhjhmghapaaReg
namespace Go.Proofs.Ytmbclhjhmghapaa
open Go.RowKit Go.Maps Go.WideMaps

theorem heap_laid2 (w : World) (o o' : Obj) : ((w.alloc o).alloc o').heap[w.heap.size + 1]? = some o' := by
  have h := heap_laid (w.alloc o) o'
  have e : (w.alloc o).heap.size = w.heap.size + 1 := by simp
  rw [e] at h
  exact h
theorem OwnSl.shape {α : Type} {w : World} {E sz : Nat} {R : List Value → α → Prop} {v : Value} {l : List α} (h : OwnSl w E sz R v l) : ∃ a c, v = .slice a l.length c := by
  rcases h.form with ⟨rfl, rfl⟩ | ⟨g, cap, rfl, _, _⟩
  · exact ⟨_, _, rfl⟩
  · exact ⟨_, _, rfl⟩
def strA (v : Value) (l : List ByteArray) : Asn := .own 9 1 (fun _ _ => isStr) (fun h _ _ => h) v l
def intA (v : Value) (l : List Int) : Asn := .own 3 1 (fun _ _ => isInt) (fun h _ _ => h) v l

/-- a copy: its cells, and that its slices are new -/
def CopyPost (w : World) (p : Prin) (e : Ending) (w' : World) : Prop :=
  ∃ va vb vg, e = .returned (.agg #[.string p.name, .int .i64 p.ver, .bool p.tr, .bool p.se, va, vb, vg, .int .i64 p.life]) ∧ OwnSl w' 9 1 isStr va p.allowed ∧ OwnSl w' 9 1 isStr vb p.acts ∧ OwnSl w' 3 1 isInt vg p.groups ∧
    (∀ k, FOr (FOwn va) (FOr (FOwn vb) (FOwn vg)) k → w.heap.size ≤ k) ∧ Disj (FOwn va) (FOr (FOwn vb) (FOwn vg)) ∧ Disj (FOwn vb) (FOwn vg) ∧ Below w.heap.size w w'

set_option maxHeartbeats 1000000 in
set_option maxRecDepth 100000 in
theorem copied_any (I : Nat → Prop) (w : World) (cs : List Value) (p : Prin) (hI : Old I w) (h : RPrin I w cs p) (n1 : p.allowed.length ≤ 4398046511104) (n2 : p.acts.length ≤ 4398046511104) (n3 : p.groups.length ≤ 4398046511104) :
    Calls Try.prog 45 #[.agg cs.toArray] w (CopyPost w p) := by
  obtain ⟨va, vb, vg, rfl, h1, h2, h3, h4, h5, h6⟩ := h
  have H4 := Lib.hid h4
  have H5 := Lib.hid h5
  have H6 := Lib.hid h6
  have HI := Lib.hid hI
  clear h4 h5 h6 hI
  go_enter Try.func45, Try.ntmps45
  go_wp2_with fail
  have A0 : Hid (Below w.heap.size w (w.alloc (.cells #[.string p.name, .int .i64 p.ver, .bool p.tr, .bool p.se, va, vb, vg, .int .i64 p.life] 49))) := (Below.refl _ _).alloc (Nat.le_refl _) _
  have B0 : Hid ((w.alloc (.cells #[.string p.name, .int .i64 p.ver, .bool p.tr, .bool p.se, va, vb, vg, .int .i64 p.life] 49)).heap[w.heap.size]? = some (.cells #[.string p.name, .int .i64 p.ver, .bool p.tr, .bool p.se, va, vb, vg, .int .i64 p.life] 49 (0, 0))) := heap_laid _ _
  have A1 : Hid (Below w.heap.size w ((w.alloc (.cells #[.string p.name, .int .i64 p.ver, .bool p.tr, .bool p.se, va, vb, vg, .int .i64 p.life] 49)).alloc (.cells #[.string ⟨#[]⟩, .int .i64 0, .bool false, .bool false, .slice none 0 0, .slice none 0 0, .slice none 0 0, .int .i64 0] 49))) := A0.out.alloc (by simp) _
  have B1 : Hid (((w.alloc (.cells #[.string p.name, .int .i64 p.ver, .bool p.tr, .bool p.se, va, vb, vg, .int .i64 p.life] 49)).alloc (.cells #[.string ⟨#[]⟩, .int .i64 0, .bool false, .bool false, .slice none 0 0, .slice none 0 0, .slice none 0 0, .int .i64 0] 49)).heap[w.heap.size]? = some (.cells #[.string p.name, .int .i64 p.ver, .bool p.tr, .bool p.se, va, vb, vg, .int .i64 p.life] 49 (0, 0))) := (Below.heap_alloc _ _ _ (by simp)).trans (heap_laid _ _)
  have B2 : Hid (((w.alloc (.cells #[.string p.name, .int .i64 p.ver, .bool p.tr, .bool p.se, va, vb, vg, .int .i64 p.life] 49)).alloc (.cells #[.string ⟨#[]⟩, .int .i64 0, .bool false, .bool false, .slice none 0 0, .slice none 0 0, .slice none 0 0, .int .i64 0] 49)).heap[w.heap.size + 1]? = some (.cells #[.string ⟨#[]⟩, .int .i64 0, .bool false, .bool false, .slice none 0 0, .slice none 0 0, .slice none 0 0, .int .i64 0] 49 (0, 0))) := heap_laid2 _ _ _
  generalize (w.alloc (.cells #[.string p.name, .int .i64 p.ver, .bool p.tr, .bool p.se, va, vb, vg, .int .i64 p.life] 49)).alloc (.cells #[.string ⟨#[]⟩, .int .i64 0, .bool false, .bool false, .slice none 0 0, .slice none 0 0, .slice none 0 0, .int .i64 0] 49) = wa at *
  clear A0 B0
  refine wp_region_T (fun w'' => w''.cell? ⟨w.heap.size, 4, none⟩ = some va ∧ w''.cell? ⟨w.heap.size, 5, none⟩ = some vb ∧ w''.cell? ⟨w.heap.size, 6, none⟩ = some vg) 10 (by kernel_rfl) ?_
  replace A1 := Lib.hid A1.out.drew
  replace B1 : Hid (wa.drew.heap[w.heap.size]? = some (.cells #[.string p.name, .int .i64 p.ver, .bool p.tr, .bool p.se, va, vb, vg, .int .i64 p.life] 49 (0, 0))) := B1.out
  replace B2 : Hid (wa.drew.heap[w.heap.size + 1]? = some (.cells #[.string ⟨#[]⟩, .int .i64 0, .bool false, .bool false, .slice none 0 0, .slice none 0 0, .slice none 0 0, .int .i64 0] 49 (0, 0))) := B2.out
  generalize wa.drew = wz at *
  have hS : wz.cell? ⟨w.heap.size, 4, none⟩ = some va ∧ wz.cell? ⟨w.heap.size, 5, none⟩ = some vb ∧ wz.cell? ⟨w.heap.size, 6, none⟩ = some vg := ⟨cell_of B1.out 4 rfl, cell_of B1.out 5 rfl, cell_of B1.out 6 rfl⟩
  refine wpAnyT_take (i := 0) (v := .pointer (some ⟨w.heap.size, 4, none⟩)) rfl (by kernel_rfl) (by kernel_rfl) (by kernel_rfl) (by kernel_rfl) (by kernel_rfl) (fun _ _ _ h => h) (by rfl) (by intro w2 hSw; (try dsimp only at hSw); go_simp) hS ?_
  simp only [Act.put, List.setIfInBounds_toArray, List.set_cons_zero, List.set_cons_succ]
  refine wpAnyT_take (i := 1) (v := va) rfl (by kernel_rfl) (by kernel_rfl) (by kernel_rfl) (by kernel_rfl) (by kernel_rfl) (fun _ _ _ h => h) (by rfl) (by intro w2 hSw; (try dsimp only at hSw); go_simp) hS ?_
  simp only [Act.put, List.setIfInBounds_toArray, List.set_cons_zero, List.set_cons_succ]
  refine wpAnyT_take (i := 3) (v := .pointer (some ⟨w.heap.size, 5, none⟩)) rfl (by kernel_rfl) (by kernel_rfl) (by kernel_rfl) (by kernel_rfl) (by kernel_rfl) (fun _ _ _ h => h) (by rfl) (by intro w2 hSw; (try dsimp only at hSw); go_simp) hS ?_
  simp only [Act.put, List.setIfInBounds_toArray, List.set_cons_zero, List.set_cons_succ]
  refine wpAnyT_take (i := 4) (v := vb) rfl (by kernel_rfl) (by kernel_rfl) (by kernel_rfl) (by kernel_rfl) (by kernel_rfl) (fun _ _ _ h => h) (by rfl) (by intro w2 hSw; (try dsimp only at hSw); go_simp) hS ?_
  simp only [Act.put, List.setIfInBounds_toArray, List.set_cons_zero, List.set_cons_succ]
  refine wpAnyT_take (i := 6) (v := .pointer (some ⟨w.heap.size, 6, none⟩)) rfl (by kernel_rfl) (by kernel_rfl) (by kernel_rfl) (by kernel_rfl) (by kernel_rfl) (fun _ _ _ h => h) (by rfl) (by intro w2 hSw; (try dsimp only at hSw); go_simp) hS ?_
  simp only [Act.put, List.setIfInBounds_toArray, List.set_cons_zero, List.set_cons_succ]
  refine wpAnyT_take (i := 7) (v := vg) rfl (by kernel_rfl) (by kernel_rfl) (by kernel_rfl) (by kernel_rfl) (by kernel_rfl) (fun _ _ _ h => h) (by rfl) (by intro w2 hSw; (try dsimp only at hSw); go_simp) hS ?_
  simp only [Act.put, List.setIfInBounds_toArray, List.set_cons_zero, List.set_cons_succ]
  clear hS
  refine wpAnyT_one (i := 2) (by kernel_rfl) rfl (fun K hK => ?_)
  go_simp
  go_at_call 66
  refine (clone_strs (H4.out.on HI.out A1.out) n1).mono ?_
  rintro e w1 ⟨v1, rfl, ho1, hn1, hb1⟩
  obtain ⟨x1, y1, rfl⟩ := ho1.shape
  have D1 := Lib.hid (A1.out.trans (hb1.mono A1.out.size))
  have C1 := Lib.hid (heap_on B1.out hb1)
  have E1 := Lib.hid (heap_on B2.out hb1)
  have L1 := Lib.hid (Nat.lt_of_lt_of_le (lt_of_block B2.out) hb1.size)
  have S1 := Lib.hid A1.out.size
  refine hK _ _ (fun _ => ⟨cell_of C1.out 4 rfl, cell_of C1.out 5 rfl, cell_of C1.out 6 rfl⟩) ?_
  clear hK K
  refine wpAnyT_take (i := 9) (v := .pointer (some ⟨w.heap.size, 4, none⟩)) rfl (by kernel_rfl) (by kernel_rfl) (by kernel_rfl) (by kernel_rfl) (by kernel_rfl) (fun _ _ _ h => h) (by rfl) (by intro w2 hSw; (try dsimp only at hSw); go_simp) ⟨cell_of C1.out 4 rfl, cell_of C1.out 5 rfl, cell_of C1.out 6 rfl⟩ ?_
  simp only [Act.put, List.setIfInBounds_toArray, List.set_cons_zero, List.set_cons_succ]
  refine wpAnyT_one (i := 5) (by kernel_rfl) rfl (fun K hK => ?_)
  go_simp
  go_at_call 66
  refine (clone_strs (H5.out.on HI.out D1.out) n2).mono ?_
  rintro e w2 ⟨v2, rfl, ho2, hn2, hb2⟩
  obtain ⟨x2, y2, rfl⟩ := ho2.shape
  have D2 := Lib.hid (D1.out.trans (hb2.mono D1.out.size))
  have C2 := Lib.hid (heap_on C1.out hb2)
  have E2 := Lib.hid (heap_on E1.out hb2)
  have O2 := Lib.hid (ho1.frame (R' := isStr) (fun k hk => hb2.block k (ho1.lt k hk)) fun _ _ r => r)
  refine hK _ _ (fun _ => ⟨cell_of C2.out 4 rfl, cell_of C2.out 5 rfl, cell_of C2.out 6 rfl⟩) ?_
  clear hK K
  refine wpAnyT_one (i := 8) (by kernel_rfl) rfl (fun K hK => ?_)
  go_simp
  go_at_call 67
  refine (clone_ints (H6.out.on HI.out D2.out) n3).mono ?_
  rintro e w3 ⟨v3, rfl, ho3, hn3, hb3⟩
  obtain ⟨x3, y3, rfl⟩ := ho3.shape
  have D3 := Lib.hid (D2.out.trans (hb3.mono D2.out.size))
  have C3 := Lib.hid (heap_on C2.out hb3)
  have E3 := Lib.hid (heap_on E2.out hb3)
  have O3 := Lib.hid (O2.out.frame (R' := isStr) (fun k hk => hb3.block k (O2.out.lt k hk)) fun _ _ r => r)
  have P3 := Lib.hid (ho2.frame (R' := isStr) (fun k hk => hb3.block k (ho2.lt k hk)) fun _ _ r => r)
  have Q3 := Lib.hid ho3
  have X1 := Lib.hid ho1.lt
  have X2 := Lib.hid ho2.lt
  have N1 := Lib.hid hn1
  have N2 := Lib.hid hn2
  have N3 := Lib.hid hn3
  have Z1 := Lib.hid hb1.size
  have Z2 := Lib.hid hb2.size
  have ZB := Lib.hid (lt_of_block B1.out)
  have ZC := Lib.hid (lt_of_block B2.out)
  refine hK _ _ (fun _ => ⟨cell_of C3.out 4 rfl, cell_of C3.out 5 rfl, cell_of C3.out 6 rfl⟩) ?_
  clear hK K ho1 hn1 hb1 ho2 hn2 hb2 ho3 hn3 hb3 D1 D2 C1 C2 E1 E2 O2 A1 B1 B2 H4 H5 H6 HI
  have c0 := cell_of C3.out 0 rfl
  have c1 := cell_of C3.out 1 rfl
  have c2 := cell_of C3.out 2 rfl
  have c3 := cell_of C3.out 3 rfl
  have c4 := cell_of C3.out 4 rfl
  have c5 := cell_of C3.out 5 rfl
  have c6 := cell_of C3.out 6 rfl
  have c7 := cell_of C3.out 7 rfl
  have f4 := frozen_of C3.out 4
  have f5 := frozen_of C3.out 5
  have f6 := frozen_of C3.out 6
  refine wpAnyT_one (i := 10) (by kernel_rfl) rfl (fun K hK => ?_)
  go_simp
  refine hK _ _ (fun h => absurd h (by decide)) ?_
  clear hK K
  refine wpAnyT_one (i := 11) (by kernel_rfl) rfl (fun K hK => ?_)
  go_simp
  refine hK _ _ (fun h => absurd h (by decide)) ?_
  clear hK K
  refine wpAnyT_one (i := 12) (by kernel_rfl) rfl (fun K hK => ?_)
  go_simp
  refine hK _ _ (fun h => absurd h (by decide)) ?_
  clear hK K
  refine wpAnyT_one (i := 13) (by kernel_rfl) rfl (fun K hK => ?_)
  go_simp
  refine hK _ _ (fun h => absurd h (by decide)) ?_
  clear hK K
  refine wpAnyT_one (i := 14) (by kernel_rfl) rfl (fun K hK => ?_)
  go_simp
  refine hK _ _ (fun h => absurd h (by decide)) ?_
  clear hK K
  refine wpAnyT_done (by kernel_rfl) ?_ _
  have FIN : Hid (∀ W', Only (fun k => k = w.heap.size ∨ k = w.heap.size + 1) w3 W' → CopyPost w p (.returned (.agg #[.string p.name, .int .i64 p.ver, .bool p.tr, .bool p.se, .slice x1 p.allowed.length y1, .slice x2 p.acts.length y2, .slice x3 p.groups.length y3, .int .i64 p.life])) W') := by
    intro W' ho
    have z1 := Z1.out
    have z2 := Z2.out
    have zc := ZC.out
    refine ⟨_, _, _, rfl, ?_, ?_, ?_, ?_, ?_, ?_, ?_⟩
    · exact O3.out.frame (fun k hk => ho.block k (O3.out.lt k hk) (by have := N1.out k hk; omega)) fun _ _ r => r
    · exact P3.out.frame (fun k hk => ho.block k (P3.out.lt k hk) (by have := N2.out k hk; omega)) fun _ _ r => r
    · exact Q3.out.frame (fun k hk => ho.block k (Q3.out.lt k hk) (by have := N3.out k hk; omega)) fun _ _ r => r
    · rintro k (hk | hk | hk)
      · have := N1.out k hk; omega
      · have := N2.out k hk; omega
      · have := N3.out k hk; omega
    · rintro k hk (hk2 | hk2)
      · have h1 := X1.out k hk; have h2 := N2.out k hk2; omega
      · have h1 := X1.out k hk; have h2 := N3.out k hk2; omega
    · intro k hk hk2
      have h1 := X2.out k hk; have h2 := N3.out k hk2; omega
    · exact D3.out.trans ⟨ho.os, ho.tape, ho.output, ho.size, fun b hb => ho.block b (Nat.lt_of_lt_of_le hb D3.out.size) (by omega)⟩
  have k4 : w.heap.size + 1 ≠ w.heap.size := by omega
  have XL := Lib.hid (lt_of_block E3.out)
  have XM := Lib.hid (lt_of_block C3.out)
  have r0 := cell_of E3.out 0 rfl
  have r1 := cell_of E3.out 1 rfl
  have r2 := cell_of E3.out 2 rfl
  have r3 := cell_of E3.out 3 rfl
  have r4 := cell_of E3.out 4 rfl
  have r5 := cell_of E3.out 5 rfl
  have r6 := cell_of E3.out 6 rfl
  have r7 := cell_of E3.out 7 rfl
  have g0 := frozen_of E3.out 0
  have g1 := frozen_of E3.out 1
  have g2 := frozen_of E3.out 2
  have g3 := frozen_of E3.out 3
  have g4 := frozen_of E3.out 4
  have g5 := frozen_of E3.out 5
  have g6 := frozen_of E3.out 6
  have g7 := frozen_of E3.out 7
  go_wp2_with fail
  refine bodyPost_ret (v := .agg #[.string p.name, .int .i64 p.ver, .bool p.tr, .bool p.se, .slice x1 p.allowed.length y1, .slice x2 p.acts.length y2, .slice x3 p.groups.length y3, .int .i64 p.life]) (by simp [results, Try.results45, go_sem, r0, r1, r2, r3, r4, r5, r6, r7, c4, c5, c6]) rfl (FIN.out _ ?_)
  repeat (refine Only.setCell ?_ (by first | exact .inl (.inl rfl) | exact .inl (.inr rfl)) _)
  exact Only.refl _ _
end Go.Proofs.Ytmbclhjhmghapaa
