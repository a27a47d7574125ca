/- A principal, acts on a store, that are given as arguments, laid open. -/
import Derived.Test.YtmbclhjhmghapaaPoC
import Derived.ProofKit
namespace Go.Proofs.Ytmbclhjhmghapaa
open Go.ChangeShapes Go.WideShapes Go.ChangeAt Go.RowKit

theorem ownTry2 : ownKnob Try.prog.godebug = none := by kernel_rfl
theorem psized_at {H : Type} {P : Program} {ts us : List TypeId} {ds gs : List (DataW H)} (h : (DataW.weightsEach P (ts ++ us) (ds ++ gs)).all (· ≤ reachBytes) = true) {j : Nat} {t : TypeId} {d : DataW H} (ht : (ts ++ us)[j]? = some t) (hd : (ds ++ gs)[j]? = some d) : ∀ k ∈ d.weights P t, k ≤ reachBytes := by
  intro k hk
  have := List.all_eq_true.1 h k (DataW.weights_mem_each ht hd k hk)
  simpa using this
theorem pslice_cells {W : World} {base : Nat} {t e : TypeId} {P : Program} {v : Value} (ht : P.underlying t = some (.slice e)) (hv : Value.okWide P W .any base t v) : v.cells.toList = [v] := by
  unfold Value.okWide Cell.okWide at hv
  rw [ht] at hv
  cases v <;> first | rfl | (exfalso; simp [Cell.ok, ht] at hv)

section
variable {H : Type} {enc : TypeId × Value → H} (W : World)
theorem bytes_s : 8 ≤ Try.prog.bytesOf 9 := by rw [show Try.prog.bytesOf 9 = 16 from by kernel_rfl]; decide
theorem bytes_i : 8 ≤ Try.prog.bytesOf 3 := by rw [show Try.prog.bytesOf 3 = 8 from by kernel_rfl]; decide
theorem cells_b : Try.prog.cellsOf 4 = 1 := by kernel_rfl
theorem cells_ss : Try.prog.cellsOf 46 = 1 := by kernel_rfl
theorem cells_is : Try.prog.cellsOf 47 = 1 := by kernel_rfl
theorem cells_P : Try.prog.cellsOf 49 = 8 := by kernel_rfl
theorem cells_A : Try.prog.cellsOf 58 = 12 := by kernel_rfl
theorem bytes_A : 8 ≤ Try.prog.bytesOf 58 := by rw [show Try.prog.bytesOf 58 = 160 from by kernel_rfl]; decide

theorem str_of_trod (fuel : Nat) (cs : List Value) (x : DataW H × List MemPlace) (h : DataW.trod enc Try.prog W 0 (fun _ => true) true fuel 9 cs = some x) (hw : ∀ k ∈ x.1.weights Try.prog 9, k ≤ reachBytes) : ∃ s, isStr cs s := by
  obtain ⟨s, e1, e1', _⟩ := DataW.trod_string Try.underlying9 h
  refine ⟨s, e1, ?_⟩
  have := hw s.size (by subst e1'; simp [DataW.weights])
  exact this
theorem int_of_trod (fuel : Nat) (cs : List Value) (x : DataW H × List MemPlace) (h : DataW.trod enc Try.prog W 0 (fun _ => true) true fuel 3 cs = some x) : ∃ n, isInt cs n := by
  obtain ⟨n, e1, _, wn⟩ := DataW.trod_int Try.underlying3 h
  exact ⟨n, e1, wf_ini wn⟩
theorem strs_of_trod (fuel : Nat) (cs : List Value) (x : DataW H × List MemPlace) (h : DataW.trod enc Try.prog W 0 (fun _ => true) true fuel 46 cs = some x) (hw : ∀ k ∈ x.1.weights Try.prog 46, k ≤ reachBytes) : ∃ v l, cs = [v] ∧ RStrs (There W) W v l :=
  sl_of_trod (α := ByteArray) Try.underlying46 cells_s (by decide) bytes_s isStr fuel (fun n _ cs y hy hwy => str_of_trod W n cs y hy hwy) cs x h hw
theorem ints_of_trod (fuel : Nat) (cs : List Value) (x : DataW H × List MemPlace) (h : DataW.trod enc Try.prog W 0 (fun _ => true) true fuel 47 cs = some x) (hw : ∀ k ∈ x.1.weights Try.prog 47, k ≤ reachBytes) : ∃ v l, cs = [v] ∧ RInts (There W) W v l :=
  sl_of_trod (α := Int) Try.underlying47 cells_i (by decide) bytes_i isInt fuel (fun n _ cs y hy _ => int_of_trod W n cs y hy) cs x h hw

theorem list8 {α : Type} {l : List α} (h : l.length = 8) : ∃ a b c d e f g i, l = [a, b, c, d, e, f, g, i] := by
  match l, h with
  | [a, b, c, d, e, f, g, i], _ => exact ⟨a, b, c, d, e, f, g, i, rfl⟩
theorem list5 {α : Type} {l : List α} (h : l.length = 5) : ∃ a b c d e, l = [a, b, c, d, e] := by
  match l, h with
  | [a, b, c, d, e], _ => exact ⟨a, b, c, d, e, rfl⟩
theorem list12 {α : Type} {l : List α} (h : l.length = 12) : ∃ a b c d e f g i j k m n, l = [a, b, c, d, e, f, g, i, j, k, m, n] := by
  match l, h with
  | [a, b, c, d, e, f, g, i, j, k, m, n], _ => exact ⟨a, b, c, d, e, f, g, i, j, k, m, n, rfl⟩

set_option maxRecDepth 100000 in
theorem prin_of_trod (fuel : Nat) (cs : List Value) (x : DataW H × List MemPlace) (h : DataW.trod enc Try.prog W 0 (fun _ => true) true fuel 49 cs = some x) (hw : ∀ k ∈ x.1.weights Try.prog 49, k ≤ reachBytes) : ∃ p, RPrin (There W) W cs p := by
  obtain ⟨xs, n, rfl, rfl, hl, hlen, hf⟩ := DataW.trod_struct Try.underlying49 h
  rw [cells_P] at hl
  obtain ⟨y0, y1, y2, y3, y4, y5, y6, y7, rfl⟩ := list8 (l := xs) hlen
  obtain ⟨c0, c1, c2, c3, c4, c5, c6, c7, rfl⟩ := list8 hl
  simp only [List.map_cons, List.map_nil, DataW.weights, Try.underlying49, DataW.weightsEach, List.mem_append] at hw
  have h0 : DataW.trod enc Try.prog W 0 (fun _ => true) true n 9 (([c0, c1, c2, c3, c4, c5, c6, c7].drop 0).take (Try.prog.cellsOf 9)) = some y0 := hf 0 _ rfl
  rw [cells_s] at h0
  have h1 : DataW.trod enc Try.prog W 0 (fun _ => true) true n 3 (([c0, c1, c2, c3, c4, c5, c6, c7].drop 1).take (Try.prog.cellsOf 3)) = some y1 := hf 1 _ rfl
  rw [cells_i] at h1
  have h2 : DataW.trod enc Try.prog W 0 (fun _ => true) true n 4 (([c0, c1, c2, c3, c4, c5, c6, c7].drop 2).take (Try.prog.cellsOf 4)) = some y2 := hf 2 _ rfl
  rw [cells_b] at h2
  have h3 : DataW.trod enc Try.prog W 0 (fun _ => true) true n 4 (([c0, c1, c2, c3, c4, c5, c6, c7].drop 3).take (Try.prog.cellsOf 4)) = some y3 := hf 3 _ rfl
  rw [cells_b] at h3
  have h4 : DataW.trod enc Try.prog W 0 (fun _ => true) true n 46 (([c0, c1, c2, c3, c4, c5, c6, c7].drop 4).take (Try.prog.cellsOf 46)) = some y4 := hf 4 _ rfl
  rw [cells_ss] at h4
  have h5 : DataW.trod enc Try.prog W 0 (fun _ => true) true n 46 (([c0, c1, c2, c3, c4, c5, c6, c7].drop 5).take (Try.prog.cellsOf 46)) = some y5 := hf 5 _ rfl
  rw [cells_ss] at h5
  have h6 : DataW.trod enc Try.prog W 0 (fun _ => true) true n 47 (([c0, c1, c2, c3, c4, c5, c6, c7].drop 6).take (Try.prog.cellsOf 47)) = some y6 := hf 6 _ rfl
  rw [cells_is] at h6
  have h7 : DataW.trod enc Try.prog W 0 (fun _ => true) true n 3 (([c0, c1, c2, c3, c4, c5, c6, c7].drop 7).take (Try.prog.cellsOf 3)) = some y7 := hf 7 _ rfl
  rw [cells_i] at h7
  obtain ⟨s, e0, hs⟩ := str_of_trod W n _ _ h0 (fun k hk => hw k (by simp [hk]))
  obtain ⟨i, e1, hi⟩ := int_of_trod W n _ _ h1
  obtain ⟨b, e2, _⟩ := DataW.trod_bool Try.underlying4 h2
  obtain ⟨b', e3, _⟩ := DataW.trod_bool Try.underlying4 h3
  obtain ⟨v4, l4, e4, r4⟩ := strs_of_trod W n _ _ h4 (fun k hk => hw k (by simp [hk]))
  obtain ⟨v5, l5, e5, r5⟩ := strs_of_trod W n _ _ h5 (fun k hk => hw k (by simp [hk]))
  obtain ⟨v6, l6, e6, r6⟩ := ints_of_trod W n _ _ h6 (fun k hk => hw k (by simp [hk]))
  obtain ⟨j, e7, hj⟩ := int_of_trod W n _ _ h7
  simp only [List.drop_succ_cons, List.drop_zero, List.take_succ_cons, List.take_zero, List.cons.injEq, and_true] at e0 e1 e2 e3 e4 e5 e6 e7
  subst e0 e1 e2 e3 e4 e5 e6 e7
  exact ⟨⟨s, i, b, b', l4, l5, l6, j⟩, _, _, _, rfl, hs, hi, hj, r4, r5, r6⟩

set_option maxRecDepth 100000 in
theorem pact_of_trod (fuel : Nat) (cs : List Value) (x : DataW H × List MemPlace) (h : DataW.trod enc Try.prog W 0 (fun _ => true) true fuel 58 cs = some x) (hw : ∀ k ∈ x.1.weights Try.prog 58, k ≤ reachBytes) : ∃ p, RPAct (There W) W cs p := by
  obtain ⟨xs, n, rfl, rfl, hl, hlen, hf⟩ := DataW.trod_struct Try.underlying58 h
  rw [cells_A] at hl
  obtain ⟨y0, y1, y2, y3, y4, rfl⟩ := list5 (l := xs) hlen
  obtain ⟨c0, c1, c2, c3, c4, c5, c6, c7, c8, c9, c10, c11, rfl⟩ := list12 hl
  simp only [List.map_cons, List.map_nil, DataW.weights, Try.underlying58, DataW.weightsEach, List.mem_append] at hw
  have h0 : DataW.trod enc Try.prog W 0 (fun _ => true) true n 3 (([c0, c1, c2, c3, c4, c5, c6, c7, c8, c9, c10, c11].drop 0).take (Try.prog.cellsOf 3)) = some y0 := hf 0 _ rfl
  rw [cells_i] at h0
  have h1 : DataW.trod enc Try.prog W 0 (fun _ => true) true n 49 (([c0, c1, c2, c3, c4, c5, c6, c7, c8, c9, c10, c11].drop 1).take (Try.prog.cellsOf 49)) = some y1 := hf 1 _ rfl
  rw [cells_P] at h1
  have h2 : DataW.trod enc Try.prog W 0 (fun _ => true) true n 9 (([c0, c1, c2, c3, c4, c5, c6, c7, c8, c9, c10, c11].drop 9).take (Try.prog.cellsOf 9)) = some y2 := hf 2 _ rfl
  rw [cells_s] at h2
  have h3 : DataW.trod enc Try.prog W 0 (fun _ => true) true n 9 (([c0, c1, c2, c3, c4, c5, c6, c7, c8, c9, c10, c11].drop 10).take (Try.prog.cellsOf 9)) = some y3 := hf 3 _ rfl
  rw [cells_s] at h3
  have h4 : DataW.trod enc Try.prog W 0 (fun _ => true) true n 4 (([c0, c1, c2, c3, c4, c5, c6, c7, c8, c9, c10, c11].drop 11).take (Try.prog.cellsOf 4)) = some y4 := hf 4 _ rfl
  rw [cells_b] at h4
  obtain ⟨i, e0, hi⟩ := int_of_trod W n _ _ h0
  obtain ⟨p, hp⟩ := prin_of_trod W n _ _ h1 (fun k hk => hw k (by simp [hk]))
  obtain ⟨s, e2, hs⟩ := str_of_trod W n _ _ h2 (fun k hk => hw k (by simp [hk]))
  obtain ⟨t, e3, ht⟩ := str_of_trod W n _ _ h3 (fun k hk => hw k (by simp [hk]))
  obtain ⟨b, e4, _⟩ := DataW.trod_bool Try.underlying4 h4
  simp only [List.drop_succ_cons, List.drop_zero, List.take_succ_cons, List.take_zero, List.cons.injEq, and_true] at e0 e2 e3 e4
  subst e0 e2 e3 e4
  exact ⟨⟨i, p, s, t, b⟩, _, hp, rfl, hi, hs, ht⟩
end

theorem open_pacts {H : Type} {enc : TypeId × Value → H} {W : World} {v : Value} {d : DataW H} {p : List MemPlace} (hc : v.cells.toList = [v]) (h : DataW.Trod enc Try.prog W 0 (fun _ => true) true 54 v d p) (hw : ∀ k ∈ d.weights Try.prog 54, k ≤ reachBytes) :
    ∃ l, RPActs (There W) W v l := by
  obtain ⟨fuel, hf⟩ := h
  obtain ⟨v', l, e, hl⟩ := sl_of_trod (α := PAct) Try.underlying54 cells_A (by decide) bytes_A (RPAct (There W) W) fuel (fun n _ cs y hy hwy => pact_of_trod W n cs y hy hwy) _ _ hf hw
  rw [hc] at e
  injection e with e
  exact ⟨l, e ▸ hl⟩
theorem str_fits {H : Type} {P : Program} {t : TypeId} {s : ByteArray} (h : ∀ k ∈ (DataW.lit (H := H) (.string s.data.toList)).weights P t, k ≤ reachBytes) : InS s := by
  have := h s.size (by simp [DataW.weights])
  exact this
end Go.Proofs.Ytmbclhjhmghapaa
