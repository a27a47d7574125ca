/- A term, acts, that are given as arguments, laid open. -/
import Derived.Test.YtmbclhjhmghapaaAct
import Derived.ProofKit
namespace Go.Proofs.Ytmbclhjhmghapaa
open Go.ChangeShapes Go.WideShapes Go.ChangeAt Go.RowKit Go.Joins

theorem ownTry : ownKnob Try.prog.godebug = none := by kernel_rfl

theorem sized_at {H : Type} {P : Program} {ts us : List TypeId} {ds gs : List (DataW H)} (h : (DataW.weightsEach P (ts ++ us) (ds ++ gs)).all (· ≤ reachBytes) = true) {j : Nat} {t : TypeId} {d : DataW H} (ht : (ts ++ us)[j]? = some t) (hd : (ds ++ gs)[j]? = some d) : ∀ k ∈ d.weights P t, k ≤ reachBytes := by
  intro k hk
  have := List.all_eq_true.1 h k (DataW.weights_mem_each ht hd k hk)
  simpa using this

set_option maxRecDepth 100000 in
theorem open_term {H : Type} {enc : TypeId × Value → H} {W : World} {base : Nat} {v : Value} {d : DataW H} {p : List MemPlace} (hv : Value.okWide Try.prog W .any base 26 v) (h : DataW.Trod enc Try.prog W 0 (fun _ => true) true 26 v d p) (hw : ∀ k ∈ d.weights Try.prog 26, k ≤ reachBytes) :
    ∃ cm m, v = .agg (List.toArray cm) ∧ Rep (There W) W cm m := by
  obtain ⟨cs, rfl, hsz⟩ := okWide_struct Try.underlying26 hv
  obtain ⟨fuel, hf⟩ := h
  obtain ⟨m, hm⟩ := rep_of_trod W fuel _ _ hf hw
  exact ⟨cs.toList, m, by simp, by simpa [Value.cells] using hm⟩

theorem cellsA : Try.prog.cellsOf 37 = 6 := by kernel_rfl
theorem bytesA : 32 ≤ Try.prog.bytesOf 37 := by rw [show Try.prog.bytesOf 37 = 72 from by kernel_rfl]; decide
theorem list3 {α : Type} {l : List α} (h : l.length = 3) : ∃ a b c, l = [a, b, c] := by
  match l, h with
  | [a, b, c], _ => exact ⟨a, b, c, rfl⟩
theorem list6 {α : Type} {l : List α} (h : l.length = 6) : ∃ a b c d e f, l = [a, b, c, d, e, f] := by
  match l, h with
  | [a, b, c, d, e, f], _ => exact ⟨a, b, c, d, e, f, rfl⟩

set_option maxRecDepth 100000 in
theorem act_of_trod {H : Type} {enc : TypeId × Value → H} (W : World) (fuel : Nat) (cs : List Value) (x : DataW H × List MemPlace) (h : DataW.trod enc Try.prog W 0 (fun _ => true) true fuel 37 cs = some x)
    (hw : ∀ k ∈ x.1.weights Try.prog 37, k ≤ reachBytes) : ∃ a, RAct (There W) W cs a := by
  obtain ⟨xs, n, rfl, rfl, hl, hlen, hf⟩ := DataW.trod_struct Try.underlying37 h
  rw [cellsA] at hl
  obtain ⟨y0, y1, y2, rfl⟩ := list3 (l := xs) hlen
  obtain ⟨c0, c1, c2, c3, c4, c5, rfl⟩ := list6 hl
  have h0 : DataW.trod enc Try.prog W 0 (fun _ => true) true n 26 (([c0, c1, c2, c3, c4, c5].drop 0).take (Try.prog.cellsOf 26)) = some y0 := hf 0 _ rfl
  rw [cellsT] at h0
  replace h0 : DataW.trod enc Try.prog W 0 (fun _ => true) true n 26 [c0, c1, c2, c3] = some y0 := h0
  have h1 : DataW.trod enc Try.prog W 0 (fun _ => true) true n 3 (([c0, c1, c2, c3, c4, c5].drop 4).take (Try.prog.cellsOf 3)) = some y1 := hf 1 _ rfl
  rw [cells_i] at h1
  replace h1 : DataW.trod enc Try.prog W 0 (fun _ => true) true n 3 [c4] = some y1 := h1
  have h2 : DataW.trod enc Try.prog W 0 (fun _ => true) true n 3 (([c0, c1, c2, c3, c4, c5].drop 5).take (Try.prog.cellsOf 3)) = some y2 := hf 2 _ rfl
  rw [cells_i] at h2
  replace h2 : DataW.trod enc Try.prog W 0 (fun _ => true) true n 3 [c5] = some y2 := h2
  obtain ⟨a, e1, _, wa⟩ := DataW.trod_int Try.underlying3 h1
  obtain ⟨b, e2, _, wb⟩ := DataW.trod_int Try.underlying3 h2
  simp only [List.map_cons, List.map_nil, DataW.weights, Try.underlying37, DataW.weightsEach, List.mem_append] at hw
  obtain ⟨m, hm⟩ := rep_of_trod W n _ _ h0 (fun k hk => hw k (.inl hk))
  simp only [List.cons.injEq, and_true] at e1 e2
  subst e1 e2
  exact ⟨⟨m, a, b⟩, _, hm, rfl, wf_ini wa, wf_ini wb⟩

theorem open_acts {H : Type} {enc : TypeId × Value → H} {W : World} {v : Value} {d : DataW H} {p : List MemPlace} (hv : ∃ c, v = c ∧ v.cells.toList = [c]) (h : DataW.Trod enc Try.prog W 0 (fun _ => true) true 22 v d p) (hw : ∀ k ∈ d.weights Try.prog 22, k ≤ reachBytes) :
    ∃ l, RActs (There W) W v l := by
  obtain ⟨c, rfl, hc⟩ := hv
  obtain ⟨fuel, hf⟩ := h
  obtain ⟨v', l, e, hl⟩ := sl_of_trod (α := Act) Try.underlying22 cellsA (by decide) bytesA (RAct (There W) W) fuel (fun n _ cs y hy hwy => act_of_trod W n cs y hy hwy) _ _ hf hw
  rw [hc] at e
  injection e with e
  exact ⟨l, e ▸ hl⟩
theorem slice_cells {W : World} {base : Nat} {t e : TypeId} {P : Program} {v : Value} (ht : P.underlying t = some (.slice e)) (hv : Value.okWide P W .any base t v) : ∃ c, v = c ∧ v.cells.toList = [c] := by
  refine ⟨v, rfl, ?_⟩
  unfold Value.okWide Cell.okWide at hv
  rw [ht] at hv
  cases v <;> first | rfl | (exfalso; simp [Cell.ok, ht] at hv)
end Go.Proofs.Ytmbclhjhmghapaa
