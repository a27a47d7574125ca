/- What a law is handed, as trees: the statement's own reading of a term, turned. -/
import Derived.Test.YtmbclhjhmghapaaRows
import Derived.Test.YtmbclhjhmghapaaTm
import Derived.ChangeArms
import Derived.SizedLaws
import Derived.DataShut
import Derived.Lib.SmallJoins
namespace Go.Proofs.Ytmbclhjhmghapaa
open Go.RowKit

/-- the blocks that are there -/
def There (w : World) (b : Nat) : Prop := b < w.heap.size
theorem There.old (w : World) : Old (There w) w := fun _ h => h

theorem cell_there {w : World} {a : Addr} {v : Value} (h : w.cell? a = some v) : a.spot = none ∧ a.block < w.heap.size := by
  refine ⟨?_, World.block_lt_of_cell? w _ h⟩
  unfold World.cell? at h
  cases hs : a.spot with
  | none => rfl
  | some _ =>
    simp [hs] at h
    split at h <;> cases h

theorem add_none (b o k : Nat) : (⟨b, o, none⟩ : Addr).add k = ⟨b, o + k, none⟩ := by
  unfold Addr.add
  split <;> simp_all

/-- a slice, turned, where its elements are -/
theorem sl_of_trod {H α : Type} {enc : TypeId × Value → H} {P : Program} {W : World} {t e : TypeId} {sz : Nat} (ht : P.underlying t = some (.slice e)) (hc : P.cellsOf e = sz) (hsz : 0 < sz) (hby : 8 ≤ P.bytesOf e)
    (R : List Value → α → Prop) (fuel : Nat) (hR : ∀ n, n < fuel → ∀ cs (y : DataW H × List MemPlace), DataW.trod enc P W 0 (fun _ => true) true n e cs = some y → (∀ k ∈ y.1.weights P e, k ≤ reachBytes) → ∃ x, R cs x)
    (cs : List Value) (x : DataW H × List MemPlace) (h : DataW.trod enc P W 0 (fun _ => true) true fuel t cs = some x) (hw : ∀ k ∈ x.1.weights P t, k ≤ reachBytes) : ∃ v l, cs = [v] ∧ RSl (There W) W sz R v l := by
  rcases DataW.trod_slice ht h with ⟨rfl, rfl⟩ | ⟨a, len, cap, elems, rest, n, rfl, rfl, rfl, _, hl, hm, hlen, hel, hsp, _⟩
  · exact ⟨_, [], rfl, RSl.nil _ _ _ _⟩
  obtain ⟨hrl, _⟩ := hsp rfl
  simp only [DataW.weights, ht, List.length_map] at hw
  have hw0 : (elems.length + rest.length) * P.bytesOf e ≤ reachBytes := hw _ (by simp)
  have hmax : cap ≤ 17592186044416 := by
    have h1 : elems.length + rest.length = cap := by omega
    rw [h1] at hw0
    have h2 : cap * 8 ≤ cap * P.bytesOf e := Nat.mul_le_mul_left _ hby
    have h3 : reachBytes ≤ 140737488355328 := by decide
    omega
  have hall : ∀ (l : List (DataW H)) d, d ∈ l → ∀ k ∈ d.weights P e, k ∈ DataW.weightsAll P e l := by
    intro l
    induction l with
    | nil => intro d hd; cases hd
    | cons z l ih =>
      intro d hd k hk
      simp only [DataW.weightsAll, List.mem_append]
      rcases List.mem_cons.1 hd with rfl | hd
      · exact .inl hk
      · exact .inr (ih d hd k hk)
  have key : ∀ i, i < len → ∃ cs' : List Value, ∃ y : α, cs'.length = sz ∧ R cs' y ∧ ∀ j, j < sz → W.cell? ((a.add (i * sz)).add j) = cs'[j]? := by
    intro i hi
    have h1 := hel i hi
    rw [List.getElem?_eq_getElem (by omega)] at h1
    obtain ⟨cs', h2, h3⟩ := Option.bind_eq_some_iff.1 h1
    rw [hc] at h2
    obtain ⟨_, h4, h5⟩ := World.cells?_some h2
    obtain ⟨y, hy⟩ := hR n (Nat.lt_succ_self _) cs' _ h3 (fun k hk => hw k (by
      refine List.mem_cons_of_mem _ (List.mem_append_left _ (hall _ _ ?_ k hk))
      exact List.mem_map_of_mem (List.getElem_mem _)))
    exact ⟨cs', y, h4, hy, h5⟩
  have hspot : 0 < len → a.spot = none ∧ a.block < W.heap.size := by
    intro h0
    obtain ⟨cs', _, h1, _, h2⟩ := key 0 h0
    have h3 := h2 0 hsz
    rw [List.getElem?_eq_getElem (by omega)] at h3
    simp only [Nat.zero_mul] at h3
    exact cell_there (a := a) (by simpa [Addr.add] using h3)
  classical
  let f : Nat → List Value := fun i => if h : i < len then (key i h).choose else []
  let g : ∀ i, i < len → α := fun i h => (key i h).choose_spec.choose
  have hf : ∀ i (h : i < len), f i = (key i h).choose := fun i h => by simp [f, h]
  let l : List α := List.ofFn (fun i : Fin len => g i.1 i.2)
  have hll : l.length = len := by simp [l]
  refine ⟨_, l, rfl, some a, cap, f, by rw [hll], ⟨by omega, by omega, fun h => (by cases h), ?_, ?_, ?_⟩, ?_⟩
  · intro p hp h0
    injection hp with hp
    subst hp
    exact hspot (by omega)
  · intro i hi
    rw [hf i (by omega)]
    exact (key i (by omega)).choose_spec.choose_spec.1
  · intro p hp i hi j u hj
    injection hp with hp
    subst hp
    obtain ⟨h1, _, h2⟩ := (key i (by omega)).choose_spec.choose_spec
    rw [hf i (by omega)] at hj
    have hjs : j < sz := by rw [← h1]; exact (List.getElem?_eq_some_iff.1 hj).1
    have h3 := h2 j hjs
    rw [hj] at h3
    have h5 := (hspot (by omega)).1
    have h6 : a = ⟨a.block, a.off, none⟩ := by rw [← h5]
    rw [h6, add_none, add_none] at h3
    exact h3
  · intro i hi
    have hi' : i < len := by omega
    rw [hf i hi']
    have : l[i] = g i hi' := by simp [l]
    rw [this]
    exact (key i hi').choose_spec.choose_spec.2.1

theorem wf_ini {n : Int} (h : (Lit.int .i64 n).wf = true) : InI n := by
  have e1 : IntKind.min .i64 = -9223372036854775808 := by decide
  have e2 : IntKind.max .i64 = 9223372036854775807 := by decide
  have := (Lit.wf_int_iff _ _).1 h
  rw [e1, e2] at this
  exact this

theorem list4 {α : Type} {l : List α} (h : l.length = 4) : ∃ a b c d, l = [a, b, c, d] := by
  match l, h with
  | [a, b, c, d], _ => exact ⟨a, b, c, d, rfl⟩

theorem bytesT : 8 ≤ Try.prog.bytesOf 26 := by rw [show Try.prog.bytesOf 26 = 56 from by kernel_rfl]; decide
theorem cellsT : Try.prog.cellsOf 26 = 4 := by kernel_rfl
theorem cells_k : Try.prog.cellsOf 23 = 1 := by kernel_rfl
theorem cells_s : Try.prog.cellsOf 9 = 1 := by kernel_rfl
theorem cells_i : Try.prog.cellsOf 3 = 1 := by kernel_rfl
theorem cells_l : Try.prog.cellsOf 24 = 1 := by kernel_rfl

set_option maxRecDepth 100000 in
/-- a term, turned -/
theorem rep_of_trod {H : Type} {enc : TypeId × Value → H} (W : World) : ∀ (fuel : Nat) (cs : List Value) (x : DataW H × List MemPlace), DataW.trod enc Try.prog W 0 (fun _ => true) true fuel 26 cs = some x →
    (∀ k ∈ x.1.weights Try.prog 26, k ≤ reachBytes) → ∃ m, Rep (There W) W cs m := by
  intro fuel
  induction fuel using Nat.strongRecOn with
  | _ fuel ih =>
  intro cs x h hw
  obtain ⟨xs, n, rfl, rfl, hl, hlen, hf⟩ := DataW.trod_struct Try.underlying26 h
  rw [cellsT] at hl
  obtain ⟨y0, y1, y2, y3, rfl⟩ := list4 (l := xs) hlen
  obtain ⟨c0, c1, c2, c3, rfl⟩ := list4 hl
  focus
    have h0 : DataW.trod enc Try.prog W 0 (fun _ => true) true n 23 (([c0, c1, c2, c3].drop 0).take (Try.prog.cellsOf 23)) = some y0 := hf 0 _ rfl
    rw [cells_k] at h0
    replace h0 : DataW.trod enc Try.prog W 0 (fun _ => true) true n 23 [c0] = some y0 := h0
    have h1 : DataW.trod enc Try.prog W 0 (fun _ => true) true n 9 (([c0, c1, c2, c3].drop 1).take (Try.prog.cellsOf 9)) = some y1 := hf 1 _ rfl
    rw [cells_s] at h1
    replace h1 : DataW.trod enc Try.prog W 0 (fun _ => true) true n 9 [c1] = some y1 := h1
    have h2 : DataW.trod enc Try.prog W 0 (fun _ => true) true n 3 (([c0, c1, c2, c3].drop 2).take (Try.prog.cellsOf 3)) = some y2 := hf 2 _ rfl
    rw [cells_i] at h2
    replace h2 : DataW.trod enc Try.prog W 0 (fun _ => true) true n 3 [c2] = some y2 := h2
    have h3 : DataW.trod enc Try.prog W 0 (fun _ => true) true n 24 (([c0, c1, c2, c3].drop 3).take (Try.prog.cellsOf 24)) = some y3 := hf 3 _ rfl
    rw [cells_l] at h3
    replace h3 : DataW.trod enc Try.prog W 0 (fun _ => true) true n 24 [c3] = some y3 := h3
    obtain ⟨k, e0, _, wk⟩ := DataW.trod_int Try.underlying23 h0
    obtain ⟨s, e1, e1', _⟩ := DataW.trod_string Try.underlying9 h1
    obtain ⟨i, e2, _, wi⟩ := DataW.trod_int Try.underlying3 h2
    simp only [List.map_cons, List.map_nil, DataW.weights, Try.underlying26, DataW.weightsEach, List.mem_append] at hw
    obtain ⟨v, l, e3, hsl⟩ := sl_of_trod (α := Tm) Try.underlying24 cellsT (by decide) bytesT (Rep (There W) W) n (fun n' hn cs' y hy hwy => ih n' (Nat.lt_succ_of_lt hn) cs' y hy hwy) [c3] y3 h3 (fun k hk => hw k (by simp [hk]))
    have hs : InS s := by
      have := hw s.size (by subst e1'; simp [DataW.weights])
      exact this
    simp only [List.cons.injEq, and_true] at e0 e1 e2 e3
    subst e0 e1 e2 e3
    exact ⟨_, Rep.of (wf_ini wk) (wf_ini wi) hs hsl⟩
end Go.Proofs.Ytmbclhjhmghapaa
