/- Slices that a structure owns, element by element; what a call may have turned. No program in sight. -/
import Derived.Test.YtmbclhjhmghapaaTm
import Derived.Lib.Hide
namespace Go.Proofs.Ytmbclhjhmghapaa
open Go.RowKit

structure All2 {α : Type} (sz : Nat) (R : List Value → α → Prop) (css : List (List Value)) (l : List α) : Prop where
  len : css.length = l.length
  sz : ∀ cs ∈ css, cs.length = sz
  rel : ∀ i (h1 : i < css.length) (h2 : i < l.length), R css[i] l[i]

theorem All2.nil {α : Type} (sz : Nat) (R : List Value → α → Prop) : All2 sz R [] [] := ⟨rfl, by simp, by simp⟩
theorem All2.snoc {α : Type} {sz : Nat} {R : List Value → α → Prop} {css : List (List Value)} {l : List α} (h : All2 sz R css l) {cs : List Value} {x : α} (hs : cs.length = sz) (hr : R cs x) : All2 sz R (css ++ [cs]) (l ++ [x]) := by
  refine ⟨by simp [h.len], ?_, ?_⟩
  · intro c hc
    rcases List.mem_append.1 hc with hc | hc
    · exact h.sz c hc
    · rw [List.mem_singleton.1 hc]; exact hs
  · intro i h1 h2
    have hl := h.len
    by_cases hi : i < css.length
    · rw [List.getElem_append_left hi, List.getElem_append_left (by omega)]
      exact h.rel i hi (by omega)
    · simp only [List.length_append, List.length_singleton] at h1
      have e : i = css.length := by omega
      subst e
      simp [hl]
      exact hr
theorem All2.mono {α : Type} {sz : Nat} {R R' : List Value → α → Prop} {css : List (List Value)} {l : List α} (h : All2 sz R css l) (hR : ∀ cs x, R cs x → R' cs x) : All2 sz R' css l :=
  ⟨h.len, h.sz, fun i h1 h2 => hR _ _ (h.rel i h1 h2)⟩
theorem All2.erase {α : Type} {sz : Nat} {R : List Value → α → Prop} {css : List (List Value)} {l : List α} (h : All2 sz R css l) (k : Nat) : All2 sz R (css.eraseIdx k) (l.eraseIdx k) := by
  refine ⟨?_, ?_, ?_⟩
  · rw [List.length_eraseIdx, List.length_eraseIdx, h.len]
  · intro c hc
    exact h.sz c (List.mem_of_mem_eraseIdx hc)
  · intro i h1 h2
    have hl := h.len
    rw [List.getElem_eraseIdx, List.getElem_eraseIdx]
    split
    · exact h.rel _ _ _
    · exact h.rel _ _ _

theorem flat_get (sz : Nat) : ∀ (css : List (List Value)) (i j : Nat), (∀ cs ∈ css, cs.length = sz) → j < sz → css.flatten[i * sz + j]? = (css[i]?).bind (·[j]?) := by
  intro css
  induction css with
  | nil => intro i j _ _; simp
  | cons c css ih =>
    intro i j h hj
    have hc : c.length = sz := h c (by simp)
    cases i with
    | zero => simp [List.getElem?_append_left, hc, hj]
    | succ i =>
      rw [List.flatten_cons, List.getElem?_append_right (by rw [hc, Nat.succ_mul]; omega), List.getElem?_cons_succ, hc, Nat.succ_mul, show i * sz + sz + j - sz = i * sz + j from by omega]
      exact ih i j (fun cs hcs => h cs (by simp [hcs])) hj

theorem flat_len (sz : Nat) : ∀ (css : List (List Value)), (∀ cs ∈ css, cs.length = sz) → css.flatten.length = css.length * sz := by
  intro css
  induction css with
  | nil => intro _; simp
  | cons c css ih =>
    intro h
    rw [List.flatten_cons, List.length_append, ih (fun cs hcs => h cs (by simp [hcs])), h c (by simp), List.length_cons, Nat.succ_mul]
    omega

/-- a slice that is owned: nobody else writes its cells -/
def OwnSl {α : Type} (w : World) (E sz : Nat) (R : List Value → α → Prop) (v : Value) (l : List α) : Prop :=
  ∃ css : List (List Value), w.ownsRow 0 E sz v l.length css.flatten ∧ All2 sz R css l

theorem OwnSl.nil {α : Type} (w : World) (E sz : Nat) (R : List Value → α → Prop) : OwnSl w E sz R (.slice none 0 0) [] := ⟨[], World.ownsRow_nil _ _ _ _, .nil _ _⟩

theorem OwnSl.form {α : Type} {w : World} {E sz : Nat} {R : List Value → α → Prop} {v : Value} {l : List α} (h : OwnSl w E sz R v l) :
    (v = .slice none 0 0 ∧ l = []) ∨ ∃ g cap, v = .slice (some ⟨g, 0, none⟩) l.length cap ∧ g < w.heap.size ∧ l.length ≤ cap := by
  obtain ⟨css, ho, ha⟩ := h
  rcases ho.2 with ⟨h1, h2⟩ | ⟨g, cap, cur, h1, _, h3, h4, _⟩
  · exact .inl ⟨h1, List.eq_nil_of_length_eq_zero h2⟩
  · exact .inr ⟨g, cap, h1, lt_of_block h3, h4⟩

/-- one element of it: its cells -/
theorem OwnSl.at {α : Type} {w : World} {E sz : Nat} {R : List Value → α → Prop} {g cap n : Nat} {l : List α} (h : OwnSl w E sz R (.slice (some ⟨g, 0, none⟩) n cap) l) (i : Nat) (hi : i < l.length) :
    ∃ cs, cs.length = sz ∧ R cs l[i] ∧ ∀ j u, cs[j]? = some u → w.cell? ⟨g, i * sz + j, none⟩ = some u := by
  obtain ⟨css, ho, ha⟩ := h
  have hi' : i < css.length := by rw [ha.len]; exact hi
  refine ⟨css[i], ha.sz _ (List.getElem_mem hi'), ha.rel i hi' hi, ?_⟩
  intro j u hj
  have hjs : j < sz := by rw [← ha.sz _ (List.getElem_mem hi')]; exact (List.getElem?_eq_some_iff.1 hj).1
  have hn : n = l.length := by
    rcases ho.2 with ⟨h1, _⟩ | ⟨_, _, _, h1, _⟩
    · cases h1
    · injection h1
  have := ho.cells (g := g) rfl (i * sz + j) u (by rw [flat_get sz css i j ha.sz hjs, List.getElem?_eq_getElem hi']; exact hj)
  rw [← this]
  unfold Addr.add
  split
  · rename_i h0; rw [h0]
  · simp

/-- What a call may have turned: the blocks of F alone, and new ones. -/
structure Only (F : Nat → Prop) (w w' : World) : Prop where
  os : w'.os = w.os
  tape : w'.tape = w.tape
  output : w'.output = w.output
  size : w.heap.size ≤ w'.heap.size
  block : ∀ b, b < w.heap.size → ¬ F b → w'.heap[b]? = w.heap[b]?

theorem Only.refl (F : Nat → Prop) (w : World) : Only F w w := ⟨rfl, rfl, rfl, Nat.le_refl _, fun _ _ _ => rfl⟩
theorem Only.trans {F : Nat → Prop} {a b c : World} (h : Only F a b) (k : Only F b c) : Only F a c :=
  ⟨k.os.trans h.os, k.tape.trans h.tape, k.output.trans h.output, Nat.le_trans h.size k.size, fun i hi hf => (k.block i (Nat.lt_of_lt_of_le hi h.size) hf).trans (h.block i hi hf)⟩
theorem Only.mono {F G : Nat → Prop} {w w' : World} (h : Only F w w') (hF : ∀ b, b < w.heap.size → F b → G b) : Only G w w' := ⟨h.os, h.tape, h.output, h.size, fun b hb hg => h.block b hb fun hf => hg (hF b hb hf)⟩
theorem Only.of_below {F : Nat → Prop} {w w' : World} (h : Below w.heap.size w w') : Only F w w' := ⟨h.os, h.tape, h.output, h.size, fun b hb _ => h.block b hb⟩
theorem Only.below {F : Nat → Prop} {w w' : World} (h : Only F w w') (hF : ∀ b, F b → w.heap.size ≤ b) : Below w.heap.size w w' :=
  ⟨h.os, h.tape, h.output, h.size, fun b hb => h.block b hb fun hf => by have := hF b hf; omega⟩
theorem Only.alloc {F : Nat → Prop} {a w : World} (h : Only F a w) (o : Obj) : Only F a (w.alloc o) := h.trans (.of_below ((Below.refl _ _).alloc (Nat.le_refl _) _))
theorem Only.setCell {F : Nat → Prop} {a w : World} (h : Only F a w) {p : Addr} (hp : F p.block ∨ a.heap.size ≤ p.block) (u : Value) : Only F a (w.setCell p u) :=
  ⟨h.os, h.tape, h.output, by simpa [World.setCell] using h.size, fun b hb hf => (Below.heap_setCell _ _ _ _ (by rintro rfl; rcases hp with hp | hp; exact hf hp; omega)).trans (h.block b hb hf)⟩
theorem Only.drew {F : Nat → Prop} {a w : World} (h : Only F a w) : Only F a w.drew := ⟨h.os, h.tape, h.output, h.size, h.block⟩
theorem Only.grown {F : Nat → Prop} {a w w' : World} {row : Option Nat} (h : Only F a w) (hg : w.grownBy w' row) (hr : ∀ k, row = some k → F k ∨ a.heap.size ≤ k) : Only F a w' :=
  ⟨hg.os.trans h.os, hg.tape.trans h.tape, hg.output.trans h.output, Nat.le_trans h.size hg.size, fun b hb hf => (hg.block b (Nat.lt_of_lt_of_le hb h.size) (fun e => by
    rcases hr b e.symm with h1 | h1
    · exact hf h1
    · omega)).trans (h.block b hb hf)⟩
theorem Only.same {F I : Nat → Prop} {w w' : World} (h : Only F w w') (ho : Old I w) (hd : ∀ b, I b → ¬ F b) (b : Nat) (hi : I b) : w'.heap[b]? = w.heap[b]? := h.block b (ho b hi) (hd b hi)
theorem Old.only {F I : Nat → Prop} {w w' : World} (h : Old I w) (hb : Only F w w') : Old I w' := fun b hi => Nat.lt_of_lt_of_le (h b hi) hb.size

theorem ownsRow_of_block {w w' : World} {base : Nat} {e : TypeId} {size : Nat} {v : Value} {n : Nat} {xs : List Value} (h : w.ownsRow base e size v n xs) (hb : ∀ k, v.ownBlock = some k → w'.heap[k]? = w.heap[k]?) : w'.ownsRow base e size v n xs := by
  obtain ⟨h1, h2⟩ := h
  refine ⟨h1, ?_⟩
  rcases h2 with h2 | ⟨g, cap, cur, hv, hg, hh, r⟩
  · exact .inl h2
  · subst hv
    exact .inr ⟨g, cap, cur, rfl, hg, by rw [hb g rfl]; exact hh, r⟩
theorem OwnSl.frame {α : Type} {w w' : World} {E sz : Nat} {R R' : List Value → α → Prop} {v : Value} {l : List α} (h : OwnSl w E sz R v l) (hb : ∀ k, v.ownBlock = some k → w'.heap[k]? = w.heap[k]?) (hR : ∀ cs x, R cs x → R' cs x) : OwnSl w' E sz R' v l := by
  obtain ⟨css, ho, ha⟩ := h
  exact ⟨css, ownsRow_of_block ho hb, ha.mono hR⟩
theorem OwnSl.lt {α : Type} {w : World} {E sz : Nat} {R : List Value → α → Prop} {v : Value} {l : List α} (h : OwnSl w E sz R v l) (k : Nat) (hk : v.ownBlock = some k) : k < w.heap.size := by
  obtain ⟨css, ho, _⟩ := h
  exact (ho.lt k hk).2
end Go.Proofs.Ytmbclhjhmghapaa
