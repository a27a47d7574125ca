/- Two caches that lie apart; what the law's calls do to them. -/
import Derived.Test.YtmbclhjhmghapaaRr3
namespace Go.Proofs.Ytmbclhjhmghapaa
open Go.RowKit

structure Pair (TC TE TC' TE' : Nat) (I : Nat → Prop) (W w : World) (g : Nat) (room : Int) (l : List (Tm × Int)) (g' : Nat) (room' : Int) (l' : List (Tm × Int)) (v v' : Value) : Prop where
  c : CacheAt TC TE I w g room v l
  c' : CacheAt TC' TE' I w g' room' v' l'
  n1 : g ≠ g'
  n2 : v.ownBlock ≠ some g'
  n3 : v'.ownBlock ≠ some g
  n4 : ∀ k, v.ownBlock = some k → v'.ownBlock ≠ some k
  b1 : W.heap.size ≤ g
  b2 : W.heap.size ≤ g'
  b3 : ∀ k, v.ownBlock = some k → W.heap.size ≤ k
  b4 : ∀ k, v'.ownBlock = some k → W.heap.size ≤ k
  below : Below W.heap.size W w
def PairS (TC TE TC' TE' : Nat) (I : Nat → Prop) (W w : World) (g : Nat) (room : Int) (l : List (Tm × Int)) (g' : Nat) (room' : Int) (l' : List (Tm × Int)) : Prop := ∃ v v', Pair TC TE TC' TE' I W w g room l g' room' l' v v'

variable {TC TE TC' TE' : Nat} {I : Nat → Prop} {W w : World} {g : Nat} {room : Int} {l : List (Tm × Int)} {g' : Nat} {room' : Int} {l' : List (Tm × Int)} {v v' : Value}

theorem Pair.on {w1 : World} (h : Pair TC TE TC' TE' I W w g room l g' room' l' v v') (hI : Old I w) (hb : Below w.heap.size w w1) : Pair TC TE TC' TE' I W w1 g room l g' room' l' v v' :=
  { h with c := h.c.on hI hb, c' := h.c'.on hI hb, below := h.below.trans (hb.mono h.below.size) }
theorem PairS.on {w1 : World} (h : PairS TC TE TC' TE' I W w g room l g' room' l') (hI : Old I w) (hb : Below w.heap.size w w1) : PairS TC TE TC' TE' I W w1 g room l g' room' l' := by
  obtain ⟨v, v', h⟩ := h
  exact ⟨v, v', h.on hI hb⟩
theorem PairS.below (h : PairS TC TE TC' TE' I W w g room l g' room' l') : Below W.heap.size W w := by
  obtain ⟨v, v', h⟩ := h
  exact h.below
theorem PairS.swap (h : PairS TC TE TC' TE' I W w g room l g' room' l') : PairS TC' TE' TC TE I W w g' room' l' g room l := by
  obtain ⟨v, v', h⟩ := h
  exact ⟨v', v, h.c', h.c, h.n1.symm, h.n3, h.n2, fun k hk hk' => h.n4 k hk' hk, h.b2, h.b1, h.b4, h.b3, h.below⟩

/-- what a Put of the first leaves -/
theorem Pair.turn {w1 : World} {v1 : Value} {l1 : List (Tm × Int)} (h : Pair TC TE TC' TE' I W w g room l g' room' l' v v') (hI : Old I w) (hv : ∀ k, v1.ownBlock = some k → v.ownBlock = some k ∨ w.heap.size ≤ k) (hc : CacheAt TC TE I w1 g room v1 l1) (ho : Only (CF g v) w w1) :
    PairS TC TE TC' TE' I W w1 g room l1 g' room' l' := by
  have hg' := h.c'.lt
  have hv' := h.c'.own.lt
  refine ⟨v1, v', hc, ?_, h.n1, ?_, h.n3, ?_, h.b1, h.b2, ?_, h.b4, ?_⟩
  · refine h.c'.frame (fun b hb => ho.block b (hI b hb) ?_) (fun _ h => h) (ho.block g' hg' ?_) (fun k hk => ho.block k (hv' k hk) ?_) h.c'.gI h.c'.vI
    · rintro (rfl | hf)
      · exact h.c.gI hb
      · exact h.c.vI _ hf hb
    · rintro (e | hf)
      · exact h.n1 e.symm
      · exact h.n2 hf
    · rintro (rfl | hf)
      · exact h.n3 hk
      · exact h.n4 k hf hk
  · intro e
    rcases hv _ e with h1 | h1
    · exact h.n2 h1
    · omega
  · intro k hk hk'
    rcases hv _ hk with h1 | h1
    · exact h.n4 k h1 hk'
    · have := hv' k hk'; omega
  · intro k hk
    rcases hv _ hk with h1 | h1
    · exact h.b3 k h1
    · exact Nat.le_trans h.below.size h1
  · refine h.below.trans ?_
    refine ⟨ho.os, ho.tape, ho.output, ho.size, fun b hb => ho.block b (Nat.lt_of_lt_of_le hb h.below.size) ?_⟩
    rintro (rfl | hf)
    · have := h.b1; omega
    · have := h.b3 _ hf; omega

theorem PairS.of_new {o o' : Obj} (hI : Old I w) (hW : Below W.heap.size W w) (ho : o = .cells #[.int .i64 room, .slice none 0 0] TC) (ho' : o' = .cells #[.int .i64 room', .slice none 0 0] TC') :
    PairS TC TE TC' TE' I W ((w.alloc o).alloc o') w.heap.size room [] (w.heap.size + 1) room' [] := by
  subst ho ho'
  have h1 := heap_alloc2_old w (.cells #[.int .i64 room, .slice none 0 0] TC) (.cells #[.int .i64 room', .slice none 0 0] TC')
  have h2 := heap_alloc2_new w (.cells #[.int .i64 room, .slice none 0 0] TC) (.cells #[.int .i64 room', .slice none 0 0] TC')
  refine ⟨.slice none 0 0, .slice none 0 0, ⟨h1, .nil _ _ _ _, by simp [Value.ownBlock], fun h => ?_, by simp [Value.ownBlock]⟩, ⟨h2, .nil _ _ _ _, by simp [Value.ownBlock], fun h => ?_, by simp [Value.ownBlock]⟩, by omega, by simp [Value.ownBlock], by simp [Value.ownBlock], by simp [Value.ownBlock], hW.size, Nat.le_succ_of_le hW.size, by simp [Value.ownBlock], by simp [Value.ownBlock], ?_⟩
  · have := hI _ h; omega
  · have := hI _ h; omega
  · exact (hW.alloc hW.size _).alloc (Nat.le_trans hW.size (by simp)) _

section calls
variable {m : Tm} {cm : List Value} {til now : Int}

theorem putP (h : PairS 75 81 TC' TE' I W w g room l g' room' l') (hI : Old I w) (hm : Rep I w cm m) (hti : InI til) (hl : l.length ≤ 1048576) :
    Calls Try.prog 15 #[.pointer (some ⟨g, 0, none⟩), .agg cm.toArray, .int .i64 til, .int .i64 now] w fun e w' =>
      e = .returned (.int .i64 (putL room l m til now).1) ∧ PairS 75 81 TC' TE' I W w' g room (putL room l m til now).2 g' room' l' ∧ w.heap.size ≤ w'.heap.size := by
  obtain ⟨v, v', h⟩ := h
  refine (put_any I w g room v l m cm til now hI h.c hm hti hl).mono ?_
  rintro e w1 ⟨he, v1, hv, hc, ho⟩
  exact ⟨he, h.turn hI hv hc ho, ho.size⟩
theorem putR (h : PairS TC TE 78 83 I W w g room l g' room' l') (hI : Old I w) (hm : Rep I w cm m) (hti : InI til) (hl : l'.length ≤ 1048576) :
    Calls Try.prog 16 #[.pointer (some ⟨g', 0, none⟩), .agg cm.toArray, .int .i64 til, .int .i64 now] w fun e w' =>
      e = .returned (.int .i64 (putL room' l' m til now).1) ∧ PairS TC TE 78 83 I W w' g room l g' room' (putL room' l' m til now).2 ∧ w.heap.size ≤ w'.heap.size := by
  obtain ⟨v, v', h⟩ := h.swap
  refine (rput_any I w g' room' v l' m cm til now hI h.c hm hti hl).mono ?_
  rintro e w1 ⟨he, v1, hv, hc, ho⟩
  exact ⟨he, (h.turn hI hv hc ho).swap, ho.size⟩
theorem lenP (h : PairS 75 81 TC' TE' I W w g room l g' room' l') (hI : Old I w) (hl : l.length ≤ 1048576) :
    Calls Try.prog 17 #[.pointer (some ⟨g, 0, none⟩), .int .i64 now] w fun e w' => e = .returned (.int .i64 (lenF l now)) ∧ Below w.heap.size w w' := by
  obtain ⟨v, v', h⟩ := h
  exact len_any I w g room v l now hI h.c (by omega)
theorem lenR (h : PairS TC TE 78 83 I W w g room l g' room' l') (hI : Old I w) (hl : l'.length ≤ 1048576) :
    Calls Try.prog 18 #[.pointer (some ⟨g', 0, none⟩), .int .i64 now] w fun e w' => e = .returned (.int .i64 (lenF l' now)) ∧ Below w.heap.size w w' := by
  obtain ⟨v, v', h⟩ := h
  exact rlen_any I w g' room' v' l' now hI h.c' (by omega)
theorem hasP (h : PairS 75 81 TC' TE' I W w g room l g' room' l') (hI : Old I w) (hm : Rep I w cm m) (hl : l.length ≤ 1048576) :
    Calls Try.prog 19 #[.pointer (some ⟨g, 0, none⟩), .agg cm.toArray, .int .i64 now] w fun e w' => e = .returned (.bool (hasF l m now)) ∧ Below w.heap.size w w' := by
  obtain ⟨v, v', h⟩ := h
  exact has_any I w g room v l m cm now hI h.c hm (by omega)
theorem hasR (h : PairS TC TE 78 83 I W w g room l g' room' l') (hI : Old I w) (hm : Rep I w cm m) (hl : l'.length ≤ 1048576) :
    Calls Try.prog 20 #[.pointer (some ⟨g', 0, none⟩), .agg cm.toArray, .int .i64 now] w fun e w' => e = .returned (.bool (hasF l' m now)) ∧ Below w.heap.size w w' := by
  obtain ⟨v, v', h⟩ := h
  exact rhas_any I w g' room' v' l' m cm now hI h.c' hm (by omega)
end calls

theorem putL_len (room : Int) (l : List (Tm × Int)) (m : Tm) (til now : Int) : (putL room l m til now).2.length ≤ l.length + 1 := by
  have := live_le l now
  unfold putL
  cases hasF l m now
  · cases decide (room ≤ ((liveF l now).length : Int)) <;> simp <;> omega
  · simp
end Go.Proofs.Ytmbclhjhmghapaa
