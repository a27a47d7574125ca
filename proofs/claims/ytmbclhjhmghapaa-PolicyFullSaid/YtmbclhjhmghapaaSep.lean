/- Assertions over memory: what is read alone (I), what is owned (F); what a call may turn. No program in sight. -/
import Derived.Test.YtmbclhjhmghapaaOwn
namespace Go.Proofs.Ytmbclhjhmghapaa
open Go.RowKit

def FNone : Nat → Prop := fun _ => False
def FOne (b : Nat) : Nat → Prop := fun x => x = b
def FOr (F G : Nat → Prop) : Nat → Prop := fun b => F b ∨ G b
def FOwn (v : Value) : Nat → Prop := fun b => v.ownBlock = some b
def Disj (F G : Nat → Prop) : Prop := ∀ b, F b → ¬ G b
theorem FOr.none_right (F : Nat → Prop) : FOr F FNone = F := by funext b; simp [FOr, FNone]
theorem FOr.none_left (F : Nat → Prop) : FOr FNone F = F := by funext b; simp [FOr, FNone]
theorem FOr.comm (F G : Nat → Prop) : FOr F G = FOr G F := by funext b; simp [FOr, or_comm]
theorem FOr.assoc (F G H : Nat → Prop) : FOr (FOr F G) H = FOr F (FOr G H) := by funext b; simp [FOr, or_assoc]
theorem Disj.symm {F G : Nat → Prop} (h : Disj F G) : Disj G F := fun b hg hf => h b hf hg
theorem Disj.or_left {F G H : Nat → Prop} : Disj (FOr F G) H ↔ Disj F H ∧ Disj G H := ⟨fun h => ⟨fun b hf => h b (.inl hf), fun b hg => h b (.inr hg)⟩, fun h b hb => hb.elim (h.1 b) (h.2 b)⟩
theorem Disj.or_right {F G H : Nat → Prop} : Disj F (FOr G H) ↔ Disj F G ∧ Disj F H := ⟨fun h => ⟨fun b hf hg => h b hf (.inl hg), fun b hf hh => h b hf (.inr hh)⟩, fun h b hf hb => hb.elim (h.1 b hf) (h.2 b hf)⟩
theorem Disj.none_left (F : Nat → Prop) : Disj FNone F := fun _ h => h.elim
theorem Disj.none_right (F : Nat → Prop) : Disj F FNone := fun _ _ h => h

/-- an assertion over memory -/
structure Asn where
  at_ : (Nat → Prop) → World → (Nat → Prop) → Prop
  loc : ∀ {I I' : Nat → Prop} {w w' : World} {F : Nat → Prop}, at_ I w F → (∀ b, I b → w'.heap[b]? = w.heap[b]?) → (∀ b, F b → w'.heap[b]? = w.heap[b]?) → (∀ b, I b → I' b) → at_ I' w' F
  lt : ∀ {I : Nat → Prop} {w : World} {F : Nat → Prop}, at_ I w F → ∀ b, F b → b < w.heap.size

namespace Asn
def emp : Asn := ⟨fun _ _ F => F = FNone, fun h _ _ _ => h, fun h b hb => by rw [h] at hb; exact hb.elim⟩
def star (P Q : Asn) : Asn where
  at_ I w F := ∃ F1 F2, P.at_ I w F1 ∧ Q.at_ I w F2 ∧ Disj F1 F2 ∧ F = FOr F1 F2
  loc := by
    rintro I I' w w' F ⟨F1, F2, h1, h2, hd, rfl⟩ hI hF hs
    exact ⟨F1, F2, P.loc h1 hI (fun b hb => hF b (.inl hb)) hs, Q.loc h2 hI (fun b hb => hF b (.inr hb)) hs, hd, rfl⟩
  lt := by
    rintro I w F ⟨F1, F2, h1, h2, hd, rfl⟩ b (hb | hb)
    · exact P.lt h1 b hb
    · exact Q.lt h2 b hb
/-- what is read alone -/
def pers (φ : (Nat → Prop) → World → Prop) (hφ : ∀ {I I' w w'}, φ I w → (∀ b, I b → w'.heap[b]? = w.heap[b]?) → (∀ b, I b → I' b) → φ I' w') : Asn where
  at_ I w F := φ I w ∧ F = FNone
  loc h hI _ hs := ⟨hφ h.1 hI hs, h.2⟩
  lt h b hb := by rw [h.2] at hb; exact hb.elim
def pure (p : Prop) : Asn := pers (fun _ _ => p) fun h _ _ => h
def ex {α : Type} (P : α → Asn) : Asn where
  at_ I w F := ∃ x, (P x).at_ I w F
  loc := by
    rintro I I' w w' F ⟨x, h⟩ hI hF hs
    exact ⟨x, (P x).loc h hI hF hs⟩
  lt := by
    rintro I w F ⟨x, h⟩
    exact (P x).lt h
/-- a block of cells -/
def blk (b : Nat) (cs : List Value) (T : TypeId) : Asn where
  at_ _ w F := w.heap[b]? = some (.cells cs.toArray T (0, 0)) ∧ F = FOne b
  loc h _ hF _ := ⟨(hF b (by rw [h.2]; rfl)).trans h.1, h.2⟩
  lt := by
    rintro I w F ⟨h, rfl⟩ b' rfl
    exact lt_of_block h
/-- an owned slice -/
def own {α : Type} (E sz : Nat) (R : (Nat → Prop) → World → List Value → α → Prop) (hR : ∀ {I I' w w' cs x}, R I w cs x → (∀ b, I b → w'.heap[b]? = w.heap[b]?) → (∀ b, I b → I' b) → R I' w' cs x) (v : Value) (l : List α) : Asn where
  at_ I w F := OwnSl w E sz (R I w) v l ∧ F = FOwn v
  loc := by
    rintro I I' w w' F ⟨h, rfl⟩ hI hF hs
    exact ⟨h.frame (fun k hk => hF k hk) fun cs x r => hR r hI hs, rfl⟩
  lt := by
    rintro I w F ⟨h, rfl⟩ b hb
    exact h.lt b hb
/-- several, side by side -/
def stars : List Asn → Asn
  | [] => emp
  | P :: l => star P (stars l)
end Asn
open Asn

structure Ctx (I F : Nat → Prop) (w : World) : Prop where
  old : Old I w
  disj : Disj I F
  lt : ∀ b, F b → b < w.heap.size
structure Turn (I F I' F' : Nat → Prop) (w w' : World) : Prop where
  only : Only F w w'
  sub : ∀ b, I b → I' b
  new : ∀ b, I' b → I b ∨ F b ∨ w.heap.size ≤ b
  fnew : ∀ b, F' b → F b ∨ w.heap.size ≤ b
theorem Turn.refl (I F : Nat → Prop) (w : World) : Turn I F I F w w := ⟨.refl _ _, fun _ h => h, fun _ h => .inl h, fun _ h => .inl h⟩
theorem Turn.trans {I F I' F' I'' F'' : Nat → Prop} {w w' w'' : World} (h : Turn I F I' F' w w') (k : Turn I' F' I'' F'' w' w'') : Turn I F I'' F'' w w'' := by
  refine ⟨⟨k.only.os.trans h.only.os, k.only.tape.trans h.only.tape, k.only.output.trans h.only.output, Nat.le_trans h.only.size k.only.size, fun b hb hf => ?_⟩, fun b hb => k.sub b (h.sub b hb), fun b hb => ?_, fun b hb => ?_⟩
  · refine (k.only.block b (Nat.lt_of_lt_of_le hb h.only.size) fun hf' => ?_).trans (h.only.block b hb hf)
    rcases h.fnew b hf' with h1 | h1
    · exact hf h1
    · omega
  · rcases k.new b hb with h1 | h1 | h1
    · exact h.new b h1
    · exact .inr (h.fnew b h1)
    · exact .inr (.inr (Nat.le_trans h.only.size h1))
  · rcases k.fnew b hb with h1 | h1
    · exact h.fnew b h1
    · exact .inr (Nat.le_trans h.only.size h1)

/-- What a call on F alone does to the rest. -/
theorem Turn.frame {I F G I' F' : Nat → Prop} {w w' : World} (R : Asn) (hc : Ctx I (FOr F G) w) (hd : Disj F G) (hR : R.at_ I w G) (ht : Turn I F I' F' w w') (hc' : Ctx I' F' w') :
    R.at_ I' w' G ∧ Disj F' G ∧ Ctx I' (FOr F' G) w' ∧ Turn I (FOr F G) I' (FOr F' G) w w' := by
  have hG : ∀ b, G b → b < w.heap.size := fun b hb => hc.lt b (.inr hb)
  have hI : ∀ b, I b → w'.heap[b]? = w.heap[b]? := fun b hb => ht.only.block b (hc.old b hb) fun hf => hc.disj b hb (.inl hf)
  have hGb : ∀ b, G b → w'.heap[b]? = w.heap[b]? := fun b hb => ht.only.block b (hG b hb) fun hf => hd b hf hb
  have hd' : Disj F' G := by
    intro b hf hg
    rcases ht.fnew b hf with h1 | h1
    · exact hd b h1 hg
    · have := hG b hg; omega
  refine ⟨R.loc hR hI hGb ht.sub, hd', ⟨hc'.old, ?_, ?_⟩, ?_, ht.sub, ?_, ?_⟩
  · intro b hb
    rintro (h1 | h1)
    · exact hc'.disj b hb h1
    · rcases ht.new b hb with h2 | h2 | h2
      · exact hc.disj b h2 (.inr h1)
      · exact hd b h2 h1
      · have := hG b h1; omega
  · rintro b (h1 | h1)
    · exact hc'.lt b h1
    · exact Nat.lt_of_lt_of_le (hG b h1) ht.only.size
  · exact ht.only.mono fun b _ hb => .inl hb
  · intro b hb
    rcases ht.new b hb with h2 | h2 | h2
    · exact .inl h2
    · exact .inr (.inl (.inl h2))
    · exact .inr (.inr h2)
  · rintro b (h1 | h1)
    · rcases ht.fnew b h1 with h2 | h2
      · exact .inl (.inl h2)
      · exact .inr h2
    · exact .inl (.inr h1)

/-- where a walk stands: what holds now, and what has turned since w0 -/
def Sta (l : List Asn) (I0 F0 : Nat → Prop) (w0 w : World) : Prop := ∃ I F, (stars l).at_ I w F ∧ Ctx I F w ∧ Turn I0 F0 I F w0 w

section
variable {P Q A : Asn} {R l : List Asn} {I0 F0 : Nat → Prop} {w0 w w' : World}

theorem Sta.old (h : Sta l I0 F0 w0 w) : ∃ I, Old I w ∧ ∀ b, I0 b → I b := by
  obtain ⟨I, F, _, hc, ht⟩ := h
  exact ⟨I, hc.old, ht.sub⟩
theorem Sta.size (h : Sta l I0 F0 w0 w) : w0.heap.size ≤ w.heap.size := by
  obtain ⟨I, F, _, hc, ht⟩ := h
  exact ht.only.size
theorem Sta.only (h : Sta l I0 F0 w0 w) : Only F0 w0 w := by
  obtain ⟨I, F, _, hc, ht⟩ := h
  exact ht.only
theorem Sta.below (h : Sta l I0 FNone w0 w) : Below w0.heap.size w0 w := h.only.below fun _ h => h.elim

/-- The world has turned, but in none of what is held. -/
theorem Sta.go (h : Sta l I0 F0 w0 w) (hb : Below w.heap.size w w') : Sta l I0 F0 w0 w' := by
  obtain ⟨I, F, ha, hc, ht⟩ := h
  refine ⟨I, F, (stars l).loc ha (fun b h => hb.block b (hc.old b h)) (fun b h => hb.block b (hc.lt b h)) fun _ h => h, ⟨hc.old.on hb, hc.disj, fun b h => Nat.lt_of_lt_of_le (hc.lt b h) hb.size⟩, ht.trans ⟨.of_below hb, fun _ h => h, fun _ h => .inl h, fun _ h => .inl h⟩⟩
theorem Sta.drew (h : Sta l I0 F0 w0 w) : Sta l I0 F0 w0 w.drew := h.go (Below.refl _ _).drew
theorem Sta.alloc (h : Sta l I0 F0 w0 w) (o : Obj) : Sta l I0 F0 w0 (w.alloc o) := h.go ((Below.refl _ _).alloc (Nat.le_refl _) _)

/-- the assertions turned by a law that looks at the blocks at hand alone -/
theorem Sta.imp {l' : List Asn} (h : Sta l I0 F0 w0 w) (hl : ∀ I F, (stars l).at_ I w F → (stars l').at_ I w F) : Sta l' I0 F0 w0 w := by
  obtain ⟨I, F, ha, r⟩ := h
  exact ⟨I, F, hl I F ha, r⟩
theorem star_swap {P Q R : Asn} {I F : Nat → Prop} (h : (star P (star Q R)).at_ I w F) : (star Q (star P R)).at_ I w F := by
  obtain ⟨F1, F2, h1, ⟨F3, F4, h3, h4, hd, rfl⟩, hd2, rfl⟩ := h
  rw [Disj.or_right] at hd2
  refine ⟨F3, FOr F1 F4, h3, ⟨F1, F4, h1, h4, hd2.2, rfl⟩, Disj.or_right.2 ⟨hd2.1.symm, hd⟩, ?_⟩
  funext b
  simp only [FOr, eq_iff_iff]
  constructor
  · rintro (h | h | h) <;> simp [h]
  · rintro (h | h | h) <;> simp [h]
theorem star_mono {P P' Q Q' : Asn} {I F : Nat → Prop} (hP : ∀ F, P.at_ I w F → P'.at_ I w F) (hQ : ∀ F, Q.at_ I w F → Q'.at_ I w F) (h : (star P Q).at_ I w F) : (star P' Q').at_ I w F := by
  obtain ⟨F1, F2, h1, h2, hd, e⟩ := h
  exact ⟨F1, F2, hP _ h1, hQ _ h2, hd, e⟩
theorem Sta.imp0 {P' : Asn} (h : Sta (P :: R) I0 F0 w0 w) (hl : ∀ I F, P.at_ I w F → P'.at_ I w F) : Sta (P' :: R) I0 F0 w0 w :=
  h.imp fun I F ha => star_mono (hl I) (fun _ h => h) ha
/-- bring one to the front -/
theorem Sta.f1 {a0 a1 : Asn} (h : Sta (a0 :: a1 :: R) I0 F0 w0 w) : Sta (a1 :: a0 :: R) I0 F0 w0 w := h.imp fun _ _ ha => star_swap ha
theorem Sta.tail1 {l l' : List Asn} (h : Sta (P :: l) I0 F0 w0 w) (hl : ∀ I F, (stars l).at_ I w F → (stars l').at_ I w F) : Sta (P :: l') I0 F0 w0 w := h.imp fun I F ha => star_mono (fun _ h => h) (hl I) ha
theorem front_at : ∀ (k : Nat) (l : List Asn) (a : Asn) (I F : Nat → Prop), l[k]? = some a → (stars l).at_ I w F → (stars (a :: l.eraseIdx k)).at_ I w F := by
  intro k
  induction k with
  | zero =>
    intro l a I F hk h
    cases l with
    | nil => cases hk
    | cons x l => simp at hk; subst hk; exact h
  | succ k ih =>
    intro l a I F hk h
    cases l with
    | nil => cases hk
    | cons x l =>
      have : (star x (stars (a :: l.eraseIdx k))).at_ I w F := star_mono (fun _ h => h) (fun F h => ih l a I F (by simpa using hk) h) h
      exact star_swap this
theorem Sta.front (h : Sta l I0 F0 w0 w) (k : Nat) {a : Asn} (hk : l[k]? = some a) : Sta (a :: l.eraseIdx k) I0 F0 w0 w := h.imp fun I F ha => front_at k l a I F hk ha
theorem Sta.f2 {a0 a1 a2 : Asn} (h : Sta (a0 :: a1 :: a2 :: R) I0 F0 w0 w) : Sta (a2 :: a0 :: a1 :: R) I0 F0 w0 w := h.front 2 rfl
theorem Sta.f3 {a0 a1 a2 a3 : Asn} (h : Sta (a0 :: a1 :: a2 :: a3 :: R) I0 F0 w0 w) : Sta (a3 :: a0 :: a1 :: a2 :: R) I0 F0 w0 w := h.front 3 rfl
theorem Sta.f4 {a0 a1 a2 a3 a4 : Asn} (h : Sta (a0 :: a1 :: a2 :: a3 :: a4 :: R) I0 F0 w0 w) : Sta (a4 :: a0 :: a1 :: a2 :: a3 :: R) I0 F0 w0 w := h.front 4 rfl
theorem Sta.f5 {a0 a1 a2 a3 a4 a5 : Asn} (h : Sta (a0 :: a1 :: a2 :: a3 :: a4 :: a5 :: R) I0 F0 w0 w) : Sta (a5 :: a0 :: a1 :: a2 :: a3 :: a4 :: R) I0 F0 w0 w := h.front 5 rfl
theorem Sta.f6 {a0 a1 a2 a3 a4 a5 a6 : Asn} (h : Sta (a0 :: a1 :: a2 :: a3 :: a4 :: a5 :: a6 :: R) I0 F0 w0 w) : Sta (a6 :: a0 :: a1 :: a2 :: a3 :: a4 :: a5 :: R) I0 F0 w0 w := h.front 6 rfl
theorem Sta.f7 {a0 a1 a2 a3 a4 a5 a6 a7 : Asn} (h : Sta (a0 :: a1 :: a2 :: a3 :: a4 :: a5 :: a6 :: a7 :: R) I0 F0 w0 w) : Sta (a7 :: a0 :: a1 :: a2 :: a3 :: a4 :: a5 :: a6 :: R) I0 F0 w0 w := h.front 7 rfl
theorem Sta.f8 {a0 a1 a2 a3 a4 a5 a6 a7 a8 : Asn} (h : Sta (a0 :: a1 :: a2 :: a3 :: a4 :: a5 :: a6 :: a7 :: a8 :: R) I0 F0 w0 w) : Sta (a8 :: a0 :: a1 :: a2 :: a3 :: a4 :: a5 :: a6 :: a7 :: R) I0 F0 w0 w := h.front 8 rfl

/-! ### the front: two in one, one in two; what it says -/
theorem Sta.un (h : Sta (star P Q :: R) I0 F0 w0 w) : Sta (P :: Q :: R) I0 F0 w0 w := h.imp fun I F ha => by
  obtain ⟨F1, F2, ⟨F3, F4, h3, h4, hd, rfl⟩, h2, hd2, rfl⟩ := ha
  rw [Disj.or_left] at hd2
  exact ⟨F3, FOr F4 F2, h3, ⟨F4, F2, h4, h2, hd2.2, rfl⟩, Disj.or_right.2 ⟨hd, hd2.1⟩, FOr.assoc _ _ _⟩
theorem Sta.two (h : Sta (P :: Q :: R) I0 F0 w0 w) : Sta (star P Q :: R) I0 F0 w0 w := h.imp fun I F ha => by
  obtain ⟨F3, F5, h3, ⟨F4, F2, h4, h2, hd, rfl⟩, hd2, rfl⟩ := ha
  rw [Disj.or_right] at hd2
  exact ⟨FOr F3 F4, F2, ⟨F3, F4, h3, h4, hd2.1, rfl⟩, h2, Disj.or_left.2 ⟨hd2.2, hd⟩, (FOr.assoc _ _ _).symm⟩
theorem stars_append (l l' : List Asn) (I F : Nat → Prop) : (stars (l ++ l')).at_ I w F ↔ (star (stars l) (stars l')).at_ I w F := by
  induction l generalizing F with
  | nil =>
    constructor
    · intro h
      exact ⟨FNone, F, rfl, h, Disj.none_left _, (FOr.none_left _).symm⟩
    · rintro ⟨F1, F2, h1, h2, hd, rfl⟩
      rw [show F1 = FNone from h1, FOr.none_left]
      exact h2
  | cons a l ih =>
    constructor
    · rintro ⟨F1, F2, h1, h2, hd, rfl⟩
      obtain ⟨F3, F4, h3, h4, hd2, rfl⟩ := (ih F2).1 h2
      rw [Disj.or_right] at hd
      exact ⟨FOr F1 F3, F4, ⟨F1, F3, h1, h3, hd.1, rfl⟩, h4, Disj.or_left.2 ⟨hd.2, hd2⟩, (FOr.assoc _ _ _).symm⟩
    · rintro ⟨F1, F4, ⟨F5, F3, h5, h3, hd, rfl⟩, h4, hd2, rfl⟩
      rw [Disj.or_left] at hd2
      exact ⟨F5, FOr F3 F4, h5, (ih _).2 ⟨F3, F4, h3, h4, hd2.2, rfl⟩, Disj.or_right.2 ⟨hd, hd2.1⟩, FOr.assoc _ _ _⟩
theorem Sta.unl (h : Sta (stars l :: R) I0 F0 w0 w) : Sta (l ++ R) I0 F0 w0 w := h.imp fun I F ha => (stars_append l R I F).2 ha
theorem Sta.lun (h : Sta (l ++ R) I0 F0 w0 w) : Sta (stars l :: R) I0 F0 w0 w := h.imp fun I F ha => (stars_append l R I F).1 ha
theorem Sta.unex {α : Type} {P : α → Asn} (h : Sta (ex P :: R) I0 F0 w0 w) : ∃ x, Sta (P x :: R) I0 F0 w0 w := by
  obtain ⟨I, F, ⟨F1, F2, ⟨x, h1⟩, h2, hd, e⟩, r⟩ := h
  exact ⟨x, I, F, ⟨F1, F2, h1, h2, hd, e⟩, r⟩
theorem Sta.toex {α : Type} {P : α → Asn} (x : α) (h : Sta (P x :: R) I0 F0 w0 w) : Sta (ex P :: R) I0 F0 w0 w := h.imp0 fun _ _ h => ⟨x, h⟩
theorem Sta.drop (h : Sta (P :: R) I0 F0 w0 w) : Sta R I0 F0 w0 w := by
  obtain ⟨I, F, ⟨F1, F2, h1, h2, hd, rfl⟩, hc, ht⟩ := h
  exact ⟨I, F2, h2, ⟨hc.old, fun b hb hf => hc.disj b hb (.inr hf), fun b hb => hc.lt b (.inr hb)⟩, ht.only, ht.sub, ht.new, fun b hb => ht.fnew b (.inr hb)⟩
theorem Sta.head (h : Sta (P :: R) I0 F0 w0 w) : ∃ I F, P.at_ I w F ∧ Ctx I F w := by
  obtain ⟨I, F, ⟨F1, F2, h1, h2, hd, rfl⟩, hc, ht⟩ := h
  exact ⟨I, F1, h1, hc.old, fun b hb hf => hc.disj b hb (.inl hf), fun b hb => hc.lt b (.inl hb)⟩

theorem Sta.empty (h : Sta (emp :: R) I0 F0 w0 w) : Sta R I0 F0 w0 w := h.drop
theorem pers_star {φ : (Nat → Prop) → World → Prop} {hφ} {Q : Asn} {I F : Nat → Prop} : (star (pers φ hφ) Q).at_ I w F ↔ φ I w ∧ Q.at_ I w F := by
  constructor
  · rintro ⟨F1, F2, ⟨h1, rfl⟩, h2, _, rfl⟩
    rw [FOr.none_left]
    exact ⟨h1, h2⟩
  · rintro ⟨h1, h2⟩
    exact ⟨FNone, F, ⟨h1, rfl⟩, h2, Disj.none_left _, (FOr.none_left _).symm⟩
theorem Sta.pers {φ : (Nat → Prop) → World → Prop} {hφ} (h : Sta (Asn.pers φ hφ :: R) I0 F0 w0 w) : ∃ I, Old I w ∧ φ I w := by
  obtain ⟨I, F, h1, hc⟩ := h.head
  exact ⟨I, hc.old, h1.1⟩
theorem Sta.pers2 {φ ψ : (Nat → Prop) → World → Prop} {hφ hψ} (h : Sta (Asn.pers φ hφ :: Asn.pers ψ hψ :: R) I0 F0 w0 w) : ∃ I, Old I w ∧ φ I w ∧ ψ I w := by
  obtain ⟨I, F, ha, hc, _⟩ := h
  have h1 := pers_star.1 ha
  have h2 := pers_star.1 h1.2
  exact ⟨I, hc.old, h1.1, h2.1⟩
theorem Sta.dup {φ : (Nat → Prop) → World → Prop} {hφ} (h : Sta (Asn.pers φ hφ :: R) I0 F0 w0 w) : Sta (Asn.pers φ hφ :: Asn.pers φ hφ :: R) I0 F0 w0 w := h.imp fun I F ha => by
  have := pers_star.1 ha
  exact pers_star.2 ⟨this.1, ha⟩
theorem Sta.topers {φ : (Nat → Prop) → World → Prop} {hφ} (h : Sta R I0 F0 w0 w) (hp : ∀ I, Old I w → (∀ b, I0 b → I b) → φ I w) : Sta (Asn.pers φ hφ :: R) I0 F0 w0 w := by
  obtain ⟨I, F, ha, hc, ht⟩ := h
  exact ⟨I, F, pers_star.2 ⟨hp I hc.old ht.sub, ha⟩, hc, ht⟩
theorem Sta.pure {p : Prop} (h : Sta (Asn.pure p :: R) I0 F0 w0 w) : p := by
  obtain ⟨I, _, h1⟩ := Sta.pers h
  exact h1
theorem Sta.topure {p : Prop} (h : Sta R I0 F0 w0 w) (hp : p) : Sta (Asn.pure p :: R) I0 F0 w0 w := h.topers fun _ _ _ => hp
/-- a reading out of one that is read alone -/
theorem Sta.frompers {φ ψ : (Nat → Prop) → World → Prop} {hφ hψ} (h : Sta (Asn.pers φ hφ :: R) I0 F0 w0 w) (hp : ∀ I, Old I w → φ I w → ψ I w) : Sta (Asn.pers ψ hψ :: Asn.pers φ hφ :: R) I0 F0 w0 w := by
  obtain ⟨I, F, ha, hc, ht⟩ := h
  exact ⟨I, F, pers_star.2 ⟨hp I hc.old (pers_star.1 ha).1, ha⟩, hc, ht⟩

/-! ### blocks -/
theorem Sta.cell {b : Nat} {cs : List Value} {T : TypeId} (h : Sta (blk b cs T :: R) I0 F0 w0 w) (j : Nat) (v : Value) (hv : cs[j]? = some v) : w.cell? ⟨b, j, none⟩ = some v := by
  obtain ⟨I, F, ⟨h1, _⟩, hc⟩ := h.head
  simp [World.cell?, h1, hv]
theorem Sta.frozen {b : Nat} {cs : List Value} {T : TypeId} (h : Sta (blk b cs T :: R) I0 F0 w0 w) (j : Nat) : w.frozen? ⟨b, j, none⟩ = false := by
  obtain ⟨I, F, ⟨h1, _⟩, hc⟩ := h.head
  simp [World.frozen?, h1]
theorem Sta.blt {b : Nat} {cs : List Value} {T : TypeId} (h : Sta (blk b cs T :: R) I0 F0 w0 w) : b < w.heap.size := by
  obtain ⟨I, F, ⟨h1, _⟩, hc⟩ := h.head
  exact lt_of_block h1
theorem Sta.set {b : Nat} {cs : List Value} {T : TypeId} (h : Sta (blk b cs T :: R) I0 F0 w0 w) (j : Nat) (v : Value) : Sta (blk b (cs.set j v) T :: R) I0 F0 w0 (w.setCell ⟨b, j, none⟩ v) := by
  obtain ⟨I, F, ⟨F1, F2, ⟨h1, rfl⟩, h2, hd, rfl⟩, hc, ht⟩ := h
  have hb : b < w.heap.size := lt_of_block h1
  have hlt : ∀ x, x < w.heap.size → x < (w.setCell ⟨b, j, none⟩ v).heap.size := fun x hx => by simpa [World.setCell] using hx
  have ht1 : Turn I (FOne b) I (FOne b) w (w.setCell ⟨b, j, none⟩ v) := ⟨Only.setCell (F := FOne b) (p := ⟨b, j, none⟩) (Only.refl _ w) (.inl rfl) v, fun _ h => h, fun _ h => .inl h, fun _ h => .inl h⟩
  have hc1 : Ctx I (FOne b) (w.setCell ⟨b, j, none⟩ v) := ⟨fun x hx => hlt x (hc.old x hx), fun x hx hf => hc.disj x hx (.inl hf), fun x hx => hlt x (by rw [show x = b from hx]; exact hb)⟩
  obtain ⟨r1, r2, r3, r4⟩ := ht1.frame (stars R) hc hd h2 hc1
  refine ⟨I, _, ⟨FOne b, F2, ⟨?_, rfl⟩, r1, r2, rfl⟩, r3, ht.trans r4⟩
  rw [heap_setCell_same _ _ _ _ _ _ h1]
  simp
theorem heap_laid (w : World) (o : Obj) : (w.alloc o).heap[w.heap.size]? = some o := by
  show (w.heap.push o)[w.heap.size]? = some o
  simp
theorem Sta.lay (h : Sta R I0 F0 w0 w) (cs : List Value) (T : TypeId) : Sta (blk w.heap.size cs T :: R) I0 F0 w0 (w.alloc (.cells cs.toArray T (0, 0))) := by
  obtain ⟨I, F, ha, hc, ht⟩ := h
  have hs : (w.alloc (.cells cs.toArray T (0, 0))).heap.size = w.heap.size + 1 := by simp
  have ht1 : Turn I FNone I (FOne w.heap.size) w (w.alloc (.cells cs.toArray T (0, 0))) := ⟨(Only.refl _ _).alloc _, fun _ h => h, fun _ h => .inl h, fun b h => .inr (by rw [show b = w.heap.size from h]; exact Nat.le_refl _)⟩
  have hc1 : Ctx I (FOne w.heap.size) (w.alloc (.cells cs.toArray T (0, 0))) := by
    refine ⟨fun b hb => ?_, fun b hb hf => ?_, fun b hb => ?_⟩
    · have := hc.old b hb; omega
    · have := hc.old b hb; rw [show b = w.heap.size from hf] at this; omega
    · rw [show b = w.heap.size from hb]; omega
  have hc0 : Ctx I (FOr FNone F) w := by rw [FOr.none_left]; exact hc
  obtain ⟨r1, r2, r3, r4⟩ := ht1.frame (stars R) hc0 (Disj.none_left _) ha hc1
  rw [FOr.none_left] at r4
  exact ⟨I, _, ⟨_, F, ⟨heap_laid w _, rfl⟩, r1, r2, rfl⟩, r3, ht.trans r4⟩

/-- What is owned is only read from now on. -/
theorem Sta.freeze {φ : (Nat → Prop) → World → Prop} {hφ} (h : Sta (P :: R) I0 F0 w0 w) (hp : ∀ I F, P.at_ I w F → φ (FOr I F) w) : Sta (Asn.pers φ hφ :: R) I0 F0 w0 w := by
  obtain ⟨I, F, ⟨F1, F2, h1, h2, hd, rfl⟩, hc, ht⟩ := h
  refine ⟨FOr I F1, F2, pers_star.2 ⟨hp I F1 h1, (stars R).loc h2 (fun _ _ => rfl) (fun _ _ => rfl) fun _ h => .inl h⟩, ⟨?_, ?_, ?_⟩, ?_⟩
  · rintro b (hb | hb)
    · exact hc.old b hb
    · exact hc.lt b (.inl hb)
  · rintro b (hb | hb) hf
    · exact hc.disj b hb (.inr hf)
    · exact hd b hb hf
  · exact fun b hb => hc.lt b (.inr hb)
  · refine ⟨ht.only, fun b hb => .inl (ht.sub b hb), ?_, fun b hb => ht.fnew b (.inr hb)⟩
    rintro b (hb | hb)
    · exact ht.new b hb
    · exact .inr (ht.fnew b (.inl hb))

/-! ### calls: one that turns P alone serves in whatever company -/
theorem Sta.call {P' : Asn} (h : Sta (P :: R) I0 F0 w0 w) : ∃ I F, P.at_ I w F ∧ Ctx I F w ∧ ∀ w' I' F', P'.at_ I' w' F' → Ctx I' F' w' → Turn I F I' F' w w' → Sta (P' :: R) I0 F0 w0 w' := by
  obtain ⟨I, F, ⟨F1, F2, h1, h2, hd, rfl⟩, hc, ht⟩ := h
  refine ⟨I, F1, h1, ⟨hc.old, fun b hb hf => hc.disj b hb (.inl hf), fun b hb => hc.lt b (.inl hb)⟩, fun w' I' F' h1' hc' ht' => ?_⟩
  obtain ⟨r1, r2, r3, r4⟩ := ht'.frame (stars R) hc hd h2 hc'
  exact ⟨I', _, ⟨F', F2, h1', r1, r2, rfl⟩, r3, ht.trans r4⟩

/-- What a call has made is only read from now on. -/
theorem Sta.gain {φ : (Nat → Prop) → World → Prop} {hφ} (h : Sta R I0 F0 w0 w) (hb : Below w.heap.size w w') (hp : ∀ I, Old I w' → (∀ b, w.heap.size ≤ b → b < w'.heap.size → I b) → φ I w') : Sta (Asn.pers φ hφ :: R) I0 F0 w0 w' := by
  obtain ⟨I, F, ha, hc, ht⟩ := h
  have hold : Old (FOr I fun b => w.heap.size ≤ b ∧ b < w'.heap.size) w' := by
    rintro b (h1 | h1)
    · exact Nat.lt_of_lt_of_le (hc.old b h1) hb.size
    · exact h1.2
  refine ⟨FOr I fun b => w.heap.size ≤ b ∧ b < w'.heap.size, F, pers_star.2 ⟨hp _ hold fun b h1 h2 => .inr ⟨h1, h2⟩, (stars R).loc ha (fun b h => hb.block b (hc.old b h)) (fun b h => hb.block b (hc.lt b h)) fun _ h => .inl h⟩, ⟨hold, ?_, fun b h => Nat.lt_of_lt_of_le (hc.lt b h) hb.size⟩, ht.trans ⟨.of_below hb, fun _ h => .inl h, ?_, fun _ h => .inl h⟩⟩
  · rintro b (h1 | h1) hf
    · exact hc.disj b h1 hf
    · have := hc.lt b hf; omega
  · rintro b (h1 | h1)
    · exact .inl h1
    · exact .inr (.inr h1.1)

/-- What a call has made is owned from now on. -/
theorem Sta.gainOwn {A : Asn} {G : Nat → Prop} (h : Sta R I0 F0 w0 w) (hb : Below w.heap.size w w') (hA : ∀ I, A.at_ I w' G) (hn : ∀ k, G k → w.heap.size ≤ k) : Sta (A :: R) I0 F0 w0 w' := by
  obtain ⟨I, F, ha, hc, ht⟩ := h
  have hlt := A.lt (hA I)
  refine ⟨I, FOr G F, ⟨G, F, hA I, (stars R).loc ha (fun b h => hb.block b (hc.old b h)) (fun b h => hb.block b (hc.lt b h)) fun _ h => h, ?_, rfl⟩, ⟨hc.old.on hb, ?_, ?_⟩, ht.trans ⟨.of_below hb, fun _ h => h, fun _ h => .inl h, ?_⟩⟩
  · intro b hg hf
    have := hn b hg
    have := hc.lt b hf
    omega
  · rintro b hi (hg | hf)
    · have := hn b hg
      have := hc.old b hi
      omega
    · exact hc.disj b hi hf
  · rintro b (hg | hf)
    · exact hlt b hg
    · exact Nat.lt_of_lt_of_le (hc.lt b hf) hb.size
  · rintro b (hg | hf)
    · exact .inr (hn b hg)
    · exact .inl hf
end

/-- a law begins: all that lies in memory may be read, nothing is owned -/
theorem Sta.start (W : World) : Sta [] (fun b => b < W.heap.size) FNone W W := ⟨_, FNone, rfl, ⟨fun _ h => h, Disj.none_right _, fun _ h => h.elim⟩, .refl _ _ _⟩
end Go.Proofs.Ytmbclhjhmghapaa
