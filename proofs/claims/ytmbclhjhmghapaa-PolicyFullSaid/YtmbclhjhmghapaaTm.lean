/- Terms as trees; what it is for memory to hold a slice, a term. No program in sight. -/
import Derived.WalkKit
import Derived.WalkSpells
namespace Go.Proofs.Ytmbclhjhmghapaa
open Go.RowKit

inductive Tm where
  | mk (k : Int) (s : ByteArray) (n : Int) (l : List Tm)

namespace Tm
def k : Tm → Int | .mk k _ _ _ => k
def s : Tm → ByteArray | .mk _ s _ _ => s
def n : Tm → Int | .mk _ _ n _ => n
def l : Tm → List Tm | .mk _ _ _ l => l
def zero : Tm := .mk 0 ByteArray.empty 0 []
end Tm
instance : Inhabited Tm := ⟨Tm.zero⟩

/-- a number of Go's int -/
def InI (n : Int) : Prop := -9223372036854775808 ≤ n ∧ n ≤ 9223372036854775807
/-- a text that may be -/
def InS (s : ByteArray) : Prop := s.size ≤ 140737488351232

/-- the cells of a row, one behind another -/
def RowAt (w : World) (b off : Nat) (cs : List Value) : Prop := ∀ j u, cs[j]? = some u → w.cell? ⟨b, off + j, none⟩ = some u

/-- 'n' elements of 'sz' cells each, of which one at i has the cells 'f i'. -/
structure SliceAt (I : Nat → Prop) (w : World) (sz : Nat) (a : Option Addr) (n cap : Nat) (f : Nat → List Value) : Prop where
  le : n ≤ cap
  max : n ≤ 17592186044416
  nil : a = none → cap = 0
  at_ : ∀ p, a = some p → 0 < n → p.spot = none ∧ I p.block
  len : ∀ i, i < n → (f i).length = sz
  row : ∀ p, a = some p → ∀ i, i < n → RowAt w p.block (p.off + i * sz) (f i)

/-- Memory holds a term: its cells' values; 'I': the blocks that it may reach. -/
inductive Rep (I : Nat → Prop) (w : World) : List Value → Tm → Prop where
  | mk (k : Int) (s : ByteArray) (n : Int) (a : Option Addr) (cap : Nat) (l : List Tm) (f : Nat → List Value) (hk : InI k) (hn : InI n) (hs : InS s)
      (h : SliceAt I w 4 a l.length cap f) (hrep : ∀ i (h : i < l.length), Rep I w (f i) l[i]) :
      Rep I w [.int .i64 k, .string s, .int .i64 n, .slice a l.length cap] (.mk k s n l)

/-- a slice, with what its elements are -/
def RSl {α : Type} (I : Nat → Prop) (w : World) (sz : Nat) (R : List Value → α → Prop) (v : Value) (l : List α) : Prop :=
  ∃ a cap f, v = .slice a l.length cap ∧ SliceAt I w sz a l.length cap f ∧ ∀ i (h : i < l.length), R (f i) l[i]

def isStr (cs : List Value) (s : ByteArray) : Prop := cs = [.string s] ∧ InS s
def isInt (cs : List Value) (n : Int) : Prop := cs = [.int .i64 n] ∧ InI n
abbrev RTs (I : Nat → Prop) (w : World) : Value → List Tm → Prop := RSl I w 4 (Rep I w)
abbrev RStrs (I : Nat → Prop) (w : World) : Value → List ByteArray → Prop := RSl I w 1 isStr
abbrev RInts (I : Nat → Prop) (w : World) : Value → List Int → Prop := RSl I w 1 isInt

/-! ### what memory holds it holds on, while its blocks are as they were -/
theorem cell_of_heap {w w' : World} {b : Nat} (h : w'.heap[b]? = w.heap[b]?) (o : Nat) : w'.cell? ⟨b, o, none⟩ = w.cell? ⟨b, o, none⟩ := by simp [World.cell?, h]

theorem RowAt.frame {w w' : World} {b off : Nat} {cs : List Value} (h : RowAt w b off cs) (hw : w'.heap[b]? = w.heap[b]?) : RowAt w' b off cs :=
  fun j u hj => (cell_of_heap hw _).trans (h j u hj)

theorem SliceAt.frame {I I' : Nat → Prop} {w w' : World} {sz : Nat} {a : Option Addr} {n cap : Nat} {f : Nat → List Value} (h : SliceAt I w sz a n cap f)
    (hw : ∀ b, I b → w'.heap[b]? = w.heap[b]?) (hI : ∀ b, I b → I' b) : SliceAt I' w' sz a n cap f :=
  ⟨h.le, h.max, h.nil, fun p hp hn => ⟨(h.at_ p hp hn).1, hI _ (h.at_ p hp hn).2⟩, h.len, fun p hp i hi => (h.row p hp i hi).frame (hw _ (h.at_ p hp (by omega)).2)⟩

theorem Rep.frame {I I' : Nat → Prop} {w w' : World} {cs : List Value} {t : Tm} (h : Rep I w cs t) (hw : ∀ b, I b → w'.heap[b]? = w.heap[b]?) (hI : ∀ b, I b → I' b) : Rep I' w' cs t := by
  induction h with
  | mk k s n a cap l f hk hn hs h _ ih => exact .mk k s n a cap l f hk hn hs (h.frame hw hI) ih

theorem RSl.frame {α : Type} {I I' : Nat → Prop} {w w' : World} {sz : Nat} {R R' : List Value → α → Prop} {v : Value} {l : List α} (h : RSl I w sz R v l)
    (hw : ∀ b, I b → w'.heap[b]? = w.heap[b]?) (hI : ∀ b, I b → I' b) (hR : ∀ cs x, R cs x → R' cs x) : RSl I' w' sz R' v l := by
  obtain ⟨a, cap, f, rfl, hs, hr⟩ := h
  exact ⟨a, cap, f, rfl, hs.frame hw hI, fun i hi => hR _ _ (hr i hi)⟩
theorem RTs.frame {I I' : Nat → Prop} {w w' : World} {v : Value} {l : List Tm} (h : RTs I w v l) (hw : ∀ b, I b → w'.heap[b]? = w.heap[b]?) (hI : ∀ b, I b → I' b) : RTs I' w' v l :=
  RSl.frame h hw hI fun _ _ r => r.frame hw hI
theorem RStrs.frame {I I' : Nat → Prop} {w w' : World} {v : Value} {l : List ByteArray} (h : RStrs I w v l) (hw : ∀ b, I b → w'.heap[b]? = w.heap[b]?) (hI : ∀ b, I b → I' b) : RStrs I' w' v l :=
  RSl.frame h hw hI fun _ _ r => r
theorem RInts.frame {I I' : Nat → Prop} {w w' : World} {v : Value} {l : List Int} (h : RInts I w v l) (hw : ∀ b, I b → w'.heap[b]? = w.heap[b]?) (hI : ∀ b, I b → I' b) : RInts I' w' v l :=
  RSl.frame h hw hI fun _ _ r => r

/-- blocks that were there, or have been made since -/
def Newer (I : Nat → Prop) (w w' : World) (b : Nat) : Prop := I b ∨ (w.heap.size ≤ b ∧ b < w'.heap.size)
/-- all blocks of I lie in w -/
def Old (I : Nat → Prop) (w : World) : Prop := ∀ b, I b → b < w.heap.size

theorem Old.newer {I : Nat → Prop} {w w' : World} (h : Old I w) (hs : w.heap.size ≤ w'.heap.size) : Old (Newer I w w') w' := by
  rintro b (hb | hb)
  · exact Nat.lt_of_lt_of_le (h b hb) hs
  · exact hb.2
theorem Newer.of {I : Nat → Prop} {w w' : World} {b : Nat} (h : I b) : Newer I w w' b := .inl h
theorem Old.same {I : Nat → Prop} {w w' : World} (h : Old I w) (hb : Below w.heap.size w w') (b : Nat) (hi : I b) : w'.heap[b]? = w.heap[b]? := hb.block b (h b hi)

theorem Old.on {I : Nat → Prop} {w w' : World} (h : Old I w) (hb : Below w.heap.size w w') : Old I w' := fun b hi => Nat.lt_of_lt_of_le (h b hi) hb.size
theorem Rep.on {I : Nat → Prop} {w w' : World} {cs : List Value} {t : Tm} (h : Rep I w cs t) (ho : Old I w) (hb : Below w.heap.size w w') : Rep I w' cs t := h.frame (ho.same hb) fun _ h => h
theorem RTs.on {I : Nat → Prop} {w w' : World} {v : Value} {l : List Tm} (h : RTs I w v l) (ho : Old I w) (hb : Below w.heap.size w w') : RTs I w' v l := RTs.frame h (ho.same hb) fun _ h => h
theorem RStrs.on {I : Nat → Prop} {w w' : World} {v : Value} {l : List ByteArray} (h : RStrs I w v l) (ho : Old I w) (hb : Below w.heap.size w w') : RStrs I w' v l := RStrs.frame h (ho.same hb) fun _ h => h
theorem RInts.on {I : Nat → Prop} {w w' : World} {v : Value} {l : List Int} (h : RInts I w v l) (ho : Old I w) (hb : Below w.heap.size w w') : RInts I w' v l := RInts.frame h (ho.same hb) fun _ h => h

theorem SliceAt.pos {I : Nat → Prop} {w : World} {sz : Nat} {a : Option Addr} {n cap : Nat} {f : Nat → List Value} (h : SliceAt I w sz a n cap f) (hn : 0 < n) : ∃ b o, a = some ⟨b, o, none⟩ ∧ I b := by
  cases a with
  | none =>
    have h1 := h.nil rfl
    have h2 := h.le
    omega
  | some p =>
    obtain ⟨h1, h2⟩ := h.at_ p rfl hn
    cases p
    simp only at h1 h2
    subst h1
    exact ⟨_, _, rfl, h2⟩
theorem SliceAt.cells {I : Nat → Prop} {w : World} {sz : Nat} {b o : Nat} {n cap : Nat} {f : Nat → List Value} (h : SliceAt I w sz (some ⟨b, o, none⟩) n cap f) {i : Nat} (hi : i < n) : RowAt w b (o + i * sz) (f i) := h.row _ rfl i hi
theorem RowAt.at4 {w : World} {b off : Nat} {c0 c1 c2 c3 : Value} (h : RowAt w b off [c0, c1, c2, c3]) :
    w.cell? ⟨b, off, none⟩ = some c0 ∧ w.cell? ⟨b, off + 1, none⟩ = some c1 ∧ w.cell? ⟨b, off + 2, none⟩ = some c2 ∧ w.cell? ⟨b, off + 3, none⟩ = some c3 :=
  ⟨h 0 _ rfl, h 1 _ rfl, h 2 _ rfl, h 3 _ rfl⟩

/-! ### a term laid open -/
theorem Rep.inv {I : Nat → Prop} {w : World} {cs : List Value} {t : Tm} (h : Rep I w cs t) :
    ∃ a cap, cs = [.int .i64 t.k, .string t.s, .int .i64 t.n, .slice a t.l.length cap] ∧ RTs I w (.slice a t.l.length cap) t.l ∧ InI t.k ∧ InI t.n ∧ InS t.s := by
  cases h with
  | mk k s n a cap l f hk hn hs h hr => exact ⟨_, _, rfl, ⟨a, cap, f, rfl, h, hr⟩, hk, hn, hs⟩
theorem Rep.of {I : Nat → Prop} {w : World} {k n : Int} {s : ByteArray} {v : Value} {l : List Tm} (hk : InI k) (hn : InI n) (hs : InS s) (h : RTs I w v l) :
    Rep I w [.int .i64 k, .string s, .int .i64 n, v] (.mk k s n l) := by
  obtain ⟨a, cap, f, rfl, hsl, hr⟩ := h
  exact .mk k s n a cap l f hk hn hs hsl hr
theorem RSl.nil {α : Type} (I : Nat → Prop) (w : World) (sz : Nat) (R : List Value → α → Prop) : RSl I w sz R (.slice none 0 0) [] :=
  ⟨none, 0, fun _ => [], rfl, ⟨Nat.le_refl _, Nat.zero_le _, fun _ => rfl, by simp, by simp, by simp⟩, by simp⟩

/-- induction over terms -/
theorem Tm.ind {P : Tm → Prop} (h : ∀ k s n l, (∀ t ∈ l, P t) → P (.mk k s n l)) (t : Tm) : P t := by
  have key : ∀ (m : Nat) (t : Tm), SizeOf.sizeOf t ≤ m → P t := by
    intro m
    induction m with
    | zero => intro t ht; cases t; simp at ht
    | succ m ih =>
      intro t ht
      cases t with
      | mk k s n l =>
        refine h k s n l fun u hu => ih u ?_
        have := List.sizeOf_lt_of_mem hu
        simp only [Tm.mk.sizeOf_spec] at ht
        omega
  exact key _ t (Nat.le_refl _)
end Go.Proofs.Ytmbclhjhmghapaa
