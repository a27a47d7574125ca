/- Package replay: what memory holds of a cache; New, Has, Len. -/
import Derived.Test.YtmbclhjhmghapaaSame
import Derived.Test.YtmbclhjhmghapaaOwn
namespace Go.Proofs.Ytmbclhjhmghapaa
open Go.RowKit

/-- an entry: a mark's cells, and until when -/
def REntry (I : Nat → Prop) (w : World) (cs : List Value) (x : Tm × Int) : Prop := ∃ ct, Rep I w ct x.1 ∧ cs = ct ++ [.int .i64 x.2] ∧ InI x.2
theorem REntry.frame {I I' : Nat → Prop} {w w' : World} {cs : List Value} {x : Tm × Int} (h : REntry I w cs x) (hw : ∀ b, I b → w'.heap[b]? = w.heap[b]?) (hI : ∀ b, I b → I' b) : REntry I' w' cs x := by
  obtain ⟨ct, h1, h2, h3⟩ := h
  exact ⟨ct, h1.frame hw hI, h2, h3⟩

structure CacheAt (TC TE : Nat) (I : Nat → Prop) (w : World) (g : Nat) (room : Int) (v : Value) (l : List (Tm × Int)) : Prop where
  blk : w.heap[g]? = some (.cells #[.int .i64 room, v] TC (0, 0))
  own : OwnSl w TE 5 (REntry I w) v l
  ne : v.ownBlock ≠ some g
  gI : ¬ I g
  vI : ∀ k, v.ownBlock = some k → ¬ I k

theorem CacheAt.frame {TC TE : Nat} {I I' : Nat → Prop} {w w' : World} {g : Nat} {room : Int} {v : Value} {l : List (Tm × Int)} (h : CacheAt TC TE I w g room v l)
    (hw : ∀ b, I b → w'.heap[b]? = w.heap[b]?) (hI : ∀ b, I b → I' b) (hg : w'.heap[g]? = w.heap[g]?) (hv : ∀ k, v.ownBlock = some k → w'.heap[k]? = w.heap[k]?)
    (ng : ¬ I' g) (nv : ∀ k, v.ownBlock = some k → ¬ I' k) : CacheAt TC TE I' w' g room v l :=
  ⟨hg.trans h.blk, h.own.frame hv fun _ _ r => r.frame hw hI, h.ne, ng, nv⟩
theorem CacheAt.lt {TC TE : Nat} {I : Nat → Prop} {w : World} {g : Nat} {room : Int} {v : Value} {l : List (Tm × Int)} (h : CacheAt TC TE I w g room v l) : g < w.heap.size := lt_of_block h.blk
theorem CacheAt.on {TC TE : Nat} {I : Nat → Prop} {w w' : World} {g : Nat} {room : Int} {v : Value} {l : List (Tm × Int)} (h : CacheAt TC TE I w g room v l) (ho : Old I w) (hb : Below w.heap.size w w') : CacheAt TC TE I w' g room v l :=
  h.frame (ho.same hb) (fun _ h => h) (hb.block g h.lt) (fun k hk => hb.block k (h.own.lt k hk)) h.gI h.vI

/-- the blocks of a cache -/
def CF (g : Nat) (v : Value) (b : Nat) : Prop := b = g ∨ v.ownBlock = some b

noncomputable def hitF (m : Tm) (now : Int) (x : Tm × Int) : Bool := decide (now < x.2) && sameB x.1 m
noncomputable def hasF (l : List (Tm × Int)) (m : Tm) (now : Int) : Bool := l.any (hitF m now)
def lenF (l : List (Tm × Int)) (now : Int) : Int := (l.filter fun x => decide (now < x.2)).length

theorem any_take_succ {α : Type} (p : α → Bool) (l : List α) (k : Nat) (h : k < l.length) : (l.take (k + 1)).any p = ((l.take k).any p || p l[k]) := by
  rw [List.take_succ_eq_append_getElem h, List.any_append]
  simp
theorem any_at {α : Type} (p : α → Bool) (l : List α) (k : Nat) (h : k < l.length) (hp : p l[k] = true) : l.any p = true := List.any_eq_true.2 ⟨_, List.getElem_mem h, hp⟩

/-- an entry of a cache, laid open -/
theorem CacheAt.at {TC TE : Nat} {I : Nat → Prop} {w : World} {g : Nat} {room : Int} {B n cap : Nat} {l : List (Tm × Int)} (h : CacheAt TC TE I w g room (.slice (some ⟨B, 0, none⟩) n cap) l) (i : Nat) (hi : i < l.length) :
    ∃ a c, RTs I w (.slice a l[i].1.l.length c) l[i].1.l ∧ Rep I w [.int .i64 l[i].1.k, .string l[i].1.s, .int .i64 l[i].1.n, .slice a l[i].1.l.length c] l[i].1 ∧ InI l[i].2 ∧
      w.cell? ⟨B, i * 5, none⟩ = some (.int .i64 l[i].1.k) ∧ w.cell? ⟨B, i * 5 + 1, none⟩ = some (.string l[i].1.s) ∧ w.cell? ⟨B, i * 5 + 2, none⟩ = some (.int .i64 l[i].1.n) ∧
      w.cell? ⟨B, i * 5 + 3, none⟩ = some (.slice a l[i].1.l.length c) ∧ w.cell? ⟨B, i * 5 + 4, none⟩ = some (.int .i64 l[i].2) := by
  obtain ⟨cs, h1, ⟨ct, h2, h3, h4⟩, h5⟩ := h.own.at i hi
  obtain ⟨a, c, e, q, _⟩ := h2.inv
  rw [e] at h2 h3
  subst h3
  exact ⟨a, c, q, h2, h4, h5 0 _ rfl, h5 1 _ rfl, h5 2 _ rfl, h5 3 _ rfl, h5 4 _ rfl⟩
end Go.Proofs.Ytmbclhjhmghapaa
