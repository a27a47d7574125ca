/- Owned slices: one element more, one less. No program in sight. -/
import Derived.Test.YtmbclhjhmghapaaSep
import Derived.Maps.AppendAt
import Derived.Laws.IdiomCopy
import Derived.Deep.Quiet
namespace Go.Proofs.Ytmbclhjhmghapaa
open Go.RowKit

theorem Only.of_grown {w w' : World} {v : Value} (h : w.grownBy w' v.ownBlock) : Only (FOwn v) w w' := (Only.refl _ _).grown h fun k hk => .inl hk

section
variable {Rs : List Asn} {I0 F0 : Nat → Prop} {w0 w w' : World} {α : Type} {E sz : Nat} {R : (Nat → Prop) → World → List Value → α → Prop} {hR : ∀ {I I' w w' cs x}, R I w cs x → (∀ b, I b → w'.heap[b]? = w.heap[b]?) → (∀ b, I b → I' b) → R I' w' cs x}

/-- an owned slice has turned -/
theorem Sta.ownTurn {v v' : Value} {l l' : List α} (h : Sta (.own E sz R hR v l :: Rs) I0 F0 w0 w) (ho : Only (FOwn v) w w') (hat : ∀ k, v'.ownBlock = some k → v.ownBlock = some k ∨ w.heap.size ≤ k)
    (hown : ∀ I, Old I w → Disj I (FOwn v) → OwnSl w E sz (R I w) v l → OwnSl w' E sz (R I w') v' l') : Sta (.own E sz R hR v' l' :: Rs) I0 F0 w0 w' := by
  obtain ⟨I, F, ⟨h1, rfl⟩, hc, hk⟩ := h.call (P' := .own E sz R hR v' l')
  have h2 := hown I hc.old hc.disj h1
  refine hk w' I (FOwn v') ⟨h2, rfl⟩ ⟨fun b hb => Nat.lt_of_lt_of_le (hc.old b hb) ho.size, fun b hb hf => ?_, fun b hb => h2.lt b hb⟩ ⟨ho, fun _ h => h, fun _ h => .inl h, fun b hb => hat b hb⟩
  rcases hat b hf with h3 | h3
  · exact hc.disj b hb h3
  · have := hc.old b hb; omega
theorem Sta.ownOf {v : Value} {l : List α} (h : Sta (.own E sz R hR v l :: Rs) I0 F0 w0 w) : ∃ I, Old I w ∧ Disj I (FOwn v) ∧ OwnSl w E sz (R I w) v l := by
  obtain ⟨I, F, ⟨h1, rfl⟩, hc⟩ := h.head
  exact ⟨I, hc.old, hc.disj, h1⟩
/-- a slice of none is owned -/
theorem Sta.ownNil (h : Sta Rs I0 F0 w0 w) : Sta (.own E sz R hR (.slice none 0 0) [] :: Rs) I0 F0 w0 w := by
  obtain ⟨I, F, ha, hc, ht⟩ := h
  have e : FOwn (.slice none 0 0) = FNone := by funext b; simp [FOwn, Value.ownBlock, FNone]
  exact ⟨I, F, ⟨FNone, F, ⟨OwnSl.nil _ _ _ _, e.symm⟩, ha, Disj.none_left _, (FOr.none_left _).symm⟩, hc, ht⟩
end

theorem OwnSl.snoc {α : Type} {w' : World} {E sz : Nat} {R : List Value → α → Prop} {v' : Value} {l : List α} {x : α} {cs xs : List Value} (h2 : ∃ css : List (List Value), xs = css.flatten ∧ All2 sz R css l) (h : w'.ownsRow 0 E sz v' (l.length + 1) (xs ++ cs)) (hlen : cs.length = sz) (hx : R cs x) : OwnSl w' E sz R v' (l ++ [x]) := by
  obtain ⟨css, rfl, ha⟩ := h2
  refine ⟨css ++ [cs], ?_, ha.snoc hlen hx⟩
  rw [List.flatten_append, List.length_append]
  simpa using h

/-- append(v, x), at the operation -/
theorem wp_append_one {P : Program} {w : World} {ops : Array Oper} {rest : List Oper} {o : Oper} {a : Act} {Q : Exit → Act → World → Prop} {α : Type} {R : List Value → α → Prop} {v : Value} {l : List α} {sz bytes : Nat} {z : Value} (hgd : o.guard = none) (s x : Operand) (t : TypeId)
    (ho : o.op = .call { callee := .builtin .append, args := #[s, x], argTypes := #[t, t] }) (e : TypeId) (hi : (P.info? e).map (fun i => (i.zero, i.size, i.bytes)) = some (some z, sz, bytes)) (ht : P.underlying t = some (.slice e)) (hzs : z.cells.size = sz) (hsz : 0 < sz)
    (hs : a.eval s = v) (hown : OwnSl w e sz R v l) (ad : Addr) (c : Nat) (cs : List Value) (y : α) (hx : a.eval x = .slice (some ad) 1 c) (hl : cs.length = sz) (hcell : ∀ j u, cs[j]? = some u → w.cell? (ad.add j) = some u) (h1 : ∀ u ∈ cs, u.oneCell' = true) (hy : R cs y)
    (h63 : l.length + 1 ≤ maxLen) (hbytes : (l.length + 1) * bytes ≤ 140737488355328)
    (h : ∀ v' w', OwnSl w' e sz R v' (l ++ [y]) → Only (FOwn v) w w' → (∀ k, v'.ownBlock = some k → v.ownBlock = some k ∨ w.heap.size ≤ k) → wpList P ops Q rest (a.put o.dst v') w') : wpList P ops Q (o :: rest) a w := by
  obtain ⟨i, hi1, hi2, hi3, hi4⟩ := info_parts hi
  obtain ⟨css, hrow, ha⟩ := hown
  refine wpList_append_own_at w hgd s x t ho 0 e i z sz bytes ht hi1 hi2 hi3 hi4 hzs hsz v l.length css.flatten hs hrow ad 1 c cs hx (by rw [hl, Nat.one_mul]) hcell h1 h63 hbytes (Nat.zero_le _) ?_
  intro v' w' hown' hgrow _ hat
  refine h v' w' (OwnSl.snoc ⟨css, rfl, ha⟩ hown' hl hy) (.of_grown hgrow) fun k hk => ?_
  rcases hat with h2 | h2
  · exact .inl (h2 ▸ hk)
  · rw [h2] at hk
    injection hk with hk
    exact .inr (by omega)

/-! ### cells written one behind another -/
theorem heap_setCells (b : Nat) (T : TypeId) : ∀ (vs : List Value) (o : Nat) (w : World) (cur : Array Value), w.heap[b]? = some (.cells cur T (0, 0)) → o + vs.length ≤ cur.size →
    (w.setCells b o vs).heap[b]? = some (.cells (cur.toList.take o ++ vs ++ cur.toList.drop (o + vs.length)).toArray T (0, 0))
  | [], o, w, cur, h, _ => by
    simp only [List.length_nil, Nat.add_zero, List.append_nil, List.take_append_drop, Array.toArray_toList]
    exact h
  | v :: r, o, w, cur, h, hl => by
    have hl' : o + (r.length + 1) ≤ cur.size := by simpa using hl
    show ((w.setCell ⟨b, o, none⟩ v).setCells b (o + 1) r).heap[b]? = _
    have h1 : (w.setCell ⟨b, o, none⟩ v).heap[b]? = some (.cells (cur.setIfInBounds o v) T (0, 0)) := heap_setCell_same w _ _ _ _ _ h
    rw [heap_setCells b T r (o + 1) _ _ h1 (by simp; omega)]
    congr 2
    apply Array.toList_inj.1
    simp only [List.length_cons, Array.toList_setIfInBounds]
    have hlt : o < cur.toList.length := by simp; omega
    rw [List.take_set, List.drop_set_of_lt (by omega)]
    rw [List.take_succ_eq_append_getElem hlt, List.set_append_right (h := by simp; omega)]
    simp only [List.length_take]
    rw [show o - min o cur.toList.length = 0 from by omega]
    simp only [List.set_cons_zero, List.append_assoc, List.cons_append, List.nil_append]
    rw [show o + 1 + r.length = o + (r.length + 1) from by omega]
theorem Only.setCells {F : Nat → Prop} {a : World} (b : Nat) (hb : F b ∨ a.heap.size ≤ b) : ∀ (vs : List Value) (o : Nat) (w : World), Only F a w → Only F a (w.setCells b o vs)
  | [], _, _, h => h
  | _ :: r, o, _, h => Only.setCells b hb r (o + 1) _ (h.setCell hb _)
theorem Only.drewN {F : Nat → Prop} {a w : World} (h : Only F a w) (q : Nat) : Only F a (w.drewN q) := ⟨h.os, h.tape, h.output, h.size, h.block⟩
end Go.Proofs.Ytmbclhjhmghapaa
