/- Maps keyed by texts: what they hold, entry by entry, whatever it is. No program in sight. -/
import Derived.Test.YtmbclhjhmghapaaSep
import Derived.Maps.OwnSet
import Derived.Sort.KeysCollected
namespace Go.Proofs.Ytmbclhjhmghapaa
open Go.RowKit Go.Maps Go.WideMaps

abbrev Key := List UInt8
abbrev KV := List (Key × Value)
def lookA (M : KV) (x : Key) : Option Value := (M.find? fun p => p.1 == x).map (·.2)
def keysA (M : KV) : List Key := M.map (·.1)
def putA (M : KV) (x : Key) (v : Value) : KV := if keysA M |>.contains x then M.map (fun p => if p.1 == x then (x, v) else p) else M ++ [(x, v)]
def delA (M : KV) (x : Key) : KV := M.filter fun p => !(p.1 == x)
/-- a text as a key -/
abbrev kOf (s : ByteArray) : Key := s.data.toList
theorem kOf_inj {s t : ByteArray} (h : kOf s = kOf t) : s = t := ByteArray.ext (Array.toList_inj.mp h)

theorem lookA_none {M : KV} {x : Key} : lookA M x = none ↔ x ∉ keysA M := by
  unfold lookA keysA
  rw [Option.map_eq_none_iff, List.find?_eq_none]
  constructor
  · intro h hx
    obtain ⟨p, hp, rfl⟩ := List.mem_map.1 hx
    exact h p hp (by simp)
  · intro h p hp hpx
    exact h (List.mem_map.2 ⟨p, hp, by simpa using hpx⟩)
theorem lookA_isSome {M : KV} {x : Key} : (lookA M x).isSome = true ↔ x ∈ keysA M := by
  rw [Option.isSome_iff_ne_none, ne_eq, lookA_none, Classical.not_not]
theorem lookA_put_same (M : KV) (x : Key) (v : Value) : lookA (putA M x v) x = some v := by
  unfold putA
  split
  · rename_i h
    have hx : x ∈ keysA M := by simpa using h
    clear h
    unfold lookA
    induction M with
    | nil => simp [keysA] at hx
    | cons p M ih =>
      by_cases hp : p.1 = x
      · simp [hp]
      · have : x ∈ keysA M := by
          simp only [keysA, List.map_cons, List.mem_cons] at hx
          rcases hx with hx | hx
          · exact absurd hx.symm hp
          · exact hx
        have ih' := ih this
        simp only [List.map_cons]
        rw [List.find?_cons_of_neg (by simp [hp])]
        exact ih'
  · rename_i h
    have hx : x ∉ keysA M := by simpa using h
    unfold lookA
    have h0 : (M.find? fun p => p.1 == x) = none := by
      have := lookA_none.2 hx
      unfold lookA at this
      simpa using this
    rw [List.find?_append, h0]
    simp
theorem lookA_put_other (M : KV) {x y : Key} (v : Value) (h : y ≠ x) : lookA (putA M x v) y = lookA M y := by
  unfold putA
  split
  · unfold lookA
    congr 1
    rename_i hh
    clear hh
    induction M with
    | nil => rfl
    | cons p M ih =>
      simp only [List.map_cons]
      by_cases hp : p.1 = x
      · have e1 : ((x : Key) == y) = false := by simp [Ne.symm h]
        simp only [hp, beq_self_eq_true, if_true, List.find?_cons, e1]
        simpa using ih
      · simp only [beq_iff_eq, hp, if_false, List.find?_cons]
        cases hpy : p.1 == y
        · simpa using ih
        · rfl
  · unfold lookA
    rw [List.find?_append]
    have e1 : ((x : Key) == y) = false := by simp [Ne.symm h]
    simp [List.find?_cons, e1]
theorem keysA_put (M : KV) (x : Key) (v : Value) : keysA (putA M x v) = if (keysA M).contains x then keysA M else keysA M ++ [x] := by
  unfold putA
  split
  · simp only [keysA, List.map_map]
    refine List.map_congr_left fun p _ => ?_
    simp only [Function.comp]
    split
    · rename_i h; simpa using (beq_iff_eq.1 h).symm
    · rfl
  · simp [keysA]
theorem keysA_put_nodup {M : KV} (h : (keysA M).Nodup) (x : Key) (v : Value) : (keysA (putA M x v)).Nodup := by
  rw [keysA_put]
  split
  · exact h
  · rename_i hx
    refine List.nodup_append.2 ⟨h, by simp, fun a ha b hb e => hx ?_⟩
    rw [List.mem_singleton.1 hb] at e
    subst e
    simpa using ha
theorem lookA_del_same (M : KV) (x : Key) : lookA (delA M x) x = none := by
  rw [lookA_none]
  simp [keysA, delA]
theorem lookA_del_other (M : KV) {x y : Key} (h : y ≠ x) : lookA (delA M x) y = lookA M y := by
  unfold lookA delA
  rw [find_filter_keep]
  intro p hp
  have : p.1 = y := by simpa using hp
  simp [this, h]
theorem keysA_del_nodup {M : KV} (h : (keysA M).Nodup) (x : Key) : (keysA (delA M x)).Nodup := by
  unfold keysA delA at *
  exact h.sublist ((List.filter_sublist).map _)
theorem putA_length (M : KV) (x : Key) (v : Value) : (putA M x v).length = if (keysA M).contains x then M.length else M.length + 1 := by
  unfold putA
  split <;> simp

/-- an entry reads as what it is -/
def asIs (v : Value) : Option (DataW Value × List MemPlace) := some (.held v, [])

structure MapIs (P : Program) (k : TypeId) (w : World) (b : Nat) (M : KV) : Prop where
  own : ∃ D : DataW Value, w.ownsMap P k asIs b M.length D ∧ (∀ x, has D (.string x) = (lookA M x).isSome) ∧ ∀ x v, lookA M x = some v → ∀ z, D.atKey (.string x) z = .held v
  nodup : (keysA M).Nodup
theorem MapIs.frame {P : Program} {k : TypeId} {w w' : World} {b : Nat} {M : KV} (h : MapIs P k w b M) (hb : w'.heap[b]? = w.heap[b]?) : MapIs P k w' b M := by
  obtain ⟨⟨D, ⟨es, clock, h1, r⟩, q⟩, hn⟩ := h
  exact ⟨⟨D, ⟨es, clock, hb.trans h1, r⟩, q⟩, hn⟩
theorem MapIs.lt {P : Program} {k : TypeId} {w : World} {b : Nat} {M : KV} (h : MapIs P k w b M) : b < w.heap.size := by
  obtain ⟨⟨D, h1, _⟩, _⟩ := h
  exact h1.lt
def mapA (P : Program) (k : TypeId) (b : Nat) (M : KV) : Asn where
  at_ _ w F := MapIs P k w b M ∧ F = FOne b
  loc h _ hF _ := ⟨h.1.frame (hF b (by rw [h.2]; rfl)), h.2⟩
  lt h b' hb := by
    rw [h.2] at hb
    rw [show b' = b from hb]
    exact h.1.lt

section
variable {P : Program} {k : TypeId} {w : World} {b : Nat} {M : KV}

theorem MapIs.made (P : Program) (k : TypeId) (w : World) : MapIs P k (w.alloc (.map #[] 0)) w.heap.size [] :=
  ⟨⟨.map [], World.ownsMap_made _ _ _ _, fun _ => rfl, fun _ _ h => by cases h⟩, List.nodup_nil⟩
theorem MapIs.perm (h : MapIs P k w b M) (hk : P.underlying k = some .string) : ∃ D : DataW Value, w.ownsMap P k asIs b M.length D ∧ (keysA M).Perm (strKeys D) ∧ Maps.size D = M.length ∧ (∀ x, has D (.string x) = (lookA M x).isSome) ∧ ∀ x v, lookA M x = some v → ∀ z, D.atKey (.string x) z = .held v := by
  obtain ⟨⟨D, h1, h2, h3⟩, hn⟩ := h
  obtain ⟨es, hD, hpw, _⟩ := h1.entries (string_keyed hk)
  obtain ⟨es', hD', hko⟩ := h1.keysOf
  obtain rfl : es = es' := by rw [hD] at hD'; simpa using hD'
  subst hD
  have hp : (keysA M).Perm (strKeys (DataW.map es)) := perm_strKeys hpw (fun p hp => by obtain ⟨v, hv⟩ := hko p hp; obtain ⟨x, _, hx, _⟩ := Maps.keyOf_str hk hv; exact ⟨x, hx⟩) hn (fun x => by rw [h2 x, lookA_isSome])
  refine ⟨_, h1, hp, ?_, h2, h3⟩
  have := hp.length_eq
  simp only [strKeys, keysA, List.length_map] at this
  exact this.symm

theorem MapIs.look (h : MapIs P k w b M) (hk : P.underlying k = some .string) {t e : TypeId} (ht : P.underlying t = some (.map k e)) {z : Value} (hz : (zeroValue e).run P w = .ok z w) {s : ByteArray} (hs : s.size ≤ maxLen) :
    (Instr.lookup t (.map (some b)) (.string s) false).run P w = .ok ((lookA M (kOf s)).getD z) w ∧ (Instr.lookup t (.map (some b)) (.string s) true).run P w = .ok (.tuple #[(lookA M (kOf s)).getD z, .bool (lookA M (kOf s)).isSome]) w := by
  obtain ⟨⟨D, h1, h2, h3⟩, hn⟩ := h
  have hkey := keyOf_string_mk hk hs
  obtain ⟨v, ps, r1, r2⟩ := h1.lookup (string_keyed hk) ht hz (zd := .held z) (zp := []) rfl hkey
  obtain ⟨v', ps', r1', r2'⟩ := h1.look_ok (string_keyed hk) ht hz (zd := .held z) (zp := []) rfl hkey
  have key : D.atKey (.string (kOf s)) (.held z) = .held ((lookA M (kOf s)).getD z) := by
    cases hl : lookA M (kOf s) with
    | none =>
      have : has D (.string (kOf s)) = false := by rw [h2, hl]; rfl
      rw [atKey_of_not_has this]
      rfl
    | some u => rw [h3 _ _ hl]; rfl
  rw [key] at r2 r2'
  simp only [asIs, Option.some.injEq, Prod.mk.injEq, DataW.held.injEq] at r2 r2'
  rw [r2.1] at r1
  rw [r2'.1] at r1'
  rw [h2] at r1'
  exact ⟨r1, r1'⟩

theorem ownsMap_tight {H : Type} {R : Value → Option (DataW H × List MemPlace)} {n : Nat} {D : DataW H} (h : w.ownsMap P k R b n D) : w.ownsMap P k R b (Maps.size D) D := by
  obtain ⟨es, clock, hb, F, _, rfl⟩ := h
  refine ⟨es, clock, hb, F, ?_, rfl⟩
  simp [Maps.size, length_sorted]

theorem MapIs.store (h : MapIs P k w b M) (hk : P.underlying k = some .string) {t e : TypeId} (ht : P.underlying t = some (.map k e)) (hM : M.length < maxLen) {s : ByteArray} (hs : s.size ≤ maxLen) (v : Value) :
    ∃ w', (Instr.mapUpdate t (.map (some b)) (.string s) v).run P w = .ok () w' ∧ MapIs P k w' b (putA M (kOf s) v) ∧ w.mapTurned w' b := by
  obtain ⟨D, h1, hp, hsz, h2, h3⟩ := h.perm hk
  obtain ⟨w', r1, r2, r3⟩ := h1.store (string_keyed hk) ht hM (keyOf_string_mk hk hs) (d := .held v) (ps := []) rfl (val := v)
  have hkl : WideAt.IsKeyLit (.string (kOf s)) := (string_keyed hk).key (keyOf_string_mk hk hs)
  refine ⟨w', r1, ⟨⟨D.put (.string (kOf s)) (.held v), ?_, ?_, ?_⟩, keysA_put_nodup h.nodup _ _⟩, r3⟩
  · have ht' := ownsMap_tight r2
    have e : Maps.size (D.put (.string (kOf s)) (.held v)) = (putA M (kOf s) v).length := by
      rw [size_put (h1.tidy (string_keyed hk)), h2, putA_length, hsz]
      cases hc : (lookA M (kOf s)).isSome
      · have : kOf s ∉ keysA M := lookA_none.1 (by simpa using hc)
        simp [this]
      · have : kOf s ∈ keysA M := lookA_isSome.1 hc
        simp [this]
    rw [e] at ht'
    exact ht'
  · intro x
    by_cases hx : x = kOf s
    · subst hx
      rw [has_put_same h1.isMap hkl, lookA_put_same]; rfl
    · rw [has_put_other (fun e => hx (by injection e)), lookA_put_other _ _ hx, h2]
  · intro x u hu z
    by_cases hx : x = kOf s
    · subst hx
      rw [lookA_put_same] at hu
      rw [atKey_put_same h1.isMap hkl, ← Option.some.inj hu]
    · rw [lookA_put_other _ _ hx] at hu
      rw [atKey_put_other (fun e => hx (by injection e)), h3 _ _ hu]

theorem MapIs.len (h : MapIs P k w b M) (hk : P.underlying k = some .string) {t e : TypeId} (ht : P.underlying t = some (.map k e)) (ty : TypeId) : (Builtin.len_ #[t] ty #[.map (some b)]).run P w = .ok (.int .i64 M.length) w := by
  obtain ⟨D, h1, hp, hsz, h2, h3⟩ := h.perm hk
  rw [h1.len ht ty, hsz]

theorem MapIs.drop (h : MapIs P k w b M) (hk : P.underlying k = some .string) {t e : TypeId} (ht : P.underlying t = some (.map k e)) {s : ByteArray} (hs : s.size ≤ maxLen) (ty : TypeId) :
    ∃ w', (Builtin.delete_ #[t, k] ty #[.map (some b), .string s]).run P w = .ok (.tuple #[]) w' ∧ MapIs P k w' b (delA M (kOf s)) ∧ w.mapTurned w' b := by
  obtain ⟨D, h1, hp, hsz, h2, h3⟩ := h.perm hk
  obtain ⟨w', r1, r2, r3⟩ := h1.drop (string_keyed hk) ht (keyOf_string_mk hk hs) ty
  have h2' : ∀ x, has (D.del (.string (kOf s))) (.string x) = (lookA (delA M (kOf s)) x).isSome := by
    intro x
    by_cases hx : x = kOf s
    · subst hx
      rw [has_del_same, lookA_del_same]; rfl
    · rw [has_del_other (fun e => hx (by injection e)), lookA_del_other _ hx, h2]
  have hnd := keysA_del_nodup h.nodup (kOf s)
  refine ⟨w', r1, ⟨⟨D.del (.string (kOf s)), ?_, h2', ?_⟩, hnd⟩, r3⟩
  · have ht' := ownsMap_tight r2
    obtain ⟨es, hD, hpw, _⟩ := ht'.entries (string_keyed hk)
    obtain ⟨es', hD', hko⟩ := ht'.keysOf
    obtain rfl : es = es' := by rw [hD] at hD'; simpa using hD'
    have hp : (keysA (delA M (kOf s))).Perm (strKeys (DataW.map es)) := perm_strKeys hpw (fun p hp => by obtain ⟨v, hv⟩ := hko p hp; obtain ⟨x, _, hx, _⟩ := Maps.keyOf_str hk hv; exact ⟨x, hx⟩) hnd (fun x => by rw [← hD, h2' x, lookA_isSome])
    have e : Maps.size (D.del (.string (kOf s))) = (delA M (kOf s)).length := by
      rw [hD]
      have := hp.length_eq
      simp only [strKeys, keysA, List.length_map] at this
      exact this.symm
    rw [e] at ht'
    exact ht'
  · intro x u hu z
    by_cases hx : x = kOf s
    · subst hx
      rw [lookA_del_same] at hu
      cases hu
    · rw [lookA_del_other _ hx] at hu
      rw [atKey_del_other (fun e => hx (by injection e)), h3 _ _ hu]
end

/-! ### at the operation, for a walk -/
section
variable {P : Program} {w : World} {ops : Array Oper} {rest : List Oper} {o : Oper} {a : Act} {Q : Exit → Act → World → Prop} {b : Nat} {M : KV} {k : TypeId}

theorem wp_look (h : MapIs P k w b M) (hk : P.underlying k = some .string) (e : TypeId) (hg : o.guard = none) (m x : Operand) (t : TypeId) (hop : o.op = Op.lookup t m x false) (ht : P.underlying t = some (.map k e)) (z : Value) (hz : (zeroValue e).run P w = .ok z w)
    (hm : a.eval m = .map (some b)) (s : ByteArray) (hx : a.eval x = .string s) (hs : s.size ≤ maxLen) (hK : wpList P ops Q rest (a.put o.dst ((lookA M (kOf s)).getD z)) w) : wpList P ops Q (o :: rest) a w := by
  refine wpList_plain hg fun K' hK' => ?_
  have hrun := (h.look hk ht hz hs).1
  unfold Oper.wp
  simp [execOp, hop, hm, hx, hrun, Result.andThen]
  exact hK' _ _ hK
theorem wp_look_ok (h : MapIs P k w b M) (hk : P.underlying k = some .string) (e : TypeId) (hg : o.guard = none) (m x : Operand) (t : TypeId) (hop : o.op = Op.lookup t m x true) (ht : P.underlying t = some (.map k e)) (z : Value) (hz : (zeroValue e).run P w = .ok z w)
    (hm : a.eval m = .map (some b)) (s : ByteArray) (hx : a.eval x = .string s) (hs : s.size ≤ maxLen) (hK : wpList P ops Q rest (a.put o.dst (.tuple #[(lookA M (kOf s)).getD z, .bool (lookA M (kOf s)).isSome])) w) : wpList P ops Q (o :: rest) a w := by
  refine wpList_plain hg fun K' hK' => ?_
  have hrun := (h.look hk ht hz hs).2
  unfold Oper.wp
  simp [execOp, hop, hm, hx, hrun, Result.andThen]
  exact hK' _ _ hK
theorem wp_store (h : MapIs P k w b M) (hk : P.underlying k = some .string) (e : TypeId) (hM : M.length < maxLen) (hg : o.guard = none) (m x v : Operand) (t : TypeId) (hop : o.op = Op.mapUpdate t m x v) (ht : P.underlying t = some (.map k e))
    (hm : a.eval m = .map (some b)) (s : ByteArray) (hx : a.eval x = .string s) (hs : s.size ≤ maxLen) (u : Value) (hv : a.eval v = u)
    (hK : ∀ w', MapIs P k w' b (putA M (kOf s) u) → w.mapTurned w' b → wpList P ops Q rest (a.put o.dst undef) w') : wpList P ops Q (o :: rest) a w := by
  refine wpList_plain hg fun K' hK' => ?_
  obtain ⟨w', hrun, r1, r2⟩ := h.store hk ht hM hs u
  unfold Oper.wp
  simp [execOp, hop, hm, hx, hv, hrun, Result.andThen]
  exact hK' _ _ (hK w' r1 r2)
theorem wp_len (h : MapIs P k w b M) (hk : P.underlying k = some .string) (e : TypeId) (hg : o.guard = none) (m : Operand) (t : TypeId) (hop : o.op = Op.call { callee := Callee.builtin Builtin.len, args := #[m], argTypes := #[t] }) (ht : P.underlying t = some (.map k e))
    (hm : a.eval m = .map (some b)) (hK : wpList P ops Q rest (a.put o.dst (.int .i64 M.length)) w) : wpList P ops Q (o :: rest) a w := by
  refine wpList_plain hg fun K' hK' => ?_
  unfold Oper.wp
  simp [execOp, hop, resolve, invoke, builtin, hm, h.len hk ht o.type, Result.andThen]
  exact hK' _ _ hK
theorem wp_delete (h : MapIs P k w b M) (hk : P.underlying k = some .string) (e : TypeId) (hg : o.guard = none) (m x : Operand) (t : TypeId) (hop : o.op = Op.call { callee := Callee.builtin Builtin.delete, args := #[m, x], argTypes := #[t, k] }) (ht : P.underlying t = some (.map k e))
    (hm : a.eval m = .map (some b)) (s : ByteArray) (hx : a.eval x = .string s) (hs : s.size ≤ maxLen)
    (hK : ∀ w', MapIs P k w' b (delA M (kOf s)) → w.mapTurned w' b → wpList P ops Q rest (a.put o.dst (.tuple #[])) w') : wpList P ops Q (o :: rest) a w := by
  refine wpList_plain hg fun K' hK' => ?_
  obtain ⟨w', hrun, r1, r2⟩ := h.drop hk ht hs o.type
  unfold Oper.wp
  simp [execOp, hop, resolve, invoke, builtin, hm, hx, hrun, Result.andThen]
  exact hK' _ _ (hK w' r1 r2)
end

section
variable {R : List Asn} {I0 F0 : Nat → Prop} {w0 w w' : World} {P : Program} {k : TypeId} {b : Nat} {M M' : KV}
theorem Sta.map (h : Sta (mapA P k b M :: R) I0 F0 w0 w) : MapIs P k w b M := by
  obtain ⟨I, F, ⟨h1, _⟩, _⟩ := h.head
  exact h1
/-- one block has turned, and it is the front one's -/
theorem Sta.turned {A A' : Asn} (hA : ∀ I w F, A.at_ I w F → F = FOne b) (h : Sta (A :: R) I0 F0 w0 w) (hg : w.grownBy w' (some b)) (hA' : ∀ I, A'.at_ I w' (FOne b)) : Sta (A' :: R) I0 F0 w0 w' := by
  obtain ⟨I, F, h1, hc, hk⟩ := h.call (P' := A')
  have hF := hA _ _ _ h1
  subst hF
  refine hk w' I (FOne b) (hA' I) ⟨fun x hx => Nat.lt_of_lt_of_le (hc.old x hx) hg.size, hc.disj, fun x hx => Nat.lt_of_lt_of_le (hc.lt x hx) hg.size⟩ ⟨(Only.refl _ _).grown hg fun j hj => ?_, fun _ h => h, fun _ h => .inl h, fun _ h => .inl h⟩
  injection hj with hj
  exact .inl hj.symm
theorem Sta.mapTurn (h : Sta (mapA P k b M :: R) I0 F0 w0 w) (ht : w.mapTurned w' b) (hm : MapIs P k w' b M') : Sta (mapA P k b M' :: R) I0 F0 w0 w' :=
  Sta.turned (A := mapA P k b M) (A' := mapA P k b M') (fun _ _ _ h => h.2) h ht.grown fun _ => ⟨hm, rfl⟩
theorem Sta.layMap (h : Sta R I0 F0 w0 w) (P : Program) (k : TypeId) : Sta (mapA P k w.heap.size [] :: R) I0 F0 w0 (w.alloc (.map #[] 0)) := by
  have h0 : Sta (Asn.emp :: R) I0 F0 w0 w := h.imp fun I F ha => ⟨FNone, F, rfl, ha, Disj.none_left _, (FOr.none_left _).symm⟩
  obtain ⟨I, F, h1, hc, hk⟩ := h0.call (P' := mapA P k w.heap.size [])
  have hF : F = FNone := h1
  subst hF
  have hs : (w.alloc (.map #[] 0)).heap.size = w.heap.size + 1 := by simp
  refine hk _ I (FOne w.heap.size) ⟨MapIs.made P k w, rfl⟩ ⟨fun x hx => ?_, fun x hx hf => ?_, fun x hx => ?_⟩ ⟨(Only.refl _ _).alloc _, fun _ h => h, fun _ h => .inl h, fun x hx => .inr (by rw [show x = w.heap.size from hx]; exact Nat.le_refl _)⟩
  · have := hc.old x hx; omega
  · have := hc.old x hx; rw [show x = w.heap.size from hf] at this; omega
  · rw [show x = w.heap.size from hx]; omega
end
end Go.Proofs.Ytmbclhjhmghapaa
