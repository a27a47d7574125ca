/- Package policy: Names. -/
import Derived.Test.YtmbclhjhmghapaaPoC
import Derived.Test.YtmbclhjhmghapaaIter
namespace Go.Proofs.Ytmbclhjhmghapaa
open Go.RowKit Go.Maps Go.WideMaps Go.Sort Go.Shelf

def rstrsA (v : Value) (l : List ByteArray) : Asn := .pers (fun I w => RStrs I w v l) fun h hw hI => RStrs.frame h hw hI
def textOf (k : Key) : ByteArray := ⟨k.toArray⟩
/-- all names, sorted -/
def namesF (S : List Prin) : List ByteArray := ((S.map fun p => kOf p.name).mergeSort leB).map textOf
theorem namesF_length (S : List Prin) : (namesF S).length = S.length := by simp [namesF]
theorem namesF_mem {S : List Prin} {s : ByteArray} : s ∈ namesF S ↔ ∃ p ∈ S, p.name = s := by
  unfold namesF
  rw [List.mem_map]
  constructor
  · rintro ⟨k, hk, rfl⟩
    obtain ⟨p, hp, rfl⟩ := List.mem_map.1 ((List.mergeSort_perm _ _).mem_iff.1 hk)
    exact ⟨p, hp, by simp [textOf, kOf]⟩
  · rintro ⟨p, hp, rfl⟩
    exact ⟨kOf p.name, (List.mergeSort_perm _ _).mem_iff.2 (List.mem_map.2 ⟨p, hp, rfl⟩), by simp [textOf, kOf]⟩

section
variable {R : List Asn} {I0 F0 : Nat → Prop} {w0 w : World} {sb : Nat} {S : List Prin}

theorem find_self {S : List Prin} (h : (S.map fun q => kOf q.name).Nodup) {p : Prin} (hp : p ∈ S) : findP S p.name = some p := by
  unfold findP
  induction S with
  | nil => cases hp
  | cons q S ih =>
    rw [List.map_cons, List.nodup_cons] at h
    rcases List.mem_cons.1 hp with rfl | hp
    · simp
    · rw [List.find?_cons_of_neg]
      · exact ih h.2 hp
      · intro e
        exact h.1 (List.mem_map.2 ⟨p, hp, (beq_iff_eq.1 e).symm⟩)
theorem Sta.okS (h : Sta (storeA sb S :: R) I0 F0 w0 w) : ∀ p ∈ S, OkP p := by
  intro p hp
  obtain ⟨b, S1, S2, _, _, h1, _⟩ := h.takeP (find_self h.nodupS hp)
  obtain ⟨va, vb, vg, h2⟩ := h1.openP
  exact Sta.okP h2
theorem Sta.lenS (h : Sta (storeA sb S :: R) I0 F0 w0 w) : S.length ≤ 100 := by
  obtain ⟨mb, zs, _, h2, _⟩ := h.openStore
  exact h2

def NamesPost (R : List Asn) (I0 F0 : Nat → Prop) (w0 : World) (sb : Nat) (S : List Prin) (e : Ending) (w' : World) : Prop :=
  ∃ v, e = .returned v ∧ Sta (rstrsA v (namesF S) :: storeA sb S :: R) I0 F0 w0 w'

set_option maxHeartbeats 1000000 in
set_option maxRecDepth 100000 in
theorem pnames_any (h : Sta (storeA sb S :: R) I0 F0 w0 w) : Calls Try.prog 27 #[PtrTo sb] w (NamesPost R I0 F0 w0 sb S) := by
  have H := Lib.hid h
  have HO := Lib.hid h.okS
  have HLN := Lib.hid h.lenS
  obtain ⟨mb, zs, e1, h2, hx⟩ := h.openStore
  have hc := Sta.cell (b := sb) (cs := [.map (some mb)]) hx 0 _ rfl
  obtain ⟨D, hD, hperm, hsz, _⟩ := (Sta.map (b := mb) hx.f1).perm Try.underlying9
  have HD := Lib.hid hD
  have HP : Hid (∀ ss : List Key, ss.Perm (strKeys D) → ss.mergeSort leB = (S.map fun p => kOf p.name).mergeSort leB) := by
    intro ss hs
    refine mergeSort_of_perm (hs.trans (hperm.symm.trans ?_))
    rw [keysA_kvP, ← e1, List.map_map]
    exact .refl _
  have hmax : Maps.size D ≤ maxLen := by rw [hsz]; have : (kvP zs).length = S.length := by rw [← e1]; simp [kvP]
                                         unfold maxLen; omega
  have hby : Maps.size D * 16 ≤ 140737488355328 := by rw [hsz]; have : (kvP zs).length = S.length := by rw [← e1]; simp [kvP]
                                                      omega
  have HM := Lib.hid hmax
  have HB := Lib.hid hby
  clear h hx hD hperm hsz hmax hby e1 h2
  refine (callsIn_wide (n := 6)).1 ?_
  have hfK : Fence.wide.fn 47 := trivial
  have hfS : Fence.wide.fn 46 := trivial
  refine callsIn_of_wp Try.func27 rfl trivial ?_ rfl
  simp only [Try.ntmps27, List.size_toArray, List.length_cons, List.length_nil, Nat.reduceAdd, Nat.reduceSub, Array.replicate_succ, Array.replicate_zero, List.push_toArray, List.append_toArray, List.nil_append, List.cons_append]
  gi_wp2_with (first
    | (gi_at_call 47; refine (Try.maps_Keys_47 _ _).mono ?_; rintro e w' ⟨rfl, rfl⟩)
    | (gi_at_call 46; refine (Try.slices_Sorted_keys_46_47 mb _ D asIs w HD.out HM.out HB.out).mono ?_; rintro e w' ⟨v, ss, rfl, hS, hrow, hnil, hb⟩))
  go_ret
  have hms := HP.out ss hS
  have hlen : ss.length = (namesF S).length := by rw [namesF_length]; have := congrArg List.length hms; simpa using this
  have hcs : (ss.mergeSort (fun x y => decide (x ≤ y))).map encStr = (namesF S).map Value.string := by
    unfold namesF
    rw [show ss.mergeSort (fun x y => decide (x ≤ y)) = (S.map fun p => kOf p.name).mergeSort leB from hms, List.map_map]
    rfl
  rw [hlen, hcs] at hrow
  have hin : ∀ s ∈ namesF S, InS s := fun s hs => by
    obtain ⟨p, hp, rfl⟩ := namesF_mem.1 hs
    exact (HO.out p hp).name
  obtain ⟨ho, hn⟩ := own_one (f := Value.string) (R := isStr) hrow (fun x hx => ⟨rfl, hin x hx⟩)
  refine ⟨v, rfl, ?_⟩
  have hsz : (w.alloc (.cells #[.map (some mb)] 86)).heap.size = w.heap.size + 1 := by simp
  refine Sta.gain (w := w.alloc (.cells #[.map (some mb)] 86)) (H.out.alloc _) hb fun I hI hnew => ?_
  exact (OwnSl.strs ho (by rw [namesF_length]; have := HLN.out; omega)).frame (fun _ _ => rfl) fun k hk => hnew k (hn k hk) (ho.lt k hk)
end
end Go.Proofs.Ytmbclhjhmghapaa
