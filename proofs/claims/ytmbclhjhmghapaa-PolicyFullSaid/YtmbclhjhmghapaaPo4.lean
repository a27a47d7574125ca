/- Package policy: a store in memory. -/
import Derived.Test.YtmbclhjhmghapaaPo3
namespace Go.Proofs.Ytmbclhjhmghapaa
open Go.RowKit Go.Maps Go.WideMaps

structure OkP (p : Prin) : Prop where
  name : InS p.name
  allowed : p.allowed.length ≤ 50
  acts : p.acts.length ≤ 50
  groups : p.groups.length ≤ 20
  v1 : 1 ≤ p.ver
  v2 : p.ver ≤ 1000
  l1 : 0 ≤ p.life
  l2 : p.life ≤ 1099511627776
  na : p.allowed.Nodup
  nb : p.acts.Nodup
theorem nodup_of_keys {l : List ByteArray} (h : (l.map kOf).Nodup) : l.Nodup := (List.pairwise_map.1 h).imp fun h e => h (congrArg kOf e)
theorem OkP.of {p : Prin} (h : validB p = true) (hs : InS p.name) : OkP p := by
  unfold validB namesB restB namesOk at h
  simp only [Bool.and_eq_true, decide_eq_true_eq] at h
  obtain ⟨_, ⟨⟨_, n1⟩, h2⟩, ⟨⟨_, n2⟩, h3⟩, ⟨⟨⟨h4, h5⟩, h6⟩, h7⟩, h8⟩ := h
  exact ⟨hs, h2, h3, h8, h4, h5, h6, h7, nodup_of_keys n1, nodup_of_keys n2⟩

def prinCells (p : Prin) (va vb vg : Value) : List Value := [.string p.name, .int .i64 p.ver, .bool p.tr, .bool p.se, va, vb, vg, .int .i64 p.life]
def prinX (b : Nat) (p : Prin) (va vb vg : Value) : List Asn := [.blk b (prinCells p va vb vg) 49, strA va p.allowed, strA vb p.acts, intA vg p.groups, .pure (OkP p)]
def prinA (b : Nat) (p : Prin) : Asn := .ex fun va => .ex fun vb => .ex fun vg => .stars (prinX b p va vb vg)

abbrev PtrTo (b : Nat) : Value := .pointer (some ⟨b, 0, none⟩)
def kvP (zs : List (Nat × Prin)) : KV := zs.map fun z => (kOf z.2.name, PtrTo z.1)
def starsP (zs : List (Nat × Prin)) : Asn := .stars (zs.map fun z => prinA z.1 z.2)
def storeX (sb mb : Nat) (zs : List (Nat × Prin)) : List Asn := [.blk sb [.map (some mb)] 88, mapA Try.prog 9 mb (kvP zs), starsP zs]
/-- a store of principals, in the order in which they came -/
def storeA (sb : Nat) (S : List Prin) : Asn := .ex fun mb => .ex fun zs => .star (.pure (zs.map (·.2) = S ∧ S.length ≤ 100)) (.stars (storeX sb mb zs))

def findP (S : List Prin) (s : ByteArray) : Option Prin := S.find? fun p => kOf p.name == kOf s
def findZ (zs : List (Nat × Prin)) (s : ByteArray) : Option (Nat × Prin) := zs.find? fun z => kOf z.2.name == kOf s
theorem findP_zs (zs : List (Nat × Prin)) (s : ByteArray) : findP (zs.map (·.2)) s = (findZ zs s).map (·.2) := by
  unfold findP findZ
  rw [List.find?_map]
  rfl
theorem look_kvP (zs : List (Nat × Prin)) (s : ByteArray) : lookA (kvP zs) (kOf s) = (findZ zs s).map fun z => PtrTo z.1 := by
  unfold lookA kvP findZ
  rw [List.find?_map, Option.map_map]
  rfl
theorem keysA_kvP (zs : List (Nat × Prin)) : keysA (kvP zs) = zs.map fun z => kOf z.2.name := by
  simp [keysA, kvP]

section
variable {R : List Asn} {I0 F0 : Nat → Prop} {w0 w : World} {sb : Nat} {S : List Prin}

theorem Sta.openStore (h : Sta (storeA sb S :: R) I0 F0 w0 w) : ∃ mb zs, zs.map (·.2) = S ∧ S.length ≤ 100 ∧ Sta (storeX sb mb zs ++ R) I0 F0 w0 w := by
  obtain ⟨mb, h⟩ := h.unex
  obtain ⟨zs, h⟩ := h.unex
  have h := h.un
  obtain ⟨h1, h2⟩ := h.pure
  exact ⟨mb, zs, h1, h2, h.drop.unl⟩
theorem Sta.shutStore {mb : Nat} {zs : List (Nat × Prin)} (h : Sta (storeX sb mb zs ++ R) I0 F0 w0 w) (h1 : zs.map (·.2) = S) (h2 : S.length ≤ 100) : Sta (storeA sb S :: R) I0 F0 w0 w := by
  refine Sta.toex (P := fun mb => .ex fun zs => .star (.pure (zs.map (·.2) = S ∧ S.length ≤ 100)) (.stars (storeX sb mb zs))) mb ?_
  refine Sta.toex (P := fun zs => .star (.pure (zs.map (·.2) = S ∧ S.length ≤ 100)) (.stars (storeX sb mb zs))) zs ?_
  exact (h.lun.topure ⟨h1, h2⟩).two

/-- all but one principal of a store -/
def storeO (sb : Nat) (S1 : List Prin) (b : Nat) (p : Prin) (S2 : List Prin) : Asn :=
  .ex fun mb => .ex fun zs1 => .ex fun zs2 => .star (.pure (zs1.map (·.2) = S1 ∧ zs2.map (·.2) = S2 ∧ S1.length + S2.length < 100))
    (.stars [.blk sb [.map (some mb)] 88, mapA Try.prog 9 mb (kvP (zs1 ++ (b, p) :: zs2)), starsP zs1, starsP zs2])

theorem starsP_mid (zs1 zs2 : List (Nat × Prin)) (b : Nat) (p : Prin) (I F : Nat → Prop) : (starsP (zs1 ++ (b, p) :: zs2)).at_ I w F ↔ (Asn.stars [prinA b p, starsP zs1, starsP zs2]).at_ I w F := by
  unfold starsP
  rw [List.map_append, stars_append]
  constructor
  · intro h
    have h : (Asn.star (Asn.stars (zs1.map fun z => prinA z.1 z.2)) (Asn.star (prinA b p) (Asn.stars (zs2.map fun z => prinA z.1 z.2)))).at_ I w F := h
    refine star_mono (P := prinA b p) (fun _ h => h) (fun F h => ?_) (star_swap h)
    refine star_mono (P := Asn.stars _) (fun _ h => h) (fun F h => ?_) h
    exact ⟨F, FNone, h, rfl, Disj.none_right _, (FOr.none_right _).symm⟩
  · intro h
    have h : (Asn.star (prinA b p) (Asn.star (Asn.stars (zs1.map fun z => prinA z.1 z.2)) (Asn.star (Asn.stars (zs2.map fun z => prinA z.1 z.2)) Asn.emp))).at_ I w F := h
    refine star_swap ?_
    refine star_mono (P := prinA b p) (fun _ h => h) (fun F h => ?_) h
    refine star_mono (P := Asn.stars _) (fun _ h => h) (fun F h => ?_) h
    obtain ⟨F1, F2, h1, h2, hd, rfl⟩ := h
    rw [show F2 = FNone from h2, FOr.none_right]
    exact h1

theorem findZ_split {zs : List (Nat × Prin)} {s : ByteArray} {z : Nat × Prin} (h : findZ zs s = some z) : kOf z.2.name = kOf s ∧ ∃ zs1 zs2, zs = zs1 ++ z :: zs2 := by
  obtain ⟨h1, l1, l2, e, _⟩ := List.find?_eq_some_iff_append.1 h
  exact ⟨by simpa using h1, l1, l2, e⟩

/-- one of a store's principals, taken out -/
theorem Sta.takeP {s : ByteArray} {p : Prin} (h : Sta (storeA sb S :: R) I0 F0 w0 w) (hf : findP S s = some p) :
    ∃ b S1 S2, S = S1 ++ p :: S2 ∧ p.name = s ∧ Sta (prinA b p :: storeO sb S1 b p S2 :: R) I0 F0 w0 w ∧ ∃ mb zs, w.cell? ⟨sb, 0, none⟩ = some (.map (some mb)) ∧ MapIs Try.prog 9 w mb (kvP zs) ∧ lookA (kvP zs) (kOf s) = some (PtrTo b) := by
  obtain ⟨mb, zs, h1, h2, hx⟩ := h.openStore
  clear h
  subst h1
  have h := hx
  clear hx
  rw [findP_zs] at hf
  obtain ⟨z, hz, rfl⟩ := Option.map_eq_some_iff.1 hf
  obtain ⟨hk, zs1, zs2, e⟩ := findZ_split hz
  obtain ⟨b, p⟩ := z
  have hl : lookA (kvP zs) (kOf s) = some (PtrTo b) := by rw [look_kvP, hz]; rfl
  have hc : w.cell? ⟨sb, 0, none⟩ = some (.map (some mb)) := Sta.cell (b := sb) (cs := [.map (some mb)]) h 0 _ rfl
  have hm : MapIs Try.prog 9 w mb (kvP zs) := Sta.map (b := mb) h.f1
  refine ⟨b, zs1.map (·.2), zs2.map (·.2), by rw [e]; simp, kOf_inj hk, ?_, mb, zs, hc, hm, hl⟩
  rw [e] at h h2
  have h3 : Sta (starsP (zs1 ++ (b, p) :: zs2) :: .blk sb [.map (some mb)] 88 :: mapA Try.prog 9 mb (kvP (zs1 ++ (b, p) :: zs2)) :: R) I0 F0 w0 w := h.f2
  have h4 : Sta (prinA b p :: starsP zs1 :: starsP zs2 :: .blk sb [.map (some mb)] 88 :: mapA Try.prog 9 mb (kvP (zs1 ++ (b, p) :: zs2)) :: R) I0 F0 w0 w :=
    (h3.imp0 fun I F ha => (starsP_mid zs1 zs2 b p I F).1 ha).unl
  have h5 : Sta ([.blk sb [.map (some mb)] 88, mapA Try.prog 9 mb (kvP (zs1 ++ (b, p) :: zs2)), starsP zs1, starsP zs2] ++ (prinA b p :: R)) I0 F0 w0 w := h4.f2.f2.f4.f4
  have h6 := (h5.lun.topure (p := zs1.map (·.2) = zs1.map (·.2) ∧ zs2.map (·.2) = zs2.map (·.2) ∧ (zs1.map (·.2)).length + (zs2.map (·.2)).length < 100) ⟨rfl, rfl, by simp at h2 ⊢; omega⟩).two
  exact (Sta.toex (P := fun mb => .ex fun (zs1' : List (Nat × Prin)) => .ex fun (zs2' : List (Nat × Prin)) => .star (.pure (zs1'.map (·.2) = zs1.map (·.2) ∧ zs2'.map (·.2) = zs2.map (·.2) ∧ (zs1.map (·.2)).length + (zs2.map (·.2)).length < 100))
    (.stars [.blk sb [.map (some mb)] 88, mapA Try.prog 9 mb (kvP (zs1' ++ (b, p) :: zs2')), starsP zs1', starsP zs2'])) mb (Sta.toex (P := fun (zs1' : List (Nat × Prin)) => .ex fun (zs2' : List (Nat × Prin)) => .star (.pure (zs1'.map (·.2) = zs1.map (·.2) ∧ zs2'.map (·.2) = zs2.map (·.2) ∧ (zs1.map (·.2)).length + (zs2.map (·.2)).length < 100))
    (.stars [.blk sb [.map (some mb)] 88, mapA Try.prog 9 mb (kvP (zs1' ++ (b, p) :: zs2')), starsP zs1', starsP zs2'])) zs1 (Sta.toex (P := fun (zs2' : List (Nat × Prin)) => .star (.pure (zs1.map (·.2) = zs1.map (·.2) ∧ zs2'.map (·.2) = zs2.map (·.2) ∧ (zs1.map (·.2)).length + (zs2.map (·.2)).length < 100))
    (.stars [.blk sb [.map (some mb)] 88, mapA Try.prog 9 mb (kvP (zs1 ++ (b, p) :: zs2')), starsP zs1, starsP zs2'])) zs2 h6))).f1

/-- .. put back, turned -/
theorem Sta.putP {b : Nat} {p p' : Prin} {S1 S2 : List Prin} (h : Sta (prinA b p' :: storeO sb S1 b p S2 :: R) I0 F0 w0 w) (hn : p'.name = p.name) : Sta (storeA sb (S1 ++ p' :: S2) :: R) I0 F0 w0 w := by
  obtain ⟨mb, h⟩ := h.f1.unex
  obtain ⟨zs1, h⟩ := h.unex
  obtain ⟨zs2, h⟩ := h.unex
  have h := h.un
  obtain ⟨rfl, rfl, h3⟩ := h.pure
  have h := h.drop.unl
  have h : Sta (.blk sb [.map (some mb)] 88 :: mapA Try.prog 9 mb (kvP (zs1 ++ (b, p) :: zs2)) :: starsP zs1 :: starsP zs2 :: prinA b p' :: R) I0 F0 w0 w := h
  have hk : kvP (zs1 ++ (b, p) :: zs2) = kvP (zs1 ++ (b, p') :: zs2) := by simp [kvP, hn]
  rw [hk] at h
  have h4 : Sta ([prinA b p', starsP zs1, starsP zs2] ++ (.blk sb [.map (some mb)] 88 :: mapA Try.prog 9 mb (kvP (zs1 ++ (b, p') :: zs2)) :: R)) I0 F0 w0 w := h.f3.f3.f4
  have h5 := h4.lun.imp0 (P' := starsP (zs1 ++ (b, p') :: zs2)) fun I F ha => (starsP_mid zs1 zs2 b p' I F).2 ha
  refine Sta.shutStore (mb := mb) (zs := zs1 ++ (b, p') :: zs2) h5.f2.f2 (by simp) (by simp at h3 ⊢; omega)

/-- what a look-up in a store's map gives -/
theorem Sta.noneP {s : ByteArray} (h : Sta (storeA sb S :: R) I0 F0 w0 w) (hf : findP S s = none) : ∃ mb zs, w.cell? ⟨sb, 0, none⟩ = some (.map (some mb)) ∧ MapIs Try.prog 9 w mb (kvP zs) ∧ lookA (kvP zs) (kOf s) = none := by
  obtain ⟨mb, zs, h1, h2, hx⟩ := h.openStore
  clear h
  subst h1
  have h := hx
  clear hx
  rw [findP_zs] at hf
  have hz : findZ zs s = none := by simpa using hf
  exact ⟨mb, zs, Sta.cell (b := sb) (cs := [.map (some mb)]) h 0 _ rfl, Sta.map (b := mb) h.f1, by rw [look_kvP, hz]; rfl⟩
theorem zeroPP (w : World) : (zeroValue 91).run Try.prog w = .ok (.pointer none) w := by kernel_rfl
end
end Go.Proofs.Ytmbclhjhmghapaa
