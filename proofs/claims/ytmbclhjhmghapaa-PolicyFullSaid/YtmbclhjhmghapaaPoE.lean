/- legatelaw12: works. -/
import Derived.Test.YtmbclhjhmghapaaPoD
import Derived.Deep.RegionHeld3
namespace Go.Proofs.Ytmbclhjhmghapaa
open Go.RowKit Go.Maps Go.WideMaps

def nWeb : ByteArray := ⟨#[119, 101, 98]⟩
def nDb : ByteArray := ⟨#[100, 98]⟩
def pWeb : Prin := ⟨nWeb, 1, false, false, [], [], [], 0⟩
def pDb : Prin := ⟨nDb, 3, false, false, [], [], [], 0⟩
def pWeb2 : Prin := ⟨nWeb, 1, false, false, [nDb], [], [], 0⟩
theorem inWeb : InS nWeb := by show _ ≤ _; decide
theorem inDb : InS nDb := by show _ ≤ _; decide
theorem pw_add1 : addF [] pWeb = ([pWeb], 0) := addF_ok (by decide +kernel) rfl (by decide)
theorem pw_add2 : addF [pWeb] pDb = ([pWeb, pDb], 0) := addF_ok (by decide +kernel) (by rfl) (by decide)
theorem pw_contains : Lib.containsS [nDb] nDb = true := (Lib.containsS_iff _ _).2 (by simp)
theorem pw_none (x : ByteArray) : Lib.containsS [] x = false := by rfl
theorem pw_allow : hopF [pWeb, pDb] nWeb nDb (allowF nDb true) = ([pWeb2, pDb], 0) := by
  have h : findP [pWeb, pDb] nDb = some pDb := by rfl
  have h2 : findP [pWeb, pDb] nWeb = some pWeb := by rfl
  rw [hopF_some h, withF, h2]
  have hs : setF ([] : List ByteArray) nDb true = ([nDb], 0) := by simp [setF, pw_none]
  show ([pWeb, pDb].map (fun q => if kOf q.name == kOf nWeb then (allowF nDb true pWeb).1 else q), (allowF nDb true pWeb).2) = _
  have e : allowF nDb true pWeb = (pWeb2, 0) := by
    unfold allowF
    rw [show pWeb.allowed = [] from rfl, hs]
    rfl
  rw [e]
  rfl
theorem pw_may : mayF [pWeb2, pDb] nWeb nDb = (true, false) := by
  have h : findP [pWeb2, pDb] nDb = some pDb := by rfl
  have h2 : findP [pWeb2, pDb] nWeb = some pWeb2 := by rfl
  unfold mayF
  rw [h, h2]
  show (Lib.containsS [nDb] nDb, Lib.containsS [] nWeb) = _
  rw [pw_contains, pw_none]
theorem pw_key : keyF [pWeb2, pDb] nDb = (keyT nDb 3, 0) := by rfl
theorem pw_get : getF [pWeb2, pDb] nWeb = (pWeb2, 0) := by rfl
theorem pw_names : namesF [pWeb2, pDb] = [nDb, nWeb] := by
  have h : ([pWeb2, pDb].map fun p => kOf p.name).mergeSort leB = [kOf nDb, kOf nWeb] := by
    refine List.Perm.eq_of_pairwise (le := fun a b => leB a b = true) (fun a b _ _ h1 h2 => ?_) (List.pairwise_mergeSort (fun a b c h1 h2 => ?_) (fun a b => ?_) _) ?_ ((List.mergeSort_perm _ _).trans (List.Perm.swap _ _ _))
    · simp only [leB, decide_eq_true_eq] at h1 h2
      exact List.le_antisymm h1 h2
    · simp only [leB, decide_eq_true_eq] at *
      exact List.le_trans h1 h2
    · simp only [leB, Bool.or_eq_true, decide_eq_true_eq]
      exact List.le_total a b
    · simp only [List.pairwise_cons, List.mem_singleton, forall_eq, List.not_mem_nil, false_implies, implies_true, List.Pairwise.nil, and_true]
      decide +kernel
  unfold namesF
  rw [h]
  rfl
theorem refkey_any (w : World) (s : ByteArray) (n : Int) : Calls Try.prog 43 #[.string s, .int .i64 n] w fun e w' => e = .returned (.agg #[.int .i64 2, .string s, .int .i64 n, .slice none 0 0]) ∧ Below w.heap.size w w' := by
  go_enter Try.func43, Try.ntmps43
  go_wp2_with fail
  exact bodyPost_ret (v := .agg #[.int .i64 2, .string s, .int .i64 n, .slice none 0 0]) (by simp [results, Try.results43, go_sem]) rfl ⟨rfl, (Below.refl _ _).alloc (Nat.le_refl _) _⟩

section
variable {R : List Asn} {I0 F0 : Nat → Prop} {w0 w : World}

theorem pw_same (w : World) : Calls Try.prog 35 #[.agg #[.int .i64 2, .string ⟨#[100, 98]⟩, .int .i64 3, .slice none 0 0], .agg #[.int .i64 2, .string ⟨#[100, 98]⟩, .int .i64 3, .slice none 0 0]] w fun e w' => e = .returned (.bool true) ∧ Below w.heap.size w w' := by
  have h := rsame_any (keyT nDb 3) (keyT nDb 3) (fun _ => False) w _ _ (fun _ h => h.elim) (keyT_rep _ _ _ _ inDb (by constructor <;> decide)) (keyT_rep _ _ _ _ inDb (by constructor <;> decide))
  have e : sameB (keyT nDb 3) (keyT nDb 3) = true := (sameB_iff _ _).2 rfl
  rw [e] at h
  exact h
theorem keep6 {W w1 w2 : World} {a0 a1 a2 a3 a4 a5 : Addr} {v0 v1 v2 v3 v4 v5 : Value} (hb : Hid (Below w1.heap.size w1 w2)) (h : w1.cell? a0 = some v0 ∧ w1.cell? a1 = some v1 ∧ w1.cell? a2 = some v2 ∧ w1.cell? a3 = some v3 ∧ w1.cell? a4 = some v4 ∧ w1.cell? a5 = some v5 ∧ Hid (Below W.heap.size W w1)) :
    w2.cell? a0 = some v0 ∧ w2.cell? a1 = some v1 ∧ w2.cell? a2 = some v2 ∧ w2.cell? a3 = some v3 ∧ w2.cell? a4 = some v4 ∧ w2.cell? a5 = some v5 ∧ Hid (Below W.heap.size W w2) := by
  obtain ⟨h0, h1, h2, h3, h4, h5, h6⟩ := h
  exact ⟨cell_later hb.out h0, cell_later hb.out h1, cell_later hb.out h2, cell_later hb.out h3, cell_later hb.out h4, cell_later hb.out h5, h6.out.trans (hb.out.mono h6.out.size)⟩
theorem zeroRep1 (I : Nat → Prop) (w : World) (s : ByteArray) (n : Int) (hs : InS s) (hn : InI n) : RPrin I w [.string s, .int .i64 n, .bool false, .bool false, .slice none 0 0, .slice none 0 0, .slice none 0 0, .int .i64 0] ⟨s, n, false, false, [], [], [], 0⟩ :=
  ⟨_, _, _, rfl, hs, hn, (show InI 0 from by constructor <;> decide), RSl.nil _ _ _ _, RSl.nil _ _ _ _, RSl.nil _ _ _ _⟩

set_option maxHeartbeats 4000000 in
set_option maxRecDepth 100000 in
theorem pworks_any (w : World) : Calls Try.prog 22 #[] w fun e w' => e = .returned (.bool true) ∧ Below w.heap.size w w' := by
  go_enter Try.func22, Try.ntmps22
  go_wp2_with fail
  refine (newStore_any (Sta.start w)).mono ?_
  rintro e w1 ⟨sb, rfl, h1⟩
  have H1 := Lib.hid (Sta.topers (φ := fun I w => RPrin I w [.string nWeb, .int .i64 1, .bool false, .bool false, .slice none 0 0, .slice none 0 0, .slice none 0 0, .int .i64 0] pWeb) (hφ := fun h hw hI => h.frame hw hI) h1 fun I _ _ => zeroRep1 I _ nWeb 1 inWeb (by constructor <;> decide))
  clear h1
  go_wp2_with fail
  refine (add_any (p := pWeb) (cs := [.string nWeb, .int .i64 1, .bool false, .bool false, .slice none 0 0, .slice none 0 0, .slice none 0 0, .int .i64 0]) H1.out).mono ?_
  rintro e w2 ⟨rfl, h2⟩
  rw [pw_add1] at h2 ⊢
  have H2 := Lib.hid (Sta.topers (φ := fun I w => RPrin I w [.string nDb, .int .i64 3, .bool false, .bool false, .slice none 0 0, .slice none 0 0, .slice none 0 0, .int .i64 0] pDb) (hφ := fun h hw hI => h.frame hw hI) h2.drop fun I _ _ => zeroRep1 I _ nDb 3 inDb (by constructor <;> decide))
  clear h2 H1
  go_wp2_with fail
  refine (add_any (p := pDb) (cs := [.string nDb, .int .i64 3, .bool false, .bool false, .slice none 0 0, .slice none 0 0, .slice none 0 0, .int .i64 0]) H2.out).mono ?_
  rintro e w3 ⟨rfl, h3⟩
  rw [pw_add2] at h3 ⊢
  have H3 := Lib.hid h3.drop
  clear h3 H2
  go_wp2_with fail
  refine (allow_any H3.out nWeb nDb true inWeb inDb).mono ?_
  rintro e w4 ⟨rfl, h4⟩
  rw [pw_allow] at h4 ⊢
  have H4 := Lib.hid h4
  clear h4 H3
  go_wp2_with fail
  refine (may_any H4.out nWeb nDb inWeb inDb).mono ?_
  rintro e w5 ⟨rfl, hb⟩
  rw [pw_may]
  have H5 := Lib.hid (H4.out.go hb)
  clear hb H4
  go_wp2_with fail
  have pk : Calls Try.prog 33 #[PtrTo sb, .string nDb] w5 fun e w' => e = .returned (.tuple #[.agg #[.int .i64 2, .string nDb, .int .i64 3, .slice none 0 0], .int .i64 0]) ∧ Below w5.heap.size w5 w' := by
    have := pkey_any H5.out nDb inDb
    rw [pw_key] at this
    exact this
  refine pk.mono ?_
  clear pk
  rintro e w6 ⟨rfl, hb⟩
  have H6 : Hid (Sta (.blk w6.heap.size [.int .i64 2, .string nDb, .int .i64 3, .slice none 0 0] 26 :: storeA sb [pWeb2, pDb] :: []) (fun b => b < w.heap.size) FNone w (w6.alloc (.cells #[.int .i64 2, .string nDb, .int .i64 3, .slice none 0 0] 26))) := (H5.out.go hb).lay [.int .i64 2, .string nDb, .int .i64 3, .slice none 0 0] 26
  clear hb H5
  go_wp2_with fail
  have pg : ∀ wx, Sta (.blk w6.heap.size [.int .i64 2, .string nDb, .int .i64 3, .slice none 0 0] 26 :: storeA sb [pWeb2, pDb] :: []) (fun b => b < w.heap.size) FNone w wx → Calls Try.prog 26 #[PtrTo sb, .string nWeb] wx fun e w' => ∃ a1 c1 a2 c2 a3 c3, e = .returned (.tuple #[.agg #[.string nWeb, .int .i64 1, .bool false, .bool false, .slice a1 1 c1, .slice a2 0 c2, .slice a3 0 c3, .int .i64 0], .int .i64 0]) ∧
      Sta (storeA sb [pWeb2, pDb] :: .blk w6.heap.size [.int .i64 2, .string nDb, .int .i64 3, .slice none 0 0] 26 :: []) (fun b => b < w.heap.size) FNone w w' := by
    intro wx hx
    refine (get_any hx.f1 nWeb inWeb).mono ?_
    rintro e w' ⟨cs, rfl, h⟩
    rw [pw_get] at h ⊢
    obtain ⟨a1, c1, a2, c2, a3, c3, rfl⟩ := h.prinShape
    exact ⟨a1, c1, a2, c2, a3, c3, rfl, h.drop⟩
  have PG := Lib.hid (pg _ H6.out)
  clear pg
  refine PG.out.mono ?_
  rintro e w7 ⟨a1, c1, a2, c2, a3, c3, rfl, h7⟩
  have H7 : Hid (Sta (.blk w7.heap.size [.string nWeb, .int .i64 1, .bool false, .bool false, .slice a1 1 c1, .slice a2 0 c2, .slice a3 0 c3, .int .i64 0] 49 :: storeA sb [pWeb2, pDb] :: .blk w6.heap.size [.int .i64 2, .string nDb, .int .i64 3, .slice none 0 0] 26 :: []) (fun b => b < w.heap.size) FNone w (w7.alloc (.cells #[.string nWeb, .int .i64 1, .bool false, .bool false, .slice a1 1 c1, .slice a2 0 c2, .slice a3 0 c3, .int .i64 0] 49))) := h7.lay _ _
  clear h7 H6 PG
  go_wp2_with fail
  refine (pnames_any H7.out.f1).mono ?_
  rintro e w8 ⟨v, rfl, h8⟩
  rw [pw_names] at h8
  obtain ⟨I, hI, hr⟩ := Sta.pers h8
  obtain ⟨av, cv, rfl, _⟩ := hr.form
  obtain ⟨b0, o0, rfl, _, _, d0⟩ := hr.at 0 (by simp)
  have HB := Lib.hid (h8.below)
  have k0 := Sta.cell (b := w6.heap.size) (cs := [.int .i64 2, .string nDb, .int .i64 3, .slice none 0 0]) h8.f3 0 _ rfl
  have k1 := Sta.cell (b := w6.heap.size) (cs := [.int .i64 2, .string nDb, .int .i64 3, .slice none 0 0]) h8.f3 1 _ rfl
  have k2 := Sta.cell (b := w6.heap.size) (cs := [.int .i64 2, .string nDb, .int .i64 3, .slice none 0 0]) h8.f3 2 _ rfl
  have k3 := Sta.cell (b := w6.heap.size) (cs := [.int .i64 2, .string nDb, .int .i64 3, .slice none 0 0]) h8.f3 3 _ rfl
  have p0 := Sta.cell (b := w7.heap.size) (cs := [.string nWeb, .int .i64 1, .bool false, .bool false, .slice a1 1 c1, .slice a2 0 c2, .slice a3 0 c3, .int .i64 0]) h8.f2 0 _ rfl
  replace d0 : w8.cell? ⟨b0, o0, none⟩ = some (.string nDb) := d0
  clear h8 hr hI H7
  replace k1 : w8.cell? ⟨w6.heap.size, 1, none⟩ = some (.string ⟨#[100, 98]⟩) := k1
  replace d0 : w8.cell? ⟨b0, o0, none⟩ = some (.string ⟨#[100, 98]⟩) := d0
  replace p0 : w8.cell? ⟨w7.heap.size, 0, none⟩ = some (.string ⟨#[119, 101, 98]⟩) := p0
  have hl0 : (0 : Int) < 2 := by decide
  go_wp2_with fail
  (go_region_held3 (fun w'' => w''.cell? ⟨w6.heap.size, 0, none⟩ = some (.int .i64 2) ∧ w''.cell? ⟨w6.heap.size, 1, none⟩ = some (.string ⟨#[100, 98]⟩) ∧ w''.cell? ⟨w6.heap.size, 2, none⟩ = some (.int .i64 3) ∧ w''.cell? ⟨w6.heap.size, 3, none⟩ = some (.slice none 0 0) ∧ w''.cell? ⟨w7.heap.size, 0, none⟩ = some (.string ⟨#[119, 101, 98]⟩) ∧ w''.cell? ⟨b0, o0, none⟩ = some (.string ⟨#[100, 98]⟩) ∧ Hid (Below w8.heap.size w8 w''))
        (first | assumption | exact keep6 (by assumption) (by assumption) | exact ⟨k0, k1, k2, k3, p0, d0, (Below.refl _ _).drew⟩)
        (first
          | (go_at_call 43; refine (refkey_any _ _ _).mono ?_; rintro e w1 ⟨rfl, hb'⟩; have HB' := Lib.hid hb'; clear hb')
          | (go_at_call 35; refine (pw_same _).mono ?_; rintro e w1 ⟨rfl, hb'⟩; have HB' := Lib.hid hb'; clear hb')))
  rename_i hS
  have PE := Lib.hid (HB.out.trans (hS.2.2.2.2.2.2.out.mono HB.out.size))
  clear hS
  go_wp2_with fail
  go_ret
  exact ⟨rfl, PE.out⟩
end
end Go.Proofs.Ytmbclhjhmghapaa
