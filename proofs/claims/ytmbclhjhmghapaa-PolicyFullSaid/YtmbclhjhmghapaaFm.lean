/- PolicyFull: the walk. -/
import Derived.Test.YtmbclhjhmghapaaFl
import Derived.Sort.Walk0
namespace Go.Proofs.Ytmbclhjhmghapaa
open Go.RowKit Go.Maps Go.WideMaps
theorem digits_at (w : World) (n : Int) (k : Nat) (e : n = k) (h : k < 1000) : Calls Try.prog 24 #[.int .i64 n] w fun e w' => e = .returned (.string (digS k)) ∧ Below w.heap.size w w' := by
  subst e
  exact digits_any w k (by omega) (by omega)
section
variable {R : List Asn} {I0 F0 : Nat → Prop} {w0 w : World} {sb : Nat} {S : List Prin}
theorem bare_add (h : Sta (storeA sb S :: R) I0 F0 w0 w) (k : Nat) (hk : k < 101) {S' : List Prin} {c : Int} (e : addF S (bareP (pn k)) = (S', c)) :
    Calls Try.prog 25 #[PtrTo sb, .agg #[.string (pn k), .int .i64 1, .bool false, .bool false, .slice none 0 0, .slice none 0 0, .slice none 0 0, .int .i64 0]] w fun e w' => e = .returned (.int .i64 c) ∧ Sta (storeA sb S' :: R) I0 F0 w0 w' := by
  refine (add_any (p := bareP (pn k)) (cs := [.string (pn k), .int .i64 1, .bool false, .bool false, .slice none 0 0, .slice none 0 0, .slice none 0 0, .int .i64 0]) (Sta.topers (φ := fun I w => RPrin I w _ _) (hφ := fun h hw hI => h.frame hw hI) h fun I _ _ => zeroRep1 I _ (pn k) 1 (pn_in hk) (by constructor <;> decide))).mono ?_
  rintro e1 w1 ⟨rfl, h1⟩
  rw [e] at h1 ⊢
  exact ⟨rfl, h1.drop⟩
end
set_option maxHeartbeats 4000000 in
set_option maxRecDepth 100000 in
theorem pfull_any (W : World) (n odd : Int) : Calls Try.prog 5 #[.int .i64 n, .int .i64 odd] W fun e w' => e = .returned (.bool true) ∧ Below W.heap.size W w' := by
  go_enter Try.func5, Try.ntmps5
  go_wp2_with fail
  refine (pworks_any W).mono ?_
  rintro e w1 ⟨rfl, hbw⟩
  have D1 := Lib.hid hbw
  clear hbw
  by_cases h0 : n < 0
  · go_wp2_with fail
    go_ret
    exact ⟨rfl, D1.out⟩
  by_cases h1 : 110 < n
  · go_wp2_with fail
    go_ret
    exact ⟨rfl, D1.out⟩
  by_cases h2 : odd < 0
  · go_wp2_with fail
    go_ret
    exact ⟨rfl, D1.out⟩
  by_cases h3 : 200 < odd
  · go_wp2_with fail
    go_ret
    exact ⟨rfl, D1.out⟩
  obtain ⟨N, rfl⟩ := Int.eq_ofNat_of_zero_le (Int.not_lt.1 h0)
  obtain ⟨M, rfl⟩ := Int.eq_ofNat_of_zero_le (Int.not_lt.1 h2)
  go_wp2_with fail
  refine (newStore_any ((Sta.start W).go D1.out)).mono ?_
  rintro e w3 ⟨sb, rfl, h3'⟩
  have H3 := Lib.hid h3'
  clear h3'
  go_wp2_with fail
  go_loopw [7, 8] (fun ad i wr => ∃ k a : Nat, k ≤ N ∧ a = min k 100 ∧ i = .int .i64 k ∧ ad = .int .i64 a ∧ Hid (Sta (storeA sb (full M a) :: []) (fun b => b < W.heap.size) FNone W wr)) (fun _ i _ => N - (intOf i).toNat)
  case atStart => exact ⟨0, 0, Nat.zero_le _, rfl, rfl, rfl, H3.out⟩
  case round =>
    obtain ⟨k, a, hk1, ha, rfl, rfl, hst⟩ := hrel
    by_cases hk : k < N
    · go_wp2_with fail
      refine (digits_at wr _ (idx M k) (by unfold idx; omega) (Nat.lt_trans (idx_lt ..) (by decide))).mono ?_
      rintro e w4 ⟨rfl, h4⟩
      have H4 := Lib.hid (hst.out.go h4)
      clear h4 hst
      have sz := (pn_size (idx_lt M k)).2
      have sd : (digS (idx M k)).size ≤ 3 := by
        have e : (pn (idx M k)).size = 1 + (digS (idx M k)).size := by unfold pn; rw [ByteArray.size_append]; rfl
        omega
      have pI := Lib.hid (pn_in (idx_lt M k))
      by_cases hk100 : k < 100
      · have ea : a = k := by omega
        subst ea
        clear ha
        have z1 : (a : Int) < 100 := by omega
        have z2 : decide ((a : Int) < 100) = true := decide_eq_true z1
        go_wp2_with fail
        refine (bare_add H4.out (idx M a) (idx_lt ..) (full_add hk100)).mono ?_
        rintro e w5 ⟨rfl, h⟩
        have H5 := Lib.hid h
        clear h H4
        go_wp2_with fail
        refine (pget_is H5.out (pn (idx M a)) pI.out (full_get hk100)).mono ?_
        rintro e w6 ⟨a1, c1, a2, c2, a3, c3, rfl, h⟩
        have H6 := Lib.hid (h.drop.lay [.string (pn (idx M a)), .int .i64 1, .bool false, .bool false, .slice a1 0 c1, .slice a2 0 c2, .slice a3 0 c3, .int .i64 0] 49).drop
        clear h H5
        go_wp2_with fail
        go_roundw
        case rel => exact ⟨a + 1, a + 1, by omega, by omega, by go_num, by go_num, H6.out⟩
        case measure => simp [intOf]; omega
      · have ea : a = 100 := by omega
        subst ea
        clear ha
        rcases full_more (odd := M) (i := k) with ⟨fa, p, fg⟩ | ⟨fa, fg⟩
        · have FA := Lib.hid fa
          have FG := Lib.hid fg
          clear fa fg
          go_wp2_with fail
          refine (bare_add H4.out (idx M k) (idx_lt ..) FA.out).mono ?_
          rintro e w5 ⟨rfl, h⟩
          have H5 := Lib.hid h
          clear h H4
          go_wp2_with fail
          refine (pget_is H5.out (pn (idx M k)) pI.out FG.out).mono ?_
          rintro e w6 ⟨a1, c1, a2, c2, a3, c3, rfl, h⟩
          have H6 := Lib.hid (h.drop.lay [.string p.name, .int .i64 p.ver, .bool p.tr, .bool p.se, .slice a1 p.allowed.length c1, .slice a2 p.acts.length c2, .slice a3 p.groups.length c3, .int .i64 p.life] 49).drop
          clear h H5
          go_wp2_with fail
          go_roundw
          case rel => exact ⟨k + 1, 100, by omega, by omega, by go_num, rfl, H6.out⟩
          case measure => simp [intOf]; omega
        · have FA := Lib.hid fa
          have FG := Lib.hid fg
          clear fa fg
          go_wp2_with fail
          refine (bare_add H4.out (idx M k) (idx_lt ..) FA.out).mono ?_
          rintro e w5 ⟨rfl, h⟩
          have H5 := Lib.hid h
          clear h H4
          go_wp2_with fail
          refine (pget_is H5.out (pn (idx M k)) pI.out FG.out).mono ?_
          rintro e w6 ⟨a1, c1, a2, c2, a3, c3, rfl, h⟩
          have H6 := Lib.hid (h.drop.lay [.string ⟨#[]⟩, .int .i64 0, .bool false, .bool false, .slice a1 0 c1, .slice a2 0 c2, .slice a3 0 c3, .int .i64 0] 49).drop
          clear h H5
          go_wp2_with fail
          go_roundw
          case rel => exact ⟨k + 1, 100, by omega, by omega, by go_num, rfl, H6.out⟩
          case measure => simp [intOf]; omega
    · have ek : k = N := by omega
      subst ek
      have HAD := Lib.hid ha
      clear ha
      go_wp2_with fail
      refine (pnames_any hst.out).mono ?_
      rintro e w4 ⟨v, rfl, h⟩
      obtain ⟨I, _, hr⟩ := Sta.pers h
      obtain ⟨al, cl, rfl, hlm⟩ := hr.form
      have HN := Lib.hid (full_names M a h.f1.nodupS)
      have LN : (namesF (full M a)).length = a := by rw [namesF_length, full_len]
      have H4 := Lib.hid h
      clear h hst hr
      generalize namesF (full M a) = L at *
      go_wp2_with fail
      go_loopw [14] (fun i wr => ∃ j : Nat, 1 ≤ j ∧ (j ≤ a ∨ j = 1) ∧ i = .int .i64 j ∧ Hid (Sta (rstrsA (.slice al a cl) L :: storeA sb (full M a) :: []) (fun b => b < W.heap.size) FNone W wr)) (fun i _ => a - (intOf i).toNat)
      case atStart => exact ⟨1, Nat.le_refl _, .inr rfl, rfl, LN ▸ H4.out⟩
      case round =>
        obtain ⟨j, hj1, hj2, rfl, hst⟩ := hrel
        by_cases hj : j < a
        · obtain ⟨I, _, hr⟩ := Sta.pers hst.out
          have lt1 : j - 1 < L.length := by omega
          have lt2 : j < L.length := by omega
          obtain ⟨b1, o1, ea, _, _, c1⟩ := hr.at (j - 1) lt1
          obtain ⟨b2, o2, ea2, _, _, c2⟩ := hr.at j lt2
          cases ea
          cases ea2
          have LT := Lib.hid (List.pairwise_iff_getElem.1 HN.out (j - 1) j lt1 lt2 (by omega))
          have z8 : Op.bytesLess (L[j - 1]'lt1).toList (L[j]'lt2).toList = true := by
            rw [bytesLess_eq, ByteArray.toList_eq, ByteArray.toList_eq]
            exact decide_eq_true LT.out
          clear hr
          go_wp2_with fail
          go_region
          go_wp2_with fail
          go_roundw
          case rel => exact ⟨j + 1, by omega, .inl (by omega), by go_num, hst.out.drew⟩
          case measure => simp [intOf]; omega
        · have EA := HAD.out
          have z9 : ((a : Int) == min (k : Int) 100) = true := by rw [beq_iff_eq]; omega
          clear EA
          go_wp2_with fail
          go_ret
          exact ⟨rfl, hst.out.below⟩
end Go.Proofs.Ytmbclhjhmghapaa
