/- Package policy: names. -/
import Derived.Test.YtmbclhjhmghapaaPn
import Derived.Test.YtmbclhjhmghapaaMp
namespace Go.Proofs.Ytmbclhjhmghapaa
open Go.RowKit Go.Maps Go.WideMaps

theorem maxLen_le : (9223372036854775807 : Nat) ≤ maxLen := by decide
theorem key_fits {s : ByteArray} (h : InS s) : s.size ≤ maxLen := Nat.le_trans h (Nat.le_trans (by decide) maxLen_le)

def namesOk (l : List ByteArray) : Bool := l.all nameB && decide ((l.map kOf).Nodup)
def namesB (l : List ByteArray) : Bool := namesOk l && decide (l.length ≤ 50)
def metKV (l : List ByteArray) : KV := l.map fun s => (kOf s, .bool true)
theorem keysA_met (l : List ByteArray) : keysA (metKV l) = l.map kOf := by simp [keysA, metKV]
theorem lookA_met (l : List ByteArray) (x : Key) : (lookA (metKV l) x).getD (.bool false) = .bool (decide (x ∈ l.map kOf)) := by
  cases h : lookA (metKV l) x with
  | none =>
    have := lookA_none.1 h
    rw [keysA_met] at this
    simp [this]
  | some v =>
    have hm : x ∈ keysA (metKV l) := lookA_isSome.1 (by rw [h]; rfl)
    rw [keysA_met] at hm
    have hv : v = .bool true := by
      unfold lookA at h
      obtain ⟨p, hp, rfl⟩ := Option.map_eq_some_iff.1 h
      have := List.mem_of_find?_eq_some hp
      unfold metKV at this
      obtain ⟨s, _, rfl⟩ := List.mem_map.1 this
      rfl
    simp [hv, hm]
theorem putA_met (l : List ByteArray) (s : ByteArray) (h : kOf s ∉ l.map kOf) : putA (metKV l) (kOf s) (.bool true) = metKV (l ++ [s]) := by
  unfold putA
  rw [keysA_met]
  simp [h, metKV]
theorem namesOk_step {l : List ByteArray} {k : Nat} (hk : k < l.length) : namesOk (l.take (k + 1)) = (namesOk (l.take k) && (nameB l[k] && decide (kOf l[k] ∉ (l.take k).map kOf))) := by
  rw [List.take_succ_eq_append_getElem hk]
  unfold namesOk
  rw [List.all_append, List.map_append]
  have : decide ((List.map kOf (l.take k) ++ List.map kOf [l[k]]).Nodup) = (decide ((List.map kOf (l.take k)).Nodup) && decide (kOf l[k] ∉ (l.take k).map kOf)) := by
    rw [← Bool.decide_and, decide_eq_decide, List.nodup_append]
    constructor
    · rintro ⟨h1, _, h3⟩
      exact ⟨h1, fun hm => h3 _ hm _ (by simp) rfl⟩
    · rintro ⟨h1, h2⟩
      refine ⟨h1, by simp, ?_⟩
      intro a ha b hb e
      simp only [List.map_cons, List.map_nil, List.mem_singleton] at hb
      subst hb
      exact h2 (e ▸ ha)
  rw [this]
  simp only [List.all_cons, List.all_nil, Bool.and_true]
  cases (l.take k).all nameB <;> cases nameB l[k] <;> simp
theorem namesOk_bad {l : List ByteArray} {k : Nat} (hk : k < l.length) (h : namesOk (l.take (k + 1)) = false) : namesB l = false := by
  have : namesOk l = false := by
    cases hn : namesOk l with
    | false => rfl
    | true =>
      unfold namesOk at hn h
      simp only [Bool.and_eq_true, List.all_eq_true, decide_eq_true_eq] at hn
      have h1 : (l.take (k + 1)).all nameB = true := List.all_eq_true.2 fun x hx => hn.1 x (List.mem_of_mem_take hx)
      have h2 : ((l.take (k + 1)).map kOf).Nodup := hn.2.sublist ((List.take_sublist _ _).map _)
      rw [h1, decide_eq_true h2] at h
      cases h
  rw [namesB, this]
  rfl

theorem zeroB (w : World) : (zeroValue 4).run Try.prog w = .ok (.bool false) w := by kernel_rfl

theorem RStrs.at {I : Nat → Prop} {w : World} {a : Option Addr} {n cap : Nat} {l : List ByteArray} (h : RStrs I w (.slice a n cap) l) (i : Nat) (hi : i < l.length) :
    ∃ b o, a = some ⟨b, o, none⟩ ∧ I b ∧ InS l[i] ∧ w.cell? ⟨b, o + i, none⟩ = some (.string l[i]) := by
  obtain ⟨b, o, rfl, hb, hc⟩ := h.pos (by omega)
  obtain ⟨a', cap', f, e, hs, hr⟩ := h
  refine ⟨b, o, rfl, hb, (hr i hi).2, ?_⟩
  rw [hc i hi, List.getD_eq_getElem?_getD, List.getElem?_eq_getElem hi]
  rfl

set_option maxHeartbeats 1000000 in
set_option maxRecDepth 100000 in
theorem names_any (I : Nat → Prop) (w : World) (v : Value) (l : List ByteArray) (hI : Old I w) (h : RStrs I w v l) :
    Calls Try.prog 65 #[v] w fun e w' => e = .returned (.bool (namesB l)) ∧ Below w.heap.size w w' := by
  obtain ⟨a, cap, rfl, hl⟩ := h.form
  have H := Lib.hid h
  have HI := Lib.hid hI
  clear h hI
  have hmm := @run_makeMap Try.prog
  go_enter Try.func65, Try.ntmps65
  go_wp2_with fail
  go_loopw [9] (fun i wr => ∃ k : Nat, k ≤ l.length ∧ i = .int .i64 k ∧ Hid (namesOk (l.take k) = true) ∧ Hid (MapIs Try.prog 9 wr w.heap.size (metKV (l.take k))) ∧ Hid (Below w.heap.size w wr)) (fun i _ => l.length - (intOf i).toNat)
  case atStart => exact ⟨0, Nat.zero_le _, rfl, rfl, MapIs.made _ _ _, (Below.refl _ _).alloc (Nat.le_refl _) _⟩
  case round =>
    obtain ⟨k, hk1, rfl, hn, hm, hb⟩ := hrel
    by_cases h1 : k < l.length
    · obtain ⟨b, o, rfl, hbI, hs, hc⟩ := (H.out.on HI.out hb.out).at k h1
      have hbr : b < wr.heap.size := Nat.lt_of_lt_of_le (HI.out b hbI) hb.out.size
      have HS := Lib.hid (namesOk_step h1)
      have HB := Lib.hid (fun h => namesOk_bad (l := l) h1 h)
      have HT := Lib.hid (List.take_succ_eq_append_getElem h1)
      have HKS := Lib.hid hs
      clear hs
      have HL := Lib.hid (lookA_met (l.take k) (kOf l[k]))
      have HLM : Hid ((metKV (l.take k)).length = k) := by show _ = _; simp [metKV]; omega
      go_wp2_with fail
      refine (name_any _ _ HKS.out).mono ?_
      rintro e w' ⟨rfl, rfl⟩
      cases hnb : nameB l[k] with
      | false =>
        have HNB := Lib.hid hnb
        clear hnb
        go_wp2_with fail
        go_ret
        exact ⟨ret_bool (HB.out (by rw [HS.out, HNB.out]; simp)).symm, hb.out⟩
      | true =>
        have HNB := Lib.hid hnb
        clear hnb
        by_cases hmem : kOf l[k] ∈ (l.take k).map kOf
        · have hlk : (Instr.lookup 121 (.map (some w.heap.size)) (.string l[k]) false).run Try.prog wr = .ok (.bool true) wr := by
            have := (hm.out.look Try.underlying9 Try.underlying121 (zeroB wr) (key_fits HKS.out)).1
            rw [this, HL.out, decide_eq_true hmem]
          have HMM := Lib.hid hmem
          clear hmem
          go_wp2_with fail
          go_ret
          exact ⟨ret_bool (HB.out (by rw [HS.out, decide_eq_false (fun h => h HMM.out)]; simp)).symm, hb.out⟩
        · have hlk : (Instr.lookup 121 (.map (some w.heap.size)) (.string l[k]) false).run Try.prog wr = .ok (.bool false) wr := by
            have := (hm.out.look Try.underlying9 Try.underlying121 (zeroB wr) (key_fits HKS.out)).1
            rw [this, HL.out, decide_eq_false hmem]
          have HMM := Lib.hid hmem
          clear hmem
          go_wp2_with (at_mapUpdate; refine wp_store hm.out Try.underlying9 4 (by rw [HLM.out]; exact Nat.lt_of_lt_of_le (by omega) maxLen_le) rfl _ _ _ 121 rfl Try.underlying121 rfl l[k] rfl (key_fits HKS.out) (.bool true) rfl ?_; intro w1 hm1 ht1)
          have HM1 := Lib.hid hm1
          have HT1 := Lib.hid ht1
          clear hm1 ht1
          go_wp2_with fail
          go_roundw
          case rel =>
            refine ⟨k + 1, by omega, by go_num, ?_, ?_, ?_⟩
            · show _ = _
              rw [HS.out, hn.out, HNB.out, decide_eq_true HMM.out]
              rfl
            · show MapIs _ _ _ _ _
              rw [HT.out, ← putA_met _ _ HMM.out]
              exact HM1.out
            · exact hb.out.grown HT1.out.grown hb.out.size (fun j hj => by cases hj; exact Nat.le_refl _)
          case measure => simp [intOf]; omega
    · have hk : k = l.length := by omega
      have HN := Lib.hid hn.out
      clear hn
      have E : Hid (namesB l = decide (l.length ≤ 50)) := by
        show _ = _
        have := HN.out
        rw [List.take_of_length_le (by omega)] at this
        rw [namesB, this]
        rfl
      clear hk
      go_wp2_with fail
      go_ret
      exact ⟨ret_bool (by rw [E.out, decide_eq_decide]; omega), hb.out⟩
end Go.Proofs.Ytmbclhjhmghapaa
