/- works: the document's example. -/
import Derived.Test.YtmbclhjhmghapaaSt
import Derived.Test.YtmbclhjhmghapaaAct
namespace Go.Proofs.Ytmbclhjhmghapaa
open Go.RowKit

def sA : ByteArray := ⟨#[97]⟩
def sB : ByteArray := ⟨#[98]⟩
theorem sAB : sA ≠ sB := by
  intro h
  have : sA.data = sB.data := by rw [h]
  simp [sA, sB] at this
theorem same_self (t : Tm) : sameB t t = true := (sameB_iff t t).2 rfl
theorem sameAB : sameB (ofT sA) (ofT sB) = false := by
  rw [← Bool.not_eq_true, sameB_iff]
  intro h
  injection h with _ h
  exact sAB h

theorem w1 : putL 1 [] (ofT sA) 5 0 = (0, [(ofT sA, 5)]) := by simp [putL, hasF, liveF]
theorem w2 : putL 1 [(ofT sA, 5)] (ofT sA) 9 4 = (52, [(ofT sA, 5)]) := by simp [putL, hasF, hitF, same_self]
theorem w3 : putL 1 [(ofT sA, 5)] (ofT sB) 9 4 = (53, [(ofT sA, 5)]) := by simp [putL, hasF, hitF, sameAB, liveF]
theorem w4 : putL 1 [(ofT sA, 5)] (ofT sB) 9 5 = (0, [(ofT sB, 9)]) := by simp [putL, hasF, hitF, sameAB, liveF]
theorem w5 : hasF [(ofT sB, 9)] (ofT sB) 8 = true := by simp [hasF, hitF, same_self]
theorem w6 : lenF [(ofT sB, 9)] 8 = 1 := by simp [lenF]

/-- one cache alone, laid over a world -/
structure One (W w : World) (g : Nat) (room : Int) (l : List (Tm × Int)) : Prop where
  pre : ∃ v, CacheP (fun _ => False) w g room v l ∧ W.heap.size ≤ g ∧ (∀ k, v.ownBlock = some k → W.heap.size ≤ k) ∧ Below W.heap.size W w
theorem none_old (w : World) : Old (fun _ => False) w := fun _ h => h.elim
theorem One.on {W w w' : World} {g : Nat} {room : Int} {l : List (Tm × Int)} (h : One W w g room l) (hb : Below w.heap.size w w') : One W w' g room l := by
  obtain ⟨v, h1, h2, h3, h4⟩ := h
  exact ⟨v, h1.on (none_old w) hb, h2, h3, h4.trans (hb.mono h4.size)⟩
theorem One.below {W w : World} {g : Nat} {room : Int} {l : List (Tm × Int)} (h : One W w g room l) : Below W.heap.size W w := by
  obtain ⟨v, h1, h2, h3, h4⟩ := h
  exact h4
theorem One.put {W w : World} {g : Nat} {room : Int} {l l' : List (Tm × Int)} {s : ByteArray} {til now r : Int} (h : One W w g room l) (hs : InS s) (hti : InI til) (hl : l.length ≤ 1048576) (hp : putL room l (ofT s) til now = (r, l')) :
    Calls Try.prog 15 #[.pointer (some ⟨g, 0, none⟩), .agg #[.int .i64 0, .string s, .int .i64 0, .slice none 0 0], .int .i64 til, .int .i64 now] w fun e w' => e = .returned (.int .i64 r) ∧ One W w' g room l' := by
  obtain ⟨v, h1, h2, h3, h4⟩ := h
  refine (put_any (fun _ => False) w g room v l (ofT s) _ til now (none_old w) h1 (ofRep _ _ s hs) hti hl).mono ?_
  rintro e w1 ⟨he, v1, hv, hc, ho⟩
  rw [hp] at he hc
  refine ⟨he, v1, hc, h2, fun k hk => ?_, h4.trans ⟨ho.os, ho.tape, ho.output, ho.size, fun b hb => ho.block b (Nat.lt_of_lt_of_le hb h4.size) ?_⟩⟩
  · rcases hv k hk with h | h
    · exact h3 k h
    · exact Nat.le_trans h4.size h
  · rintro (rfl | hf)
    · omega
    · have := h3 _ hf; omega

set_option maxHeartbeats 2000000 in
theorem works_any (w : World) : Calls Try.prog 10 #[] w fun e w' => e = .returned (.bool true) ∧ Below w.heap.size w w' := by
  have hsA : InS ⟨#[97]⟩ := by show _ ≤ _; decide
  have hsB : InS ⟨#[98]⟩ := by show _ ≤ _; decide
  go_enter Try.func10, Try.ntmps10
  go_wp2_with fail
  refine (new_any w 1).mono ?_
  rintro e x1 ⟨rfl, hx⟩
  have H1 : Hid (One w x1 w.heap.size 1 []) := ⟨_, hx ▸ CacheP.new (none_old w) 1, Nat.le_refl _, by simp [Value.ownBlock], hx ▸ (Below.refl _ _).alloc (Nat.le_refl _) _⟩
  clear hx
  go_wp2_with fail
  refine (of_any x1 _).mono ?_
  rintro e x2 ⟨rfl, hb⟩
  have H2 := Lib.hid (H1.out.on hb)
  clear hb
  go_wp2_with fail
  refine (H2.out.put hsA (by constructor <;> decide) (by simp) w1).mono ?_
  rintro e x3 ⟨rfl, h3⟩
  have H3 := Lib.hid h3
  clear h3
  go_wp2_with fail
  refine (of_any x3 _).mono ?_
  rintro e x4 ⟨rfl, hb⟩
  have H4 := Lib.hid (H3.out.on hb)
  clear hb
  go_wp2_with fail
  refine (H4.out.put hsA (by constructor <;> decide) (by simp) w2).mono ?_
  rintro e x5 ⟨rfl, h3⟩
  have H5 := Lib.hid h3
  clear h3
  go_wp2_with fail
  refine (of_any x5 _).mono ?_
  rintro e x6 ⟨rfl, hb⟩
  have H6 := Lib.hid (H5.out.on hb)
  clear hb
  go_wp2_with fail
  refine (H6.out.put hsB (by constructor <;> decide) (by simp) w3).mono ?_
  rintro e x7 ⟨rfl, h3⟩
  have H7 := Lib.hid h3
  clear h3
  go_wp2_with fail
  refine (of_any x7 _).mono ?_
  rintro e x8 ⟨rfl, hb⟩
  have H8 := Lib.hid (H7.out.on hb)
  clear hb
  go_wp2_with fail
  refine (H8.out.put hsB (by constructor <;> decide) (by simp) w4).mono ?_
  rintro e x9 ⟨rfl, h3⟩
  have H9 := Lib.hid h3
  clear h3
  go_wp2_with fail
  refine (of_any x9 _).mono ?_
  rintro e y1 ⟨rfl, hb⟩
  have H10 := Lib.hid (H9.out.on hb)
  clear hb
  go_wp2_with fail
  obtain ⟨v, hv, _, _, _⟩ := H10.out
  refine (has_any (fun _ => False) y1 w.heap.size 1 v [(ofT sB, 9)] (ofT sB) _ 8 (none_old _) hv (ofRep _ _ sB hsB) (by simp)).mono ?_
  rintro e y2 ⟨rfl, hb⟩
  rw [w5]
  have H11 := Lib.hid (H10.out.on hb)
  clear hb hv
  go_wp2_with fail
  obtain ⟨v, hv, _, _, _⟩ := H11.out
  refine (len_any (fun _ => False) y2 w.heap.size 1 v [(ofT sB, 9)] 8 (none_old _) hv (by simp)).mono ?_
  rintro e y3 ⟨rfl, hb⟩
  rw [w6]
  have H12 := Lib.hid (H11.out.on hb)
  clear hb hv
  go_wp2_with fail
  go_ret
  exact ⟨rfl, H12.out.below⟩
end Go.Proofs.Ytmbclhjhmghapaa
