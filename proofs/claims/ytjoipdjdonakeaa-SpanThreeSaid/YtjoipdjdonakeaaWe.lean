/- The document's own examples (works) come out right. -/
import Derived.Test.YtjoipdjdonakeaaWd
namespace Go.Proofs.Ytjoipdjdonakeaa
open Go.RowKit

theorem keep2 {B : Nat} {W w1 w2 : World} {x y : Nat} {v0 v1 u0 u1 : Value} (hb : Below w1.heap.size w1 w2)
    (h : w1.cell? ⟨x, 0, none⟩ = some v0 ∧ w1.cell? ⟨x, 1, none⟩ = some v1 ∧ w1.cell? ⟨y, 0, none⟩ = some u0 ∧ w1.cell? ⟨y, 1, none⟩ = some u1 ∧ Hid (Below B W w1)) (hB : B ≤ W.heap.size) :
    w2.cell? ⟨x, 0, none⟩ = some v0 ∧ w2.cell? ⟨x, 1, none⟩ = some v1 ∧ w2.cell? ⟨y, 0, none⟩ = some u0 ∧ w2.cell? ⟨y, 1, none⟩ = some u1 ∧ Hid (Below B W w2) := keep4 hb h hB

theorem b_ex1 : bothF 3 9 5 20 = (5, 9, 0) := by decide
theorem b_ex2 : cutF 5 9 2 = (5, 7, 0) := by decide
theorem b_ex3 : checkF 5 9 8 0 = 0 := by decide
theorem b_ex4 : nearF 3 5 2 = true := by decide
theorem b_ex5 : validB 5 9 = true := by decide

set_option maxHeartbeats 1000000 in
theorem works_any (w : World) :
    Calls Try.prog 8 #[] w fun e w' => e = .returned (.bool true) ∧ Below w.heap.size w w' := by
  have B1 := Lib.hid (both_any 3 9 5 20)
  have B2 := Lib.hid (cut_any 5 9 2)
  have B3 := Lib.hid (check_any 5 9 8 0)
  have B4 := Lib.hid (near_any 3 5 2)
  have B5 := Lib.hid (valid_any 5 9)
  have B6 := Lib.hid (point_yes 5 9 b_ex5)
  have B7 := Lib.hid (of_yes 5 9 (by omega) (by omega) (by omega))
  rw [b_ex1] at B1
  rw [b_ex2] at B2
  rw [b_ex3] at B3
  rw [b_ex4] at B4
  rw [b_ex5] at B5
  go_enter Try.func8, Try.ntmps8
  go_wp2_with fail
  refine (B1.out _).mono ?_
  rintro e w1 ⟨rfl, hb1⟩
  have HB1 := Lib.hid hb1
  clear hb1
  go_wp2_with fail
  refine (B2.out _).mono ?_
  rintro e w2 ⟨rfl, hb2⟩
  have lw2_0 : w1.heap.size < w2.heap.size := by (have hsz := hb2.size; first | omega | (simp at hsz; omega))
  have cw2_0_0 : w2.cell? ⟨w1.heap.size, 0, none⟩ = some (.int .i64 5) := by (rw [hb2.cell (by first | omega | (simp; done) | (simp; omega))]; first | assumption | (simp; done) | (simp [*]; done) | simp [go_sem, *])
  have cw2_0_1 : w2.cell? ⟨w1.heap.size, 1, none⟩ = some (.int .i64 9) := by (rw [hb2.cell (by first | omega | (simp; done) | (simp; omega))]; first | assumption | (simp; done) | (simp [*]; done) | simp [go_sem, *])
  have HB2 := Lib.hid (HB1.out.trans (((Below.refl w.heap.size w1).alloc HB1.out.size _).trans (hb2.mono (by have := HB1.out.size; simp; omega))))
  clear hb2
  go_wp2_with fail
  go_region_held3 (fun w' => w'.cell? ⟨w1.heap.size, 0, none⟩ = some (.int .i64 5) ∧ w'.cell? ⟨w1.heap.size, 1, none⟩ = some (.int .i64 9) ∧ w'.cell? ⟨w2.heap.size, 0, none⟩ = some (.int .i64 5) ∧ w'.cell? ⟨w2.heap.size, 1, none⟩ = some (.int .i64 7) ∧ Hid (Below w2.heap.size w2 w'))
    (first | exact keep4 (by assumption) (by assumption) (Nat.le_refl _) | (exact ⟨by simp [go_sem, *], by simp [go_sem, *], by simp [go_sem, *], by simp [go_sem, *], ((Below.refl _ _).alloc (Nat.le_refl _) _).drew⟩))
    (first
      | (go_at_call 13; refine (B3.out _).mono ?_; rintro e w3 ⟨rfl, hb'⟩; have HB' := Lib.hid hb'; clear hb')
      | (go_at_call 15; refine (B4.out _).mono ?_; rintro e w3 ⟨rfl, hb'⟩; have HB' := Lib.hid hb'; clear hb')
      | (go_at_call 10; refine (B5.out _).mono ?_; rintro e w3 ⟨rfl, hb'⟩; have HB' := Lib.hid hb'; clear hb')
      | (go_at_call 9; refine (B6.out _).mono ?_; rintro e w3 ⟨rfl, hb'⟩; have HB' := Lib.hid hb'; clear hb')
      | (go_at_call 11; refine (B7.out _).mono ?_; rintro e w3 ⟨rfl, hb'⟩; have HB' := Lib.hid hb'; clear hb'))
  rename_i hH
  obtain ⟨hd0, hd1, hd2, hd3, hb3⟩ := hH
  clear hd0 hd1 hd2 hd3
  go_wp2_with fail
  go_ret
  exact ⟨rfl, HB2.out.trans (hb3.out.mono HB2.out.size)⟩
end Go.Proofs.Ytjoipdjdonakeaa
