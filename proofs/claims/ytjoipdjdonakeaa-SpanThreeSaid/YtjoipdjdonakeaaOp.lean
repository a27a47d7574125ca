/- A span that is given as an argument, laid open. -/
import Derived.Test.YtjoipdjdonakeaaProg
import Derived.WalkKit
import Derived.ProofKit
import Derived.Lib.SmallJoins
namespace Go.Proofs.Ytjoipdjdonakeaa
open Go.ChangeShapes Go.WideShapes Go.ChangeAt Go.RowKit Go.Joins

theorem ownTry : ownKnob Try.prog.godebug = none := by kernel_rfl
theorem cellsS : Try.prog.cellsOf 23 = 2 := by kernel_rfl

theorem open_span {H : Type} {enc : TypeId × Value → H} {W : World} {base : Nat} {v : Value} {d : DataW H} {p : List MemPlace} (hv : Value.okWide Try.prog W .any base 23 v) (h : DataW.Trod enc Try.prog W 0 (fun _ => true) true 23 v d p) :
    ∃ a b : Int, v = .agg #[.int .i64 a, .int .i64 b] := by
  obtain ⟨c0, c1, y0, y1, m, rfl, rfl, rfl, hy0, hy1⟩ := open_agg2 Try.underlying23 (by kernel_rfl) cellsS hv h
  obtain ⟨a, e0, rfl, wa⟩ := DataW.trod_int Try.underlying3 hy0
  obtain ⟨b, e1, rfl, wb⟩ := DataW.trod_int Try.underlying3 hy1
  simp at e0 e1
  subst e0 e1
  exact ⟨a, b, rfl⟩
end Go.Proofs.Ytjoipdjdonakeaa
