/-
  No cell of these rows narrows 'for every input' (looked for: loops, veiled, ifaces, maps, wideKeys, modest, calm, conditions, laid).
  DERIVED. THE GIVEN ROWS OF THIS SEAT. 5 by the template 'for every input the law returns true; each argument reads behind the call as it read before'; 0 by the template 'total and deterministic' (their statements: YtjoipdjdonakeaaTotals.lean).
  GIVEN WITH THE SEED: the statements are not yours to turn. If you find one false, say at which input.
  Laid BY PROGRAM, IN A SANDBOX (cutbox-rows.mjs): the forced cells as the released guide's own fill.sh prints them over the translation 8af12e70fdd373e7… (all of the seat's roots in one cut). By AI agents, Wed Nov 11 2026. No macro, syntax, notation, axiom, sorry.
-/
import Derived.Test.YtjoipdjdonakeaaChecked
import GoSem.Claim
import GoSem.ClaimJoined
import GoSem.ClaimMapViews
import Derived.JoinedTies
import Derived.KernelRfl
namespace Go.Proofs.Ytjoipdjdonakeaa
/- THE CELL 'sum', in the pinned program and in every row, IS THE sha256 OF THE DUMP (.gsa) THAT YtjoipdjdonakeaaProg.lean LOADS. Nothing in Lean hashes anything: it is a label: what it is worth is what the hold of that sum in a sandbox is worth. -/
noncomputable def Try.pinned : Pinned := { name := "ytjoipdjdonakeaa", sum := "8af12e70fdd373e7b9c4c98d5746f4ef3f06cb1c6caa82bc25f8cd4691bf8202", checked := Try.checked }
namespace Rows
def none {H : Type} : Left H := { results := [], args := [] }

/-- 'legatelaw10.SpanPoints': WHATEVER THE INPUT: true; the input reads as it did. -/
def spanPointsSpec : ChangeSpec := { name := "spanPoints", fn := fun _ => fun
  | [d1, d2] => { results := [.lit (.bool true)], args := [d1, d2] }
  | _ => none }
def spanPointsRow : OpenClaim := { program := "ytjoipdjdonakeaa", sum := "8af12e70fdd373e7b9c4c98d5746f4ef3f06cb1c6caa82bc25f8cd4691bf8202", func := "legate/legatelaw10.SpanPoints", spec := "spanPoints", inPlace := ["math.archTrunc", "math.Float64bits", "math.Float64frombits"], apart := false }
def SpanPointsSaid : Prop := spanPointsRow.holds Try.pinned (OpenSpec.ofChange spanPointsSpec)

/-- ITS FALSE NEIGHBOUR: 'it returns false'. Refute it at one input. -/
def spanPointsWrong : ChangeSpec := { name := "spanPoints", fn := fun _ => fun
  | [d1, d2] => { results := [.lit (.bool false)], args := [d1, d2] }
  | _ => none }
def SpanPointsWrongFalsely : Prop := spanPointsRow.holds Try.pinned (OpenSpec.ofChange spanPointsWrong)

/-- 'legatelaw10.SpanBoth': WHATEVER THE INPUT: true; the input reads as it did. -/
def spanBothSpec : ChangeSpec := { name := "spanBoth", fn := fun _ => fun
  | [d1, d2, d3] => { results := [.lit (.bool true)], args := [d1, d2, d3] }
  | _ => none }
def spanBothRow : OpenClaim := { program := "ytjoipdjdonakeaa", sum := "8af12e70fdd373e7b9c4c98d5746f4ef3f06cb1c6caa82bc25f8cd4691bf8202", func := "legate/legatelaw10.SpanBoth", spec := "spanBoth", inPlace := ["math.archTrunc", "math.Float64bits", "math.Float64frombits"], apart := false }
def SpanBothSaid : Prop := spanBothRow.holds Try.pinned (OpenSpec.ofChange spanBothSpec)

/-- ITS FALSE NEIGHBOUR: 'it returns false'. Refute it at one input. -/
def spanBothWrong : ChangeSpec := { name := "spanBoth", fn := fun _ => fun
  | [d1, d2, d3] => { results := [.lit (.bool false)], args := [d1, d2, d3] }
  | _ => none }
def SpanBothWrongFalsely : Prop := spanBothRow.holds Try.pinned (OpenSpec.ofChange spanBothWrong)

/-- 'legatelaw10.SpanSkew': WHATEVER THE INPUT: true; the input reads as it did. -/
def spanSkewSpec : ChangeSpec := { name := "spanSkew", fn := fun _ => fun
  | [d1, d2, d3, d4, d5] => { results := [.lit (.bool true)], args := [d1, d2, d3, d4, d5] }
  | _ => none }
def spanSkewRow : OpenClaim := { program := "ytjoipdjdonakeaa", sum := "8af12e70fdd373e7b9c4c98d5746f4ef3f06cb1c6caa82bc25f8cd4691bf8202", func := "legate/legatelaw10.SpanSkew", spec := "spanSkew", inPlace := ["math.archTrunc", "math.Float64bits", "math.Float64frombits"], apart := false }
def SpanSkewSaid : Prop := spanSkewRow.holds Try.pinned (OpenSpec.ofChange spanSkewSpec)

/-- ITS FALSE NEIGHBOUR: 'it returns false'. Refute it at one input. -/
def spanSkewWrong : ChangeSpec := { name := "spanSkew", fn := fun _ => fun
  | [d1, d2, d3, d4, d5] => { results := [.lit (.bool false)], args := [d1, d2, d3, d4, d5] }
  | _ => none }
def SpanSkewWrongFalsely : Prop := spanSkewRow.holds Try.pinned (OpenSpec.ofChange spanSkewWrong)

/-- 'legatelaw10.SpanCuts': WHATEVER THE INPUT: true; the input reads as it did. -/
def spanCutsSpec : ChangeSpec := { name := "spanCuts", fn := fun _ => fun
  | [d1, d2, d3, d4] => { results := [.lit (.bool true)], args := [d1, d2, d3, d4] }
  | _ => none }
def spanCutsRow : OpenClaim := { program := "ytjoipdjdonakeaa", sum := "8af12e70fdd373e7b9c4c98d5746f4ef3f06cb1c6caa82bc25f8cd4691bf8202", func := "legate/legatelaw10.SpanCuts", spec := "spanCuts", inPlace := ["math.archTrunc", "math.Float64bits", "math.Float64frombits"], apart := false }
def SpanCutsSaid : Prop := spanCutsRow.holds Try.pinned (OpenSpec.ofChange spanCutsSpec)

/-- ITS FALSE NEIGHBOUR: 'it returns false'. Refute it at one input. -/
def spanCutsWrong : ChangeSpec := { name := "spanCuts", fn := fun _ => fun
  | [d1, d2, d3, d4] => { results := [.lit (.bool false)], args := [d1, d2, d3, d4] }
  | _ => none }
def SpanCutsWrongFalsely : Prop := spanCutsRow.holds Try.pinned (OpenSpec.ofChange spanCutsWrong)

/-- 'legatelaw10.SpanThree': WHATEVER THE INPUT: true; the input reads as it did. -/
def spanThreeSpec : ChangeSpec := { name := "spanThree", fn := fun _ => fun
  | [d1, d2, d3] => { results := [.lit (.bool true)], args := [d1, d2, d3] }
  | _ => none }
def spanThreeRow : OpenClaim := { program := "ytjoipdjdonakeaa", sum := "8af12e70fdd373e7b9c4c98d5746f4ef3f06cb1c6caa82bc25f8cd4691bf8202", func := "legate/legatelaw10.SpanThree", spec := "spanThree", inPlace := ["math.archTrunc", "math.Float64bits", "math.Float64frombits"], apart := false }
def SpanThreeSaid : Prop := spanThreeRow.holds Try.pinned (OpenSpec.ofChange spanThreeSpec)

/-- ITS FALSE NEIGHBOUR: 'it returns false'. Refute it at one input. -/
def spanThreeWrong : ChangeSpec := { name := "spanThree", fn := fun _ => fun
  | [d1, d2, d3] => { results := [.lit (.bool false)], args := [d1, d2, d3] }
  | _ => none }
def SpanThreeWrongFalsely : Prop := spanThreeRow.holds Try.pinned (OpenSpec.ofChange spanThreeWrong)

/- THE SECOND FORM. 'bulk': how many values and letters a reading holds, each counted each time it is reached (what is shared counts as often as it is met; a slice's spare places count too). A statement '..UptoSaid' is the law's where the arguments, and the package variables that the reading takes, are together of bulk at most 1048576: NARROWER than '..Said'. Prove '..Said' where nothing that the law and all that it calls make is longer than what came in: it says more and counts as full. Else prove '..UptoSaid'. A law counts once. -/
mutual
def uptoBulk {H : Type} : DataW H → Nat
  | .lit (.string bytes) => bytes.length + 1
  | .lit _ => 1
  | .nil => 1
  | .ptr d => uptoBulk d + 1
  | .slice elems spare => uptoBulkAll elems + uptoBulkAll spare + 1
  | .agg parts => uptoBulkAll parts + 1
  | .iface _ d => uptoBulk d + 1
  | .map entries => uptoBulkEntries entries + 1
  | .held _ => 1
def uptoBulkAll {H : Type} : List (DataW H) → Nat
  | [] => 0
  | d :: r => uptoBulk d + uptoBulkAll r
def uptoBulkEntries {H : Type} : List (Lit × DataW H) → Nat
  | [] => 0
  | x :: r => uptoBulkEntry x + uptoBulkEntries r
def uptoBulkEntry {H : Type} : Lit × DataW H → Nat
  | (.string bytes, d) => bytes.length + uptoBulk d + 1
  | (_, d) => uptoBulk d + 1
 end
def uptoSmall : (H : Type) → List (DataW H) → Bool := fun _ ds => decide (uptoBulkAll ds ≤ 1048576)
def OpenSpec.upto (s : _root_.Go.ChangeSpec) : _root_.Go.OpenSpec := { _root_.Go.OpenSpec.ofChange s with cond := some uptoSmall }

/-- 'legatelaw10.SpanPoints', WHERE WHAT IT READS IS OF BULK AT MOST 1048576: true; the input reads as it did. -/
def spanPointsUptoRow : OpenClaim := { program := "ytjoipdjdonakeaa", sum := "8af12e70fdd373e7b9c4c98d5746f4ef3f06cb1c6caa82bc25f8cd4691bf8202", func := "legate/legatelaw10.SpanPoints", spec := "spanPoints", inPlace := ["math.archTrunc", "math.Float64bits", "math.Float64frombits"], apart := false, narrowed := true }
def SpanPointsUptoSaid : Prop := spanPointsUptoRow.holds Try.pinned (OpenSpec.upto spanPointsSpec)

/-- 'legatelaw10.SpanBoth', WHERE WHAT IT READS IS OF BULK AT MOST 1048576: true; the input reads as it did. -/
def spanBothUptoRow : OpenClaim := { program := "ytjoipdjdonakeaa", sum := "8af12e70fdd373e7b9c4c98d5746f4ef3f06cb1c6caa82bc25f8cd4691bf8202", func := "legate/legatelaw10.SpanBoth", spec := "spanBoth", inPlace := ["math.archTrunc", "math.Float64bits", "math.Float64frombits"], apart := false, narrowed := true }
def SpanBothUptoSaid : Prop := spanBothUptoRow.holds Try.pinned (OpenSpec.upto spanBothSpec)

/-- 'legatelaw10.SpanSkew', WHERE WHAT IT READS IS OF BULK AT MOST 1048576: true; the input reads as it did. -/
def spanSkewUptoRow : OpenClaim := { program := "ytjoipdjdonakeaa", sum := "8af12e70fdd373e7b9c4c98d5746f4ef3f06cb1c6caa82bc25f8cd4691bf8202", func := "legate/legatelaw10.SpanSkew", spec := "spanSkew", inPlace := ["math.archTrunc", "math.Float64bits", "math.Float64frombits"], apart := false, narrowed := true }
def SpanSkewUptoSaid : Prop := spanSkewUptoRow.holds Try.pinned (OpenSpec.upto spanSkewSpec)

/-- 'legatelaw10.SpanCuts', WHERE WHAT IT READS IS OF BULK AT MOST 1048576: true; the input reads as it did. -/
def spanCutsUptoRow : OpenClaim := { program := "ytjoipdjdonakeaa", sum := "8af12e70fdd373e7b9c4c98d5746f4ef3f06cb1c6caa82bc25f8cd4691bf8202", func := "legate/legatelaw10.SpanCuts", spec := "spanCuts", inPlace := ["math.archTrunc", "math.Float64bits", "math.Float64frombits"], apart := false, narrowed := true }
def SpanCutsUptoSaid : Prop := spanCutsUptoRow.holds Try.pinned (OpenSpec.upto spanCutsSpec)

/-- 'legatelaw10.SpanThree', WHERE WHAT IT READS IS OF BULK AT MOST 1048576: true; the input reads as it did. -/
def spanThreeUptoRow : OpenClaim := { program := "ytjoipdjdonakeaa", sum := "8af12e70fdd373e7b9c4c98d5746f4ef3f06cb1c6caa82bc25f8cd4691bf8202", func := "legate/legatelaw10.SpanThree", spec := "spanThree", inPlace := ["math.archTrunc", "math.Float64bits", "math.Float64frombits"], apart := false, narrowed := true }
def SpanThreeUptoSaid : Prop := spanThreeUptoRow.holds Try.pinned (OpenSpec.upto spanThreeSpec)

end Rows
end Go.Proofs.Ytjoipdjdonakeaa
