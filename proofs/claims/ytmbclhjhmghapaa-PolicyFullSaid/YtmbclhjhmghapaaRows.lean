/-
  NARROWER THAN 'FOR EVERY INPUT', by the rows' own cells (each row's printed sentence says how): ReplayDoes: loops · ReplayRoom: loops.
  DERIVED. THE GIVEN ROWS OF THIS SEAT. 7 by the template 'for every input the law returns true; each argument reads behind the call as it read before'; 0 by the template 'total and deterministic' (their statements: YtmbclhjhmghapaaTotals.lean).
  GIVEN WITH THE SEED: the statements are not yours to turn. If you find one false, say at which input.
  Laid BY PROGRAM, IN A SANDBOX (cutbox-rows.mjs): the forced cells as the released guide's own fill.sh prints them over the translation 30510aa59953439e… (all of the seat's roots in one cut). By AI agents, Wed Nov 11 2026. No macro, syntax, notation, axiom, sorry.
-/
import Derived.Test.YtmbclhjhmghapaaChecked
import GoSem.Claim
import GoSem.ClaimJoined
import GoSem.ClaimMapViews
import Derived.JoinedTies
import Derived.KernelRfl
namespace Go.Proofs.Ytmbclhjhmghapaa
/- THE CELL 'sum', in the pinned program and in every row, IS THE sha256 OF THE DUMP (.gsa) THAT YtmbclhjhmghapaaProg.lean LOADS. Nothing in Lean hashes anything: it is a label: what it is worth is what the hold of that sum in a sandbox is worth. -/
noncomputable def Try.pinned : Pinned := { name := "ytmbclhjhmghapaa", sum := "30510aa59953439ef9d4eda4af48852b4dd1169ab195901db4f00ef04be18eea", checked := Try.checked }
namespace Rows
def none {H : Type} : Left H := { results := [], args := [] }

/-- 'legatelaw15.ReplayDoes': WHATEVER THE INPUT: true; the input reads as it did. -/
def replayDoesSpec : ChangeSpec := { name := "replayDoes", fn := fun _ => fun
  | [d1, d2, d3, d4] => { results := [.lit (.bool true)], args := [d1, d2, d3, d4] }
  | _ => none }
def replayDoesRow : OpenClaim := { program := "ytmbclhjhmghapaa", sum := "30510aa59953439ef9d4eda4af48852b4dd1169ab195901db4f00ef04be18eea", func := "legate/legatelaw15.ReplayDoes", spec := "replayDoes", inPlace := ["internal/bytealg.abigen_runtime_cmpstring"], unfollowed := true, recurses := true, loops := true, apart := false }
def ReplayDoesSaid : Prop := replayDoesRow.holds Try.pinned (OpenSpec.ofChange replayDoesSpec)

/-- ITS FALSE NEIGHBOUR: 'it returns false'. Refute it at one input. -/
def replayDoesWrong : ChangeSpec := { name := "replayDoes", fn := fun _ => fun
  | [d1, d2, d3, d4] => { results := [.lit (.bool false)], args := [d1, d2, d3, d4] }
  | _ => none }
def ReplayDoesWrongFalsely : Prop := replayDoesRow.holds Try.pinned (OpenSpec.ofChange replayDoesWrong)

/-- 'legatelaw15.ReplayRoom': WHATEVER THE INPUT: true; the input reads as it did. -/
def replayRoomSpec : ChangeSpec := { name := "replayRoom", fn := fun _ => fun
  | [d1, d2] => { results := [.lit (.bool true)], args := [d1, d2] }
  | _ => none }
def replayRoomRow : OpenClaim := { program := "ytmbclhjhmghapaa", sum := "30510aa59953439ef9d4eda4af48852b4dd1169ab195901db4f00ef04be18eea", func := "legate/legatelaw15.ReplayRoom", spec := "replayRoom", inPlace := ["internal/bytealg.abigen_runtime_cmpstring"], unfollowed := true, recurses := true, loops := true, apart := false }
def ReplayRoomSaid : Prop := replayRoomRow.holds Try.pinned (OpenSpec.ofChange replayRoomSpec)

/-- ITS FALSE NEIGHBOUR: 'it returns false'. Refute it at one input. -/
def replayRoomWrong : ChangeSpec := { name := "replayRoom", fn := fun _ => fun
  | [d1, d2] => { results := [.lit (.bool false)], args := [d1, d2] }
  | _ => none }
def ReplayRoomWrongFalsely : Prop := replayRoomRow.holds Try.pinned (OpenSpec.ofChange replayRoomWrong)

/-- 'legatelaw12.PolicyFull': WHATEVER THE INPUT: true; the input reads as it did. -/
def policyFullSpec : ChangeSpec := { name := "policyFull", fn := fun _ => fun
  | [d1, d2] => { results := [.lit (.bool true)], args := [d1, d2] }
  | _ => none }
def policyFullRow : OpenClaim := { program := "ytmbclhjhmghapaa", sum := "30510aa59953439ef9d4eda4af48852b4dd1169ab195901db4f00ef04be18eea", func := "legate/legatelaw12.PolicyFull", spec := "policyFull", inPlace := ["internal/bytealg.IndexByteString"], unfollowed := true, recurses := true, apart := false }
def PolicyFullSaid : Prop := policyFullRow.holds Try.pinned (OpenSpec.ofChange policyFullSpec)

/-- ITS FALSE NEIGHBOUR: 'it returns false'. Refute it at one input. -/
def policyFullWrong : ChangeSpec := { name := "policyFull", fn := fun _ => fun
  | [d1, d2] => { results := [.lit (.bool false)], args := [d1, d2] }
  | _ => none }
def PolicyFullWrongFalsely : Prop := policyFullRow.holds Try.pinned (OpenSpec.ofChange policyFullWrong)

/-- 'legatelaw12.PolicySets': WHATEVER THE INPUT: true; the input reads as it did. -/
def policySetsSpec : ChangeSpec := { name := "policySets", fn := fun _ => fun
  | [d1, d2, d3, d4, d5, d6] => { results := [.lit (.bool true)], args := [d1, d2, d3, d4, d5, d6] }
  | _ => none }
def policySetsRow : OpenClaim := { program := "ytmbclhjhmghapaa", sum := "30510aa59953439ef9d4eda4af48852b4dd1169ab195901db4f00ef04be18eea", func := "legate/legatelaw12.PolicySets", spec := "policySets", inPlace := ["internal/bytealg.IndexByteString"], unfollowed := true, recurses := true, apart := false }
def PolicySetsSaid : Prop := policySetsRow.holds Try.pinned (OpenSpec.ofChange policySetsSpec)

/-- ITS FALSE NEIGHBOUR: 'it returns false'. Refute it at one input. -/
def policySetsWrong : ChangeSpec := { name := "policySets", fn := fun _ => fun
  | [d1, d2, d3, d4, d5, d6] => { results := [.lit (.bool false)], args := [d1, d2, d3, d4, d5, d6] }
  | _ => none }
def PolicySetsWrongFalsely : Prop := policySetsRow.holds Try.pinned (OpenSpec.ofChange policySetsWrong)

/-- 'legatelaw12.PolicyKeys': WHATEVER THE INPUT: true; the input reads as it did. -/
def policyKeysSpec : ChangeSpec := { name := "policyKeys", fn := fun _ => fun
  | [d1, d2, d3] => { results := [.lit (.bool true)], args := [d1, d2, d3] }
  | _ => none }
def policyKeysRow : OpenClaim := { program := "ytmbclhjhmghapaa", sum := "30510aa59953439ef9d4eda4af48852b4dd1169ab195901db4f00ef04be18eea", func := "legate/legatelaw12.PolicyKeys", spec := "policyKeys", inPlace := ["internal/bytealg.IndexByteString"], unfollowed := true, recurses := true, apart := false }
def PolicyKeysSaid : Prop := policyKeysRow.holds Try.pinned (OpenSpec.ofChange policyKeysSpec)

/-- ITS FALSE NEIGHBOUR: 'it returns false'. Refute it at one input. -/
def policyKeysWrong : ChangeSpec := { name := "policyKeys", fn := fun _ => fun
  | [d1, d2, d3] => { results := [.lit (.bool false)], args := [d1, d2, d3] }
  | _ => none }
def PolicyKeysWrongFalsely : Prop := policyKeysRow.holds Try.pinned (OpenSpec.ofChange policyKeysWrong)

/-- 'legatelaw12.PolicyFlags': WHATEVER THE INPUT: true; the input reads as it did. -/
def policyFlagsSpec : ChangeSpec := { name := "policyFlags", fn := fun _ => fun
  | [d1, d2, d3, d4] => { results := [.lit (.bool true)], args := [d1, d2, d3, d4] }
  | _ => none }
def policyFlagsRow : OpenClaim := { program := "ytmbclhjhmghapaa", sum := "30510aa59953439ef9d4eda4af48852b4dd1169ab195901db4f00ef04be18eea", func := "legate/legatelaw12.PolicyFlags", spec := "policyFlags", inPlace := ["internal/bytealg.IndexByteString"], unfollowed := true, recurses := true, apart := false }
def PolicyFlagsSaid : Prop := policyFlagsRow.holds Try.pinned (OpenSpec.ofChange policyFlagsSpec)

/-- ITS FALSE NEIGHBOUR: 'it returns false'. Refute it at one input. -/
def policyFlagsWrong : ChangeSpec := { name := "policyFlags", fn := fun _ => fun
  | [d1, d2, d3, d4] => { results := [.lit (.bool false)], args := [d1, d2, d3, d4] }
  | _ => none }
def PolicyFlagsWrongFalsely : Prop := policyFlagsRow.holds Try.pinned (OpenSpec.ofChange policyFlagsWrong)

/-- 'legatelaw12.PolicyBack': WHATEVER THE INPUT: true; the input reads as it did. -/
def policyBackSpec : ChangeSpec := { name := "policyBack", fn := fun _ => fun
  | [d1, d2, d3, d4] => { results := [.lit (.bool true)], args := [d1, d2, d3, d4] }
  | _ => none }
def policyBackRow : OpenClaim := { program := "ytmbclhjhmghapaa", sum := "30510aa59953439ef9d4eda4af48852b4dd1169ab195901db4f00ef04be18eea", func := "legate/legatelaw12.PolicyBack", spec := "policyBack", inPlace := ["internal/bytealg.IndexByteString"], unfollowed := true, recurses := true, apart := false }
def PolicyBackSaid : Prop := policyBackRow.holds Try.pinned (OpenSpec.ofChange policyBackSpec)

/-- ITS FALSE NEIGHBOUR: 'it returns false'. Refute it at one input. -/
def policyBackWrong : ChangeSpec := { name := "policyBack", fn := fun _ => fun
  | [d1, d2, d3, d4] => { results := [.lit (.bool false)], args := [d1, d2, d3, d4] }
  | _ => none }
def PolicyBackWrongFalsely : Prop := policyBackRow.holds Try.pinned (OpenSpec.ofChange policyBackWrong)

/- THE SECOND FORM. 'bulk': how many values and letters a reading holds, each counted each time it is reached (what is shared counts as often as it is met; a slice's spare places count too). A statement '..UptoSaid' is the law's where the arguments, and the package variables that the reading takes, are together of bulk at most 1048576: NARROWER than '..Said'. Prove '..Said' where nothing that the law and all that it calls make is longer than what came in: it says more and counts as full. Else prove '..UptoSaid'. A law counts once. -/
mutual
def uptoBulk {H : Type} : DataW H → Nat
  | .lit (.string bytes) => bytes.length + 1
  | .lit _ => 1
  | .nil => 1
  | .ptr d => uptoBulk d + 1
  | .slice elems spare => uptoBulkAll elems + uptoBulkAll spare + 1
  | .agg parts => uptoBulkAll parts + 1
  | .iface _ d => uptoBulk d + 1
  | .map entries => uptoBulkEntries entries + 1
  | .held _ => 1
def uptoBulkAll {H : Type} : List (DataW H) → Nat
  | [] => 0
  | d :: r => uptoBulk d + uptoBulkAll r
def uptoBulkEntries {H : Type} : List (Lit × DataW H) → Nat
  | [] => 0
  | x :: r => uptoBulkEntry x + uptoBulkEntries r
def uptoBulkEntry {H : Type} : Lit × DataW H → Nat
  | (.string bytes, d) => bytes.length + uptoBulk d + 1
  | (_, d) => uptoBulk d + 1
 end
def uptoSmall : (H : Type) → List (DataW H) → Bool := fun _ ds => decide (uptoBulkAll ds ≤ 1048576)
def OpenSpec.upto (s : _root_.Go.ChangeSpec) : _root_.Go.OpenSpec := { _root_.Go.OpenSpec.ofChange s with cond := some uptoSmall }

/-- 'legatelaw15.ReplayDoes', WHERE WHAT IT READS IS OF BULK AT MOST 1048576: true; the input reads as it did. -/
def replayDoesUptoRow : OpenClaim := { program := "ytmbclhjhmghapaa", sum := "30510aa59953439ef9d4eda4af48852b4dd1169ab195901db4f00ef04be18eea", func := "legate/legatelaw15.ReplayDoes", spec := "replayDoes", inPlace := ["internal/bytealg.abigen_runtime_cmpstring"], unfollowed := true, recurses := true, loops := true, apart := false, narrowed := true }
def ReplayDoesUptoSaid : Prop := replayDoesUptoRow.holds Try.pinned (OpenSpec.upto replayDoesSpec)

/-- 'legatelaw15.ReplayRoom', WHERE WHAT IT READS IS OF BULK AT MOST 1048576: true; the input reads as it did. -/
def replayRoomUptoRow : OpenClaim := { program := "ytmbclhjhmghapaa", sum := "30510aa59953439ef9d4eda4af48852b4dd1169ab195901db4f00ef04be18eea", func := "legate/legatelaw15.ReplayRoom", spec := "replayRoom", inPlace := ["internal/bytealg.abigen_runtime_cmpstring"], unfollowed := true, recurses := true, loops := true, apart := false, narrowed := true }
def ReplayRoomUptoSaid : Prop := replayRoomUptoRow.holds Try.pinned (OpenSpec.upto replayRoomSpec)

/-- 'legatelaw12.PolicyFull', WHERE WHAT IT READS IS OF BULK AT MOST 1048576: true; the input reads as it did. -/
def policyFullUptoRow : OpenClaim := { program := "ytmbclhjhmghapaa", sum := "30510aa59953439ef9d4eda4af48852b4dd1169ab195901db4f00ef04be18eea", func := "legate/legatelaw12.PolicyFull", spec := "policyFull", inPlace := ["internal/bytealg.IndexByteString"], unfollowed := true, recurses := true, apart := false, narrowed := true }
def PolicyFullUptoSaid : Prop := policyFullUptoRow.holds Try.pinned (OpenSpec.upto policyFullSpec)

/-- 'legatelaw12.PolicySets', WHERE WHAT IT READS IS OF BULK AT MOST 1048576: true; the input reads as it did. -/
def policySetsUptoRow : OpenClaim := { program := "ytmbclhjhmghapaa", sum := "30510aa59953439ef9d4eda4af48852b4dd1169ab195901db4f00ef04be18eea", func := "legate/legatelaw12.PolicySets", spec := "policySets", inPlace := ["internal/bytealg.IndexByteString"], unfollowed := true, recurses := true, apart := false, narrowed := true }
def PolicySetsUptoSaid : Prop := policySetsUptoRow.holds Try.pinned (OpenSpec.upto policySetsSpec)

/-- 'legatelaw12.PolicyKeys', WHERE WHAT IT READS IS OF BULK AT MOST 1048576: true; the input reads as it did. -/
def policyKeysUptoRow : OpenClaim := { program := "ytmbclhjhmghapaa", sum := "30510aa59953439ef9d4eda4af48852b4dd1169ab195901db4f00ef04be18eea", func := "legate/legatelaw12.PolicyKeys", spec := "policyKeys", inPlace := ["internal/bytealg.IndexByteString"], unfollowed := true, recurses := true, apart := false, narrowed := true }
def PolicyKeysUptoSaid : Prop := policyKeysUptoRow.holds Try.pinned (OpenSpec.upto policyKeysSpec)

/-- 'legatelaw12.PolicyFlags', WHERE WHAT IT READS IS OF BULK AT MOST 1048576: true; the input reads as it did. -/
def policyFlagsUptoRow : OpenClaim := { program := "ytmbclhjhmghapaa", sum := "30510aa59953439ef9d4eda4af48852b4dd1169ab195901db4f00ef04be18eea", func := "legate/legatelaw12.PolicyFlags", spec := "policyFlags", inPlace := ["internal/bytealg.IndexByteString"], unfollowed := true, recurses := true, apart := false, narrowed := true }
def PolicyFlagsUptoSaid : Prop := policyFlagsUptoRow.holds Try.pinned (OpenSpec.upto policyFlagsSpec)

/-- 'legatelaw12.PolicyBack', WHERE WHAT IT READS IS OF BULK AT MOST 1048576: true; the input reads as it did. -/
def policyBackUptoRow : OpenClaim := { program := "ytmbclhjhmghapaa", sum := "30510aa59953439ef9d4eda4af48852b4dd1169ab195901db4f00ef04be18eea", func := "legate/legatelaw12.PolicyBack", spec := "policyBack", inPlace := ["internal/bytealg.IndexByteString"], unfollowed := true, recurses := true, apart := false, narrowed := true }
def PolicyBackUptoSaid : Prop := policyBackUptoRow.holds Try.pinned (OpenSpec.upto policyBackSpec)

end Rows
end Go.Proofs.Ytmbclhjhmghapaa
