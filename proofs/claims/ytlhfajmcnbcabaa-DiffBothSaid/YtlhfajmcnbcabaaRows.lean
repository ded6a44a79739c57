/-
  No cell of these rows narrows 'for every input' (looked for: loops, veiled, ifaces, maps, wideKeys, modest, calm, conditions, laid).
  DERIVED. THE GIVEN ROWS OF THIS SEAT. 8 by the template 'for every input the law returns true; each argument reads behind the call as it read before'; 0 by the template 'total and deterministic' (their statements: YtlhfajmcnbcabaaTotals.lean).
  GIVEN WITH THE SEED: the statements are not yours to turn. If you find one false, say at which input.
  Laid BY PROGRAM, IN A SANDBOX (cutbox-rows.mjs): the forced cells as the released guide's own fill.sh prints them over the translation 324607869883d093… (all of the seat's roots in one cut). By AI agents, Wed Nov 11 2026. No macro, syntax, notation, axiom, sorry.
-/
import Derived.Test.YtlhfajmcnbcabaaChecked
import GoSem.Claim
import GoSem.ClaimJoined
import GoSem.ClaimMapViews
import Derived.JoinedTies
import Derived.KernelRfl
namespace Go.Proofs.Ytlhfajmcnbcabaa
/- THE CELL 'sum', in the pinned program and in every row, IS THE sha256 OF THE DUMP (.gsa) THAT YtlhfajmcnbcabaaProg.lean LOADS. Nothing in Lean hashes anything: it is a label: what it is worth is what the hold of that sum in a sandbox is worth. -/
noncomputable def Try.pinned : Pinned := { name := "ytlhfajmcnbcabaa", sum := "324607869883d093f774c03b03b70fa727a84288ea01fd0593506214474ea0a6", checked := Try.checked }
namespace Rows
def none {H : Type} : Left H := { results := [], args := [] }

/-- 'foliatelaw11.DeltaBase': WHATEVER THE INPUT: true; the input reads as it did. -/
def deltaBaseSpec : ChangeSpec := { name := "deltaBase", fn := fun _ => fun
  | [d1, d2] => { results := [.lit (.bool true)], args := [d1, d2] }
  | _ => none }
def deltaBaseRow : OpenClaim := { program := "ytlhfajmcnbcabaa", sum := "324607869883d093f774c03b03b70fa727a84288ea01fd0593506214474ea0a6", func := "foliate/foliatelaw11.DeltaBase", spec := "deltaBase", inPlace := ["internal/abi.NoEscape", "internal/bytealg.MakeNoZero"], unfollowed := true, recurses := true, apart := false }
def DeltaBaseSaid : Prop := deltaBaseRow.holds Try.pinned (OpenSpec.ofChange deltaBaseSpec)

/-- ITS FALSE NEIGHBOUR: 'it returns false'. Refute it at one input. -/
def deltaBaseWrong : ChangeSpec := { name := "deltaBase", fn := fun _ => fun
  | [d1, d2] => { results := [.lit (.bool false)], args := [d1, d2] }
  | _ => none }
def DeltaBaseWrongFalsely : Prop := deltaBaseRow.holds Try.pinned (OpenSpec.ofChange deltaBaseWrong)

/-- 'foliatelaw11.DeltaChain': WHATEVER THE INPUT: true; the input reads as it did. -/
def deltaChainSpec : ChangeSpec := { name := "deltaChain", fn := fun _ => fun
  | [d1, d2, d3] => { results := [.lit (.bool true)], args := [d1, d2, d3] }
  | _ => none }
def deltaChainRow : OpenClaim := { program := "ytlhfajmcnbcabaa", sum := "324607869883d093f774c03b03b70fa727a84288ea01fd0593506214474ea0a6", func := "foliate/foliatelaw11.DeltaChain", spec := "deltaChain", inPlace := ["internal/abi.NoEscape", "internal/bytealg.MakeNoZero"], unfollowed := true, recurses := true, apart := false }
def DeltaChainSaid : Prop := deltaChainRow.holds Try.pinned (OpenSpec.ofChange deltaChainSpec)

/-- ITS FALSE NEIGHBOUR: 'it returns false'. Refute it at one input. -/
def deltaChainWrong : ChangeSpec := { name := "deltaChain", fn := fun _ => fun
  | [d1, d2, d3] => { results := [.lit (.bool false)], args := [d1, d2, d3] }
  | _ => none }
def DeltaChainWrongFalsely : Prop := deltaChainRow.holds Try.pinned (OpenSpec.ofChange deltaChainWrong)

/-- 'foliatelaw11.DeltaSmall': WHATEVER THE INPUT: true; the input reads as it did. -/
def deltaSmallSpec : ChangeSpec := { name := "deltaSmall", fn := fun _ => fun
  | [d1, d2, d3, d4] => { results := [.lit (.bool true)], args := [d1, d2, d3, d4] }
  | _ => none }
def deltaSmallRow : OpenClaim := { program := "ytlhfajmcnbcabaa", sum := "324607869883d093f774c03b03b70fa727a84288ea01fd0593506214474ea0a6", func := "foliate/foliatelaw11.DeltaSmall", spec := "deltaSmall", inPlace := ["internal/abi.NoEscape", "internal/bytealg.MakeNoZero"], unfollowed := true, recurses := true, apart := false }
def DeltaSmallSaid : Prop := deltaSmallRow.holds Try.pinned (OpenSpec.ofChange deltaSmallSpec)

/-- ITS FALSE NEIGHBOUR: 'it returns false'. Refute it at one input. -/
def deltaSmallWrong : ChangeSpec := { name := "deltaSmall", fn := fun _ => fun
  | [d1, d2, d3, d4] => { results := [.lit (.bool false)], args := [d1, d2, d3, d4] }
  | _ => none }
def DeltaSmallWrongFalsely : Prop := deltaSmallRow.holds Try.pinned (OpenSpec.ofChange deltaSmallWrong)

/-- 'foliatelaw11.DeltaMakes': WHATEVER THE INPUT: true; the input reads as it did. -/
def deltaMakesSpec : ChangeSpec := { name := "deltaMakes", fn := fun _ => fun
  | [d1, d2, d3] => { results := [.lit (.bool true)], args := [d1, d2, d3] }
  | _ => none }
def deltaMakesRow : OpenClaim := { program := "ytlhfajmcnbcabaa", sum := "324607869883d093f774c03b03b70fa727a84288ea01fd0593506214474ea0a6", func := "foliate/foliatelaw11.DeltaMakes", spec := "deltaMakes", inPlace := ["internal/abi.NoEscape", "internal/bytealg.MakeNoZero"], unfollowed := true, recurses := true, apart := false }
def DeltaMakesSaid : Prop := deltaMakesRow.holds Try.pinned (OpenSpec.ofChange deltaMakesSpec)

/-- ITS FALSE NEIGHBOUR: 'it returns false'. Refute it at one input. -/
def deltaMakesWrong : ChangeSpec := { name := "deltaMakes", fn := fun _ => fun
  | [d1, d2, d3] => { results := [.lit (.bool false)], args := [d1, d2, d3] }
  | _ => none }
def DeltaMakesWrongFalsely : Prop := deltaMakesRow.holds Try.pinned (OpenSpec.ofChange deltaMakesWrong)

/-- 'foliatelaw13.GradeWide': WHATEVER THE INPUT: true; the input reads as it did. -/
def gradeWideSpec : ChangeSpec := { name := "gradeWide", fn := fun _ => fun
  | [d1, d2, d3, d4, d5] => { results := [.lit (.bool true)], args := [d1, d2, d3, d4, d5] }
  | _ => none }
def gradeWideRow : OpenClaim := { program := "ytlhfajmcnbcabaa", sum := "324607869883d093f774c03b03b70fa727a84288ea01fd0593506214474ea0a6", func := "foliate/foliatelaw13.GradeWide", spec := "gradeWide", inPlace := ["internal/abi.NoEscape", "internal/bytealg.MakeNoZero"], unfollowed := true, recurses := true, apart := false }
def GradeWideSaid : Prop := gradeWideRow.holds Try.pinned (OpenSpec.ofChange gradeWideSpec)

/-- ITS FALSE NEIGHBOUR: 'it returns false'. Refute it at one input. -/
def gradeWideWrong : ChangeSpec := { name := "gradeWide", fn := fun _ => fun
  | [d1, d2, d3, d4, d5] => { results := [.lit (.bool false)], args := [d1, d2, d3, d4, d5] }
  | _ => none }
def GradeWideWrongFalsely : Prop := gradeWideRow.holds Try.pinned (OpenSpec.ofChange gradeWideWrong)

/-- 'foliatelaw14.DiffBoth': WHATEVER THE INPUT: true; the input reads as it did. -/
def diffBothSpec : ChangeSpec := { name := "diffBoth", fn := fun _ => fun
  | [d1, d2] => { results := [.lit (.bool true)], args := [d1, d2] }
  | _ => none }
def diffBothRow : OpenClaim := { program := "ytlhfajmcnbcabaa", sum := "324607869883d093f774c03b03b70fa727a84288ea01fd0593506214474ea0a6", func := "foliate/foliatelaw14.DiffBoth", spec := "diffBoth", unfollowed := true, recurses := true, apart := false }
def DiffBothSaid : Prop := diffBothRow.holds Try.pinned (OpenSpec.ofChange diffBothSpec)

/-- ITS FALSE NEIGHBOUR: 'it returns false'. Refute it at one input. -/
def diffBothWrong : ChangeSpec := { name := "diffBoth", fn := fun _ => fun
  | [d1, d2] => { results := [.lit (.bool false)], args := [d1, d2] }
  | _ => none }
def DiffBothWrongFalsely : Prop := diffBothRow.holds Try.pinned (OpenSpec.ofChange diffBothWrong)

/-- 'foliatelaw15.MergeClashes': WHATEVER THE INPUT: true; the input reads as it did. -/
def mergeClashesSpec : ChangeSpec := { name := "mergeClashes", fn := fun _ => fun
  | [d1, d2, d3, d4, d5] => { results := [.lit (.bool true)], args := [d1, d2, d3, d4, d5] }
  | _ => none }
def mergeClashesRow : OpenClaim := { program := "ytlhfajmcnbcabaa", sum := "324607869883d093f774c03b03b70fa727a84288ea01fd0593506214474ea0a6", func := "foliate/foliatelaw15.MergeClashes", spec := "mergeClashes", unfollowed := true, recurses := true, apart := false }
def MergeClashesSaid : Prop := mergeClashesRow.holds Try.pinned (OpenSpec.ofChange mergeClashesSpec)

/-- ITS FALSE NEIGHBOUR: 'it returns false'. Refute it at one input. -/
def mergeClashesWrong : ChangeSpec := { name := "mergeClashes", fn := fun _ => fun
  | [d1, d2, d3, d4, d5] => { results := [.lit (.bool false)], args := [d1, d2, d3, d4, d5] }
  | _ => none }
def MergeClashesWrongFalsely : Prop := mergeClashesRow.holds Try.pinned (OpenSpec.ofChange mergeClashesWrong)

/-- 'foliatelaw15.MergeClash': WHATEVER THE INPUT: true; the input reads as it did. -/
def mergeClashSpec : ChangeSpec := { name := "mergeClash", fn := fun _ => fun
  | [d1, d2, d3, d4, d5] => { results := [.lit (.bool true)], args := [d1, d2, d3, d4, d5] }
  | _ => none }
def mergeClashRow : OpenClaim := { program := "ytlhfajmcnbcabaa", sum := "324607869883d093f774c03b03b70fa727a84288ea01fd0593506214474ea0a6", func := "foliate/foliatelaw15.MergeClash", spec := "mergeClash", unfollowed := true, recurses := true, apart := false }
def MergeClashSaid : Prop := mergeClashRow.holds Try.pinned (OpenSpec.ofChange mergeClashSpec)

/-- ITS FALSE NEIGHBOUR: 'it returns false'. Refute it at one input. -/
def mergeClashWrong : ChangeSpec := { name := "mergeClash", fn := fun _ => fun
  | [d1, d2, d3, d4, d5] => { results := [.lit (.bool false)], args := [d1, d2, d3, d4, d5] }
  | _ => none }
def MergeClashWrongFalsely : Prop := mergeClashRow.holds Try.pinned (OpenSpec.ofChange mergeClashWrong)

/- THE SECOND FORM. 'bulk': how many values and letters a reading holds, each counted each time it is reached (what is shared counts as often as it is met; a slice's spare places count too). A statement '..UptoSaid' is the law's where the arguments, and the package variables that the reading takes, are together of bulk at most 1048576: NARROWER than '..Said'. Prove '..Said' where nothing that the law and all that it calls make is longer than what came in: it says more and counts as full. Else prove '..UptoSaid'. A law counts once. -/
mutual
def uptoBulk {H : Type} : DataW H → Nat
  | .lit (.string bytes) => bytes.length + 1
  | .lit _ => 1
  | .nil => 1
  | .ptr d => uptoBulk d + 1
  | .slice elems spare => uptoBulkAll elems + uptoBulkAll spare + 1
  | .agg parts => uptoBulkAll parts + 1
  | .iface _ d => uptoBulk d + 1
  | .map entries => uptoBulkEntries entries + 1
  | .held _ => 1
def uptoBulkAll {H : Type} : List (DataW H) → Nat
  | [] => 0
  | d :: r => uptoBulk d + uptoBulkAll r
def uptoBulkEntries {H : Type} : List (Lit × DataW H) → Nat
  | [] => 0
  | x :: r => uptoBulkEntry x + uptoBulkEntries r
def uptoBulkEntry {H : Type} : Lit × DataW H → Nat
  | (.string bytes, d) => bytes.length + uptoBulk d + 1
  | (_, d) => uptoBulk d + 1
 end
def uptoSmall : (H : Type) → List (DataW H) → Bool := fun _ ds => decide (uptoBulkAll ds ≤ 1048576)
def OpenSpec.upto (s : _root_.Go.ChangeSpec) : _root_.Go.OpenSpec := { _root_.Go.OpenSpec.ofChange s with cond := some uptoSmall }

/-- 'foliatelaw11.DeltaBase', WHERE WHAT IT READS IS OF BULK AT MOST 1048576: true; the input reads as it did. -/
def deltaBaseUptoRow : OpenClaim := { program := "ytlhfajmcnbcabaa", sum := "324607869883d093f774c03b03b70fa727a84288ea01fd0593506214474ea0a6", func := "foliate/foliatelaw11.DeltaBase", spec := "deltaBase", inPlace := ["internal/abi.NoEscape", "internal/bytealg.MakeNoZero"], unfollowed := true, recurses := true, apart := false, narrowed := true }
def DeltaBaseUptoSaid : Prop := deltaBaseUptoRow.holds Try.pinned (OpenSpec.upto deltaBaseSpec)

/-- 'foliatelaw11.DeltaChain', WHERE WHAT IT READS IS OF BULK AT MOST 1048576: true; the input reads as it did. -/
def deltaChainUptoRow : OpenClaim := { program := "ytlhfajmcnbcabaa", sum := "324607869883d093f774c03b03b70fa727a84288ea01fd0593506214474ea0a6", func := "foliate/foliatelaw11.DeltaChain", spec := "deltaChain", inPlace := ["internal/abi.NoEscape", "internal/bytealg.MakeNoZero"], unfollowed := true, recurses := true, apart := false, narrowed := true }
def DeltaChainUptoSaid : Prop := deltaChainUptoRow.holds Try.pinned (OpenSpec.upto deltaChainSpec)

/-- 'foliatelaw11.DeltaSmall', WHERE WHAT IT READS IS OF BULK AT MOST 1048576: true; the input reads as it did. -/
def deltaSmallUptoRow : OpenClaim := { program := "ytlhfajmcnbcabaa", sum := "324607869883d093f774c03b03b70fa727a84288ea01fd0593506214474ea0a6", func := "foliate/foliatelaw11.DeltaSmall", spec := "deltaSmall", inPlace := ["internal/abi.NoEscape", "internal/bytealg.MakeNoZero"], unfollowed := true, recurses := true, apart := false, narrowed := true }
def DeltaSmallUptoSaid : Prop := deltaSmallUptoRow.holds Try.pinned (OpenSpec.upto deltaSmallSpec)

/-- 'foliatelaw11.DeltaMakes', WHERE WHAT IT READS IS OF BULK AT MOST 1048576: true; the input reads as it did. -/
def deltaMakesUptoRow : OpenClaim := { program := "ytlhfajmcnbcabaa", sum := "324607869883d093f774c03b03b70fa727a84288ea01fd0593506214474ea0a6", func := "foliate/foliatelaw11.DeltaMakes", spec := "deltaMakes", inPlace := ["internal/abi.NoEscape", "internal/bytealg.MakeNoZero"], unfollowed := true, recurses := true, apart := false, narrowed := true }
def DeltaMakesUptoSaid : Prop := deltaMakesUptoRow.holds Try.pinned (OpenSpec.upto deltaMakesSpec)

/-- 'foliatelaw13.GradeWide', WHERE WHAT IT READS IS OF BULK AT MOST 1048576: true; the input reads as it did. -/
def gradeWideUptoRow : OpenClaim := { program := "ytlhfajmcnbcabaa", sum := "324607869883d093f774c03b03b70fa727a84288ea01fd0593506214474ea0a6", func := "foliate/foliatelaw13.GradeWide", spec := "gradeWide", inPlace := ["internal/abi.NoEscape", "internal/bytealg.MakeNoZero"], unfollowed := true, recurses := true, apart := false, narrowed := true }
def GradeWideUptoSaid : Prop := gradeWideUptoRow.holds Try.pinned (OpenSpec.upto gradeWideSpec)

/-- 'foliatelaw14.DiffBoth', WHERE WHAT IT READS IS OF BULK AT MOST 1048576: true; the input reads as it did. -/
def diffBothUptoRow : OpenClaim := { program := "ytlhfajmcnbcabaa", sum := "324607869883d093f774c03b03b70fa727a84288ea01fd0593506214474ea0a6", func := "foliate/foliatelaw14.DiffBoth", spec := "diffBoth", unfollowed := true, recurses := true, apart := false, narrowed := true }
def DiffBothUptoSaid : Prop := diffBothUptoRow.holds Try.pinned (OpenSpec.upto diffBothSpec)

/-- 'foliatelaw15.MergeClashes', WHERE WHAT IT READS IS OF BULK AT MOST 1048576: true; the input reads as it did. -/
def mergeClashesUptoRow : OpenClaim := { program := "ytlhfajmcnbcabaa", sum := "324607869883d093f774c03b03b70fa727a84288ea01fd0593506214474ea0a6", func := "foliate/foliatelaw15.MergeClashes", spec := "mergeClashes", unfollowed := true, recurses := true, apart := false, narrowed := true }
def MergeClashesUptoSaid : Prop := mergeClashesUptoRow.holds Try.pinned (OpenSpec.upto mergeClashesSpec)

/-- 'foliatelaw15.MergeClash', WHERE WHAT IT READS IS OF BULK AT MOST 1048576: true; the input reads as it did. -/
def mergeClashUptoRow : OpenClaim := { program := "ytlhfajmcnbcabaa", sum := "324607869883d093f774c03b03b70fa727a84288ea01fd0593506214474ea0a6", func := "foliate/foliatelaw15.MergeClash", spec := "mergeClash", unfollowed := true, recurses := true, apart := false, narrowed := true }
def MergeClashUptoSaid : Prop := mergeClashUptoRow.holds Try.pinned (OpenSpec.upto mergeClashSpec)

end Rows
end Go.Proofs.Ytlhfajmcnbcabaa
