/-
  No cell of these rows narrows 'for every input' (looked for: loops, veiled, ifaces, maps, wideKeys, modest, calm, conditions, laid).
  DERIVED. THE GIVEN ROWS OF THIS SEAT. 10 by the template 'for every input the law returns true; each argument reads behind the call as it read before'; 0 by the template 'total and deterministic' (their statements: YtbjmojajhkhekaaTotals.lean).
  GIVEN WITH THE SEED: the statements are not yours to turn. If you find one false, say at which input.
  Laid BY PROGRAM, IN A SANDBOX (cutbox-rows.mjs): the forced cells as the released guide's own fill.sh prints them over the translation 34cacb903e4dc5b8… (all of the seat's roots in one cut). By AI agents, Wed Nov 11 2026. No macro, syntax, notation, axiom, sorry.
-/
import Derived.Test.YtbjmojajhkhekaaChecked
import GoSem.Claim
import GoSem.ClaimJoined
import GoSem.ClaimMapViews
import Derived.JoinedTies
import Derived.KernelRfl
namespace Go.Proofs.Ytbjmojajhkhekaa
/- THE CELL 'sum', in the pinned program and in every row, IS THE sha256 OF THE DUMP (.gsa) THAT YtbjmojajhkhekaaProg.lean LOADS. Nothing in Lean hashes anything: it is a label: what it is worth is what the hold of that sum in a sandbox is worth. -/
noncomputable def Try.pinned : Pinned := { name := "ytbjmojajhkhekaa", sum := "34cacb903e4dc5b8534e6deecbe15974d152dd6944b6bb39e9ed8e6af3831cec", checked := Try.checked }
namespace Rows
def none {H : Type} : Left H := { results := [], args := [] }

/-- 'sectimelaw28.RoughEncodes': WHATEVER THE INPUT: true; the input reads as it did. -/
def roughEncodesSpec : ChangeSpec := { name := "roughEncodes", fn := fun _ => fun
  | [d1, d2, d3] => { results := [.lit (.bool true)], args := [d1, d2, d3] }
  | _ => none }
def roughEncodesRow : OpenClaim := { program := "ytbjmojajhkhekaa", sum := "34cacb903e4dc5b8534e6deecbe15974d152dd6944b6bb39e9ed8e6af3831cec", func := "sectime/sectimelaw28.RoughEncodes", spec := "roughEncodes", unfollowed := true, recurses := true, apart := false }
def RoughEncodesSaid : Prop := roughEncodesRow.holds Try.pinned (OpenSpec.ofChange roughEncodesSpec)

/-- ITS FALSE NEIGHBOUR: 'it returns false'. Refute it at one input. -/
def roughEncodesWrong : ChangeSpec := { name := "roughEncodes", fn := fun _ => fun
  | [d1, d2, d3] => { results := [.lit (.bool false)], args := [d1, d2, d3] }
  | _ => none }
def RoughEncodesWrongFalsely : Prop := roughEncodesRow.holds Try.pinned (OpenSpec.ofChange roughEncodesWrong)

/-- 'sectimelaw39.PersistSaves': WHATEVER THE INPUT: true; the input reads as it did. -/
def persistSavesSpec : ChangeSpec := { name := "persistSaves", fn := fun _ => fun
  | [d] => { results := [.lit (.bool true)], args := [d] }
  | _ => none }
def persistSavesRow : OpenClaim := { program := "ytbjmojajhkhekaa", sum := "34cacb903e4dc5b8534e6deecbe15974d152dd6944b6bb39e9ed8e6af3831cec", func := "sectime/sectimelaw39.PersistSaves", spec := "persistSaves", unfollowed := true, recurses := true, apart := false }
def PersistSavesSaid : Prop := persistSavesRow.holds Try.pinned (OpenSpec.ofChange persistSavesSpec)

/-- ITS FALSE NEIGHBOUR: 'it returns false'. Refute it at one input. -/
def persistSavesWrong : ChangeSpec := { name := "persistSaves", fn := fun _ => fun
  | [d] => { results := [.lit (.bool false)], args := [d] }
  | _ => none }
def PersistSavesWrongFalsely : Prop := persistSavesRow.holds Try.pinned (OpenSpec.ofChange persistSavesWrong)

/-- 'sectimelaw39.PersistLoads': WHATEVER THE INPUT: true; the input reads as it did. -/
def persistLoadsSpec : ChangeSpec := { name := "persistLoads", fn := fun _ => fun
  | [d1, d2, d3, d4] => { results := [.lit (.bool true)], args := [d1, d2, d3, d4] }
  | _ => none }
def persistLoadsRow : OpenClaim := { program := "ytbjmojajhkhekaa", sum := "34cacb903e4dc5b8534e6deecbe15974d152dd6944b6bb39e9ed8e6af3831cec", func := "sectime/sectimelaw39.PersistLoads", spec := "persistLoads", unfollowed := true, recurses := true, apart := false }
def PersistLoadsSaid : Prop := persistLoadsRow.holds Try.pinned (OpenSpec.ofChange persistLoadsSpec)

/-- ITS FALSE NEIGHBOUR: 'it returns false'. Refute it at one input. -/
def persistLoadsWrong : ChangeSpec := { name := "persistLoads", fn := fun _ => fun
  | [d1, d2, d3, d4] => { results := [.lit (.bool false)], args := [d1, d2, d3, d4] }
  | _ => none }
def PersistLoadsWrongFalsely : Prop := persistLoadsRow.holds Try.pinned (OpenSpec.ofChange persistLoadsWrong)

/-- 'sectimelaw28.RoughReadsBack': WHATEVER THE INPUT: true; the input reads as it did. -/
def roughReadsBackSpec : ChangeSpec := { name := "roughReadsBack", fn := fun _ => fun
  | [d1, d2] => { results := [.lit (.bool true)], args := [d1, d2] }
  | _ => none }
def roughReadsBackRow : OpenClaim := { program := "ytbjmojajhkhekaa", sum := "34cacb903e4dc5b8534e6deecbe15974d152dd6944b6bb39e9ed8e6af3831cec", func := "sectime/sectimelaw28.RoughReadsBack", spec := "roughReadsBack", unfollowed := true, recurses := true, apart := false }
def RoughReadsBackSaid : Prop := roughReadsBackRow.holds Try.pinned (OpenSpec.ofChange roughReadsBackSpec)

/-- ITS FALSE NEIGHBOUR: 'it returns false'. Refute it at one input. -/
def roughReadsBackWrong : ChangeSpec := { name := "roughReadsBack", fn := fun _ => fun
  | [d1, d2] => { results := [.lit (.bool false)], args := [d1, d2] }
  | _ => none }
def RoughReadsBackWrongFalsely : Prop := roughReadsBackRow.holds Try.pinned (OpenSpec.ofChange roughReadsBackWrong)

/-- 'sectimelaw39.PersistChoosesTheNewest': WHATEVER THE INPUT: true; the input reads as it did. -/
def persistChoosesTheNewestSpec : ChangeSpec := { name := "persistChoosesTheNewest", fn := fun _ => fun
  | [d1, d2, d3, d4] => { results := [.lit (.bool true)], args := [d1, d2, d3, d4] }
  | _ => none }
def persistChoosesTheNewestRow : OpenClaim := { program := "ytbjmojajhkhekaa", sum := "34cacb903e4dc5b8534e6deecbe15974d152dd6944b6bb39e9ed8e6af3831cec", func := "sectime/sectimelaw39.PersistChoosesTheNewest", spec := "persistChoosesTheNewest", unfollowed := true, recurses := true, apart := false }
def PersistChoosesTheNewestSaid : Prop := persistChoosesTheNewestRow.holds Try.pinned (OpenSpec.ofChange persistChoosesTheNewestSpec)

/-- ITS FALSE NEIGHBOUR: 'it returns false'. Refute it at one input. -/
def persistChoosesTheNewestWrong : ChangeSpec := { name := "persistChoosesTheNewest", fn := fun _ => fun
  | [d1, d2, d3, d4] => { results := [.lit (.bool false)], args := [d1, d2, d3, d4] }
  | _ => none }
def PersistChoosesTheNewestWrongFalsely : Prop := persistChoosesTheNewestRow.holds Try.pinned (OpenSpec.ofChange persistChoosesTheNewestWrong)

/-- 'sectimelaw39.PersistSurvivesTornWrites': WHATEVER THE INPUT: true; the input reads as it did. -/
def persistSurvivesTornWritesSpec : ChangeSpec := { name := "persistSurvivesTornWrites", fn := fun _ => fun
  | [d1, d2] => { results := [.lit (.bool true)], args := [d1, d2] }
  | _ => none }
def persistSurvivesTornWritesRow : OpenClaim := { program := "ytbjmojajhkhekaa", sum := "34cacb903e4dc5b8534e6deecbe15974d152dd6944b6bb39e9ed8e6af3831cec", func := "sectime/sectimelaw39.PersistSurvivesTornWrites", spec := "persistSurvivesTornWrites", unfollowed := true, recurses := true, apart := false }
def PersistSurvivesTornWritesSaid : Prop := persistSurvivesTornWritesRow.holds Try.pinned (OpenSpec.ofChange persistSurvivesTornWritesSpec)

/-- ITS FALSE NEIGHBOUR: 'it returns false'. Refute it at one input. -/
def persistSurvivesTornWritesWrong : ChangeSpec := { name := "persistSurvivesTornWrites", fn := fun _ => fun
  | [d1, d2] => { results := [.lit (.bool false)], args := [d1, d2] }
  | _ => none }
def PersistSurvivesTornWritesWrongFalsely : Prop := persistSurvivesTornWritesRow.holds Try.pinned (OpenSpec.ofChange persistSurvivesTornWritesWrong)

/-- 'sectimelaw28.RoughDecodes': WHATEVER THE INPUT: true; the input reads as it did. -/
def roughDecodesSpec : ChangeSpec := { name := "roughDecodes", fn := fun _ => fun
  | [d1, d2, d3, d4, d5] => { results := [.lit (.bool true)], args := [d1, d2, d3, d4, d5] }
  | _ => none }
def roughDecodesRow : OpenClaim := { program := "ytbjmojajhkhekaa", sum := "34cacb903e4dc5b8534e6deecbe15974d152dd6944b6bb39e9ed8e6af3831cec", func := "sectime/sectimelaw28.RoughDecodes", spec := "roughDecodes", unfollowed := true, recurses := true, apart := false }
def RoughDecodesSaid : Prop := roughDecodesRow.holds Try.pinned (OpenSpec.ofChange roughDecodesSpec)

/-- ITS FALSE NEIGHBOUR: 'it returns false'. Refute it at one input. -/
def roughDecodesWrong : ChangeSpec := { name := "roughDecodes", fn := fun _ => fun
  | [d1, d2, d3, d4, d5] => { results := [.lit (.bool false)], args := [d1, d2, d3, d4, d5] }
  | _ => none }
def RoughDecodesWrongFalsely : Prop := roughDecodesRow.holds Try.pinned (OpenSpec.ofChange roughDecodesWrong)

/-- 'sectimelaw28.RoughRequests': WHATEVER THE INPUT: true; the input reads as it did. -/
def roughRequestsSpec : ChangeSpec := { name := "roughRequests", fn := fun _ => fun
  | [d1, d2, d3, d4] => { results := [.lit (.bool true)], args := [d1, d2, d3, d4] }
  | _ => none }
def roughRequestsRow : OpenClaim := { program := "ytbjmojajhkhekaa", sum := "34cacb903e4dc5b8534e6deecbe15974d152dd6944b6bb39e9ed8e6af3831cec", func := "sectime/sectimelaw28.RoughRequests", spec := "roughRequests", unfollowed := true, recurses := true, apart := false }
def RoughRequestsSaid : Prop := roughRequestsRow.holds Try.pinned (OpenSpec.ofChange roughRequestsSpec)

/-- ITS FALSE NEIGHBOUR: 'it returns false'. Refute it at one input. -/
def roughRequestsWrong : ChangeSpec := { name := "roughRequests", fn := fun _ => fun
  | [d1, d2, d3, d4] => { results := [.lit (.bool false)], args := [d1, d2, d3, d4] }
  | _ => none }
def RoughRequestsWrongFalsely : Prop := roughRequestsRow.holds Try.pinned (OpenSpec.ofChange roughRequestsWrong)

/-- 'sectimelaw39.PersistWakes': WHATEVER THE INPUT: true; the input reads as it did. -/
def persistWakesSpec : ChangeSpec := { name := "persistWakes", fn := fun _ => fun
  | [d1, d2, d3, d4] => { results := [.lit (.bool true)], args := [d1, d2, d3, d4] }
  | _ => none }
def persistWakesRow : OpenClaim := { program := "ytbjmojajhkhekaa", sum := "34cacb903e4dc5b8534e6deecbe15974d152dd6944b6bb39e9ed8e6af3831cec", func := "sectime/sectimelaw39.PersistWakes", spec := "persistWakes", unfollowed := true, recurses := true, apart := false }
def PersistWakesSaid : Prop := persistWakesRow.holds Try.pinned (OpenSpec.ofChange persistWakesSpec)

/-- ITS FALSE NEIGHBOUR: 'it returns false'. Refute it at one input. -/
def persistWakesWrong : ChangeSpec := { name := "persistWakes", fn := fun _ => fun
  | [d1, d2, d3, d4] => { results := [.lit (.bool false)], args := [d1, d2, d3, d4] }
  | _ => none }
def PersistWakesWrongFalsely : Prop := persistWakesRow.holds Try.pinned (OpenSpec.ofChange persistWakesWrong)

/-- 'sectimelaw39.PersistContainsTruth': WHATEVER THE INPUT: true; the input reads as it did. -/
def persistContainsTruthSpec : ChangeSpec := { name := "persistContainsTruth", fn := fun _ => fun
  | [d] => { results := [.lit (.bool true)], args := [d] }
  | _ => none }
def persistContainsTruthRow : OpenClaim := { program := "ytbjmojajhkhekaa", sum := "34cacb903e4dc5b8534e6deecbe15974d152dd6944b6bb39e9ed8e6af3831cec", func := "sectime/sectimelaw39.PersistContainsTruth", spec := "persistContainsTruth", unfollowed := true, recurses := true, apart := false }
def PersistContainsTruthSaid : Prop := persistContainsTruthRow.holds Try.pinned (OpenSpec.ofChange persistContainsTruthSpec)

/-- ITS FALSE NEIGHBOUR: 'it returns false'. Refute it at one input. -/
def persistContainsTruthWrong : ChangeSpec := { name := "persistContainsTruth", fn := fun _ => fun
  | [d] => { results := [.lit (.bool false)], args := [d] }
  | _ => none }
def PersistContainsTruthWrongFalsely : Prop := persistContainsTruthRow.holds Try.pinned (OpenSpec.ofChange persistContainsTruthWrong)

/- THE SECOND FORM. 'bulk': how many values and letters a reading holds, each counted each time it is reached (what is shared counts as often as it is met; a slice's spare places count too). A statement '..UptoSaid' is the law's where the arguments, and the package variables that the reading takes, are together of bulk at most 1048576: NARROWER than '..Said'. Prove '..Said' where nothing that the law and all that it calls make is longer than what came in: it says more and counts as full. Else prove '..UptoSaid'. A law counts once. -/
mutual
def uptoBulk {H : Type} : DataW H → Nat
  | .lit (.string bytes) => bytes.length + 1
  | .lit _ => 1
  | .nil => 1
  | .ptr d => uptoBulk d + 1
  | .slice elems spare => uptoBulkAll elems + uptoBulkAll spare + 1
  | .agg parts => uptoBulkAll parts + 1
  | .iface _ d => uptoBulk d + 1
  | .map entries => uptoBulkEntries entries + 1
  | .held _ => 1
def uptoBulkAll {H : Type} : List (DataW H) → Nat
  | [] => 0
  | d :: r => uptoBulk d + uptoBulkAll r
def uptoBulkEntries {H : Type} : List (Lit × DataW H) → Nat
  | [] => 0
  | x :: r => uptoBulkEntry x + uptoBulkEntries r
def uptoBulkEntry {H : Type} : Lit × DataW H → Nat
  | (.string bytes, d) => bytes.length + uptoBulk d + 1
  | (_, d) => uptoBulk d + 1
 end
def uptoSmall : (H : Type) → List (DataW H) → Bool := fun _ ds => decide (uptoBulkAll ds ≤ 1048576)
def OpenSpec.upto (s : _root_.Go.ChangeSpec) : _root_.Go.OpenSpec := { _root_.Go.OpenSpec.ofChange s with cond := some uptoSmall }

/-- 'sectimelaw28.RoughEncodes', WHERE WHAT IT READS IS OF BULK AT MOST 1048576: true; the input reads as it did. -/
def roughEncodesUptoRow : OpenClaim := { program := "ytbjmojajhkhekaa", sum := "34cacb903e4dc5b8534e6deecbe15974d152dd6944b6bb39e9ed8e6af3831cec", func := "sectime/sectimelaw28.RoughEncodes", spec := "roughEncodes", unfollowed := true, recurses := true, apart := false, narrowed := true }
def RoughEncodesUptoSaid : Prop := roughEncodesUptoRow.holds Try.pinned (OpenSpec.upto roughEncodesSpec)

/-- 'sectimelaw39.PersistSaves', WHERE WHAT IT READS IS OF BULK AT MOST 1048576: true; the input reads as it did. -/
def persistSavesUptoRow : OpenClaim := { program := "ytbjmojajhkhekaa", sum := "34cacb903e4dc5b8534e6deecbe15974d152dd6944b6bb39e9ed8e6af3831cec", func := "sectime/sectimelaw39.PersistSaves", spec := "persistSaves", unfollowed := true, recurses := true, apart := false, narrowed := true }
def PersistSavesUptoSaid : Prop := persistSavesUptoRow.holds Try.pinned (OpenSpec.upto persistSavesSpec)

/-- 'sectimelaw39.PersistLoads', WHERE WHAT IT READS IS OF BULK AT MOST 1048576: true; the input reads as it did. -/
def persistLoadsUptoRow : OpenClaim := { program := "ytbjmojajhkhekaa", sum := "34cacb903e4dc5b8534e6deecbe15974d152dd6944b6bb39e9ed8e6af3831cec", func := "sectime/sectimelaw39.PersistLoads", spec := "persistLoads", unfollowed := true, recurses := true, apart := false, narrowed := true }
def PersistLoadsUptoSaid : Prop := persistLoadsUptoRow.holds Try.pinned (OpenSpec.upto persistLoadsSpec)

/-- 'sectimelaw28.RoughReadsBack', WHERE WHAT IT READS IS OF BULK AT MOST 1048576: true; the input reads as it did. -/
def roughReadsBackUptoRow : OpenClaim := { program := "ytbjmojajhkhekaa", sum := "34cacb903e4dc5b8534e6deecbe15974d152dd6944b6bb39e9ed8e6af3831cec", func := "sectime/sectimelaw28.RoughReadsBack", spec := "roughReadsBack", unfollowed := true, recurses := true, apart := false, narrowed := true }
def RoughReadsBackUptoSaid : Prop := roughReadsBackUptoRow.holds Try.pinned (OpenSpec.upto roughReadsBackSpec)

/-- 'sectimelaw39.PersistChoosesTheNewest', WHERE WHAT IT READS IS OF BULK AT MOST 1048576: true; the input reads as it did. -/
def persistChoosesTheNewestUptoRow : OpenClaim := { program := "ytbjmojajhkhekaa", sum := "34cacb903e4dc5b8534e6deecbe15974d152dd6944b6bb39e9ed8e6af3831cec", func := "sectime/sectimelaw39.PersistChoosesTheNewest", spec := "persistChoosesTheNewest", unfollowed := true, recurses := true, apart := false, narrowed := true }
def PersistChoosesTheNewestUptoSaid : Prop := persistChoosesTheNewestUptoRow.holds Try.pinned (OpenSpec.upto persistChoosesTheNewestSpec)

/-- 'sectimelaw39.PersistSurvivesTornWrites', WHERE WHAT IT READS IS OF BULK AT MOST 1048576: true; the input reads as it did. -/
def persistSurvivesTornWritesUptoRow : OpenClaim := { program := "ytbjmojajhkhekaa", sum := "34cacb903e4dc5b8534e6deecbe15974d152dd6944b6bb39e9ed8e6af3831cec", func := "sectime/sectimelaw39.PersistSurvivesTornWrites", spec := "persistSurvivesTornWrites", unfollowed := true, recurses := true, apart := false, narrowed := true }
def PersistSurvivesTornWritesUptoSaid : Prop := persistSurvivesTornWritesUptoRow.holds Try.pinned (OpenSpec.upto persistSurvivesTornWritesSpec)

/-- 'sectimelaw28.RoughDecodes', WHERE WHAT IT READS IS OF BULK AT MOST 1048576: true; the input reads as it did. -/
def roughDecodesUptoRow : OpenClaim := { program := "ytbjmojajhkhekaa", sum := "34cacb903e4dc5b8534e6deecbe15974d152dd6944b6bb39e9ed8e6af3831cec", func := "sectime/sectimelaw28.RoughDecodes", spec := "roughDecodes", unfollowed := true, recurses := true, apart := false, narrowed := true }
def RoughDecodesUptoSaid : Prop := roughDecodesUptoRow.holds Try.pinned (OpenSpec.upto roughDecodesSpec)

/-- 'sectimelaw28.RoughRequests', WHERE WHAT IT READS IS OF BULK AT MOST 1048576: true; the input reads as it did. -/
def roughRequestsUptoRow : OpenClaim := { program := "ytbjmojajhkhekaa", sum := "34cacb903e4dc5b8534e6deecbe15974d152dd6944b6bb39e9ed8e6af3831cec", func := "sectime/sectimelaw28.RoughRequests", spec := "roughRequests", unfollowed := true, recurses := true, apart := false, narrowed := true }
def RoughRequestsUptoSaid : Prop := roughRequestsUptoRow.holds Try.pinned (OpenSpec.upto roughRequestsSpec)

/-- 'sectimelaw39.PersistWakes', WHERE WHAT IT READS IS OF BULK AT MOST 1048576: true; the input reads as it did. -/
def persistWakesUptoRow : OpenClaim := { program := "ytbjmojajhkhekaa", sum := "34cacb903e4dc5b8534e6deecbe15974d152dd6944b6bb39e9ed8e6af3831cec", func := "sectime/sectimelaw39.PersistWakes", spec := "persistWakes", unfollowed := true, recurses := true, apart := false, narrowed := true }
def PersistWakesUptoSaid : Prop := persistWakesUptoRow.holds Try.pinned (OpenSpec.upto persistWakesSpec)

/-- 'sectimelaw39.PersistContainsTruth', WHERE WHAT IT READS IS OF BULK AT MOST 1048576: true; the input reads as it did. -/
def persistContainsTruthUptoRow : OpenClaim := { program := "ytbjmojajhkhekaa", sum := "34cacb903e4dc5b8534e6deecbe15974d152dd6944b6bb39e9ed8e6af3831cec", func := "sectime/sectimelaw39.PersistContainsTruth", spec := "persistContainsTruth", unfollowed := true, recurses := true, apart := false, narrowed := true }
def PersistContainsTruthUptoSaid : Prop := persistContainsTruthUptoRow.holds Try.pinned (OpenSpec.upto persistContainsTruthSpec)

end Rows
end Go.Proofs.Ytbjmojajhkhekaa
