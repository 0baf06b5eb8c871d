/-
  No cell of these rows narrows 'for every input' (looked for: loops, veiled, ifaces, maps, wideKeys, modest, calm, conditions, laid).
  DERIVED. THE GIVEN ROWS OF THIS SEAT. 13 by the template 'for every input the law returns true; each argument reads behind the call as it read before'; 0 by the template 'total and deterministic' (their statements: YtahphlcahaheiaaTotals.lean).
  GIVEN WITH THE SEED: the statements are not yours to turn. If you find one false, say at which input.
  Laid BY PROGRAM, IN A SANDBOX (cutbox-rows.mjs): the forced cells as the released guide's own fill.sh prints them over the translation 6544237275301ea4… (all of the seat's roots in one cut). By AI agents, Wed Nov 11 2026. No macro, syntax, notation, axiom, sorry.
-/
import Derived.Test.YtahphlcahaheiaaChecked
import GoSem.Claim
import GoSem.ClaimJoined
import GoSem.ClaimMapViews
import Derived.JoinedTies
import Derived.KernelRfl
namespace Go.Proofs.Ytahphlcahaheiaa
/- THE CELL 'sum', in the pinned program and in every row, IS THE sha256 OF THE DUMP (.gsa) THAT YtahphlcahaheiaaProg.lean LOADS. Nothing in Lean hashes anything: it is a label: what it is worth is what the hold of that sum in a sandbox is worth. -/
noncomputable def Try.pinned : Pinned := { name := "ytahphlcahaheiaa", sum := "6544237275301ea49f46c37259ca8f07d3dfc749540a68415e369c6acc2b0518", checked := Try.checked }
namespace Rows
def none {H : Type} : Left H := { results := [], args := [] }

/-- 'sectimelaw08.OnetimeDigits': WHATEVER THE INPUT: true; the input reads as it did. -/
def onetimeDigitsSpec : ChangeSpec := { name := "onetimeDigits", fn := fun _ => fun
  | [d1, d2] => { results := [.lit (.bool true)], args := [d1, d2] }
  | _ => none }
def onetimeDigitsRow : OpenClaim := { program := "ytahphlcahaheiaa", sum := "6544237275301ea49f46c37259ca8f07d3dfc749540a68415e369c6acc2b0518", func := "sectime/sectimelaw08.OnetimeDigits", spec := "onetimeDigits", apart := false }
def OnetimeDigitsSaid : Prop := onetimeDigitsRow.holds Try.pinned (OpenSpec.ofChange onetimeDigitsSpec)

/-- ITS FALSE NEIGHBOUR: 'it returns false'. Refute it at one input. -/
def onetimeDigitsWrong : ChangeSpec := { name := "onetimeDigits", fn := fun _ => fun
  | [d1, d2] => { results := [.lit (.bool false)], args := [d1, d2] }
  | _ => none }
def OnetimeDigitsWrongFalsely : Prop := onetimeDigitsRow.holds Try.pinned (OpenSpec.ofChange onetimeDigitsWrong)

/-- 'sectimelaw08.OnetimeRefuses': WHATEVER THE INPUT: true; the input reads as it did. -/
def onetimeRefusesSpec : ChangeSpec := { name := "onetimeRefuses", fn := fun _ => fun
  | [d1, d2, d3] => { results := [.lit (.bool true)], args := [d1, d2, d3] }
  | _ => none }
def onetimeRefusesRow : OpenClaim := { program := "ytahphlcahaheiaa", sum := "6544237275301ea49f46c37259ca8f07d3dfc749540a68415e369c6acc2b0518", func := "sectime/sectimelaw08.OnetimeRefuses", spec := "onetimeRefuses", apart := false }
def OnetimeRefusesSaid : Prop := onetimeRefusesRow.holds Try.pinned (OpenSpec.ofChange onetimeRefusesSpec)

/-- ITS FALSE NEIGHBOUR: 'it returns false'. Refute it at one input. -/
def onetimeRefusesWrong : ChangeSpec := { name := "onetimeRefuses", fn := fun _ => fun
  | [d1, d2, d3] => { results := [.lit (.bool false)], args := [d1, d2, d3] }
  | _ => none }
def OnetimeRefusesWrongFalsely : Prop := onetimeRefusesRow.holds Try.pinned (OpenSpec.ofChange onetimeRefusesWrong)

/-- 'sectimelaw08.OnetimeChains': WHATEVER THE INPUT: true; the input reads as it did. -/
def onetimeChainsSpec : ChangeSpec := { name := "onetimeChains", fn := fun _ => fun
  | [d1, d2, d3, d4] => { results := [.lit (.bool true)], args := [d1, d2, d3, d4] }
  | _ => none }
def onetimeChainsRow : OpenClaim := { program := "ytahphlcahaheiaa", sum := "6544237275301ea49f46c37259ca8f07d3dfc749540a68415e369c6acc2b0518", func := "sectime/sectimelaw08.OnetimeChains", spec := "onetimeChains", apart := false }
def OnetimeChainsSaid : Prop := onetimeChainsRow.holds Try.pinned (OpenSpec.ofChange onetimeChainsSpec)

/-- ITS FALSE NEIGHBOUR: 'it returns false'. Refute it at one input. -/
def onetimeChainsWrong : ChangeSpec := { name := "onetimeChains", fn := fun _ => fun
  | [d1, d2, d3, d4] => { results := [.lit (.bool false)], args := [d1, d2, d3, d4] }
  | _ => none }
def OnetimeChainsWrongFalsely : Prop := onetimeChainsRow.holds Try.pinned (OpenSpec.ofChange onetimeChainsWrong)

/-- 'sectimelaw08.OnetimeActs': WHATEVER THE INPUT: true; the input reads as it did. -/
def onetimeActsSpec : ChangeSpec := { name := "onetimeActs", fn := fun _ => fun
  | [d1, d2, d3, d4, d5] => { results := [.lit (.bool true)], args := [d1, d2, d3, d4, d5] }
  | _ => none }
def onetimeActsRow : OpenClaim := { program := "ytahphlcahaheiaa", sum := "6544237275301ea49f46c37259ca8f07d3dfc749540a68415e369c6acc2b0518", func := "sectime/sectimelaw08.OnetimeActs", spec := "onetimeActs", apart := false }
def OnetimeActsSaid : Prop := onetimeActsRow.holds Try.pinned (OpenSpec.ofChange onetimeActsSpec)

/-- ITS FALSE NEIGHBOUR: 'it returns false'. Refute it at one input. -/
def onetimeActsWrong : ChangeSpec := { name := "onetimeActs", fn := fun _ => fun
  | [d1, d2, d3, d4, d5] => { results := [.lit (.bool false)], args := [d1, d2, d3, d4, d5] }
  | _ => none }
def OnetimeActsWrongFalsely : Prop := onetimeActsRow.holds Try.pinned (OpenSpec.ofChange onetimeActsWrong)

/-- 'sectimelaw08.OnetimeRecovers': WHATEVER THE INPUT: true; the input reads as it did. -/
def onetimeRecoversSpec : ChangeSpec := { name := "onetimeRecovers", fn := fun _ => fun
  | [d1, d2, d3] => { results := [.lit (.bool true)], args := [d1, d2, d3] }
  | _ => none }
def onetimeRecoversRow : OpenClaim := { program := "ytahphlcahaheiaa", sum := "6544237275301ea49f46c37259ca8f07d3dfc749540a68415e369c6acc2b0518", func := "sectime/sectimelaw08.OnetimeRecovers", spec := "onetimeRecovers", apart := false }
def OnetimeRecoversSaid : Prop := onetimeRecoversRow.holds Try.pinned (OpenSpec.ofChange onetimeRecoversSpec)

/-- ITS FALSE NEIGHBOUR: 'it returns false'. Refute it at one input. -/
def onetimeRecoversWrong : ChangeSpec := { name := "onetimeRecovers", fn := fun _ => fun
  | [d1, d2, d3] => { results := [.lit (.bool false)], args := [d1, d2, d3] }
  | _ => none }
def OnetimeRecoversWrongFalsely : Prop := onetimeRecoversRow.holds Try.pinned (OpenSpec.ofChange onetimeRecoversWrong)

/-- 'sectimelaw07.TreeSplits': WHATEVER THE INPUT: true; the input reads as it did. -/
def treeSplitsSpec : ChangeSpec := { name := "treeSplits", fn := fun _ => fun
  | [d1, d2] => { results := [.lit (.bool true)], args := [d1, d2] }
  | _ => none }
def treeSplitsRow : OpenClaim := { program := "ytahphlcahaheiaa", sum := "6544237275301ea49f46c37259ca8f07d3dfc749540a68415e369c6acc2b0518", func := "sectime/sectimelaw07.TreeSplits", spec := "treeSplits", inPlace := ["internal/abi.NoEscape"], recurses := true, apart := false }
def TreeSplitsSaid : Prop := treeSplitsRow.holds Try.pinned (OpenSpec.ofChange treeSplitsSpec)

/-- ITS FALSE NEIGHBOUR: 'it returns false'. Refute it at one input. -/
def treeSplitsWrong : ChangeSpec := { name := "treeSplits", fn := fun _ => fun
  | [d1, d2] => { results := [.lit (.bool false)], args := [d1, d2] }
  | _ => none }
def TreeSplitsWrongFalsely : Prop := treeSplitsRow.holds Try.pinned (OpenSpec.ofChange treeSplitsWrong)

/-- 'sectimelaw07.TreeDepths': WHATEVER THE INPUT: true; the input reads as it did. -/
def treeDepthsSpec : ChangeSpec := { name := "treeDepths", fn := fun _ => fun
  | [d1, d2, d3] => { results := [.lit (.bool true)], args := [d1, d2, d3] }
  | _ => none }
def treeDepthsRow : OpenClaim := { program := "ytahphlcahaheiaa", sum := "6544237275301ea49f46c37259ca8f07d3dfc749540a68415e369c6acc2b0518", func := "sectime/sectimelaw07.TreeDepths", spec := "treeDepths", inPlace := ["internal/abi.NoEscape"], recurses := true, apart := false }
def TreeDepthsSaid : Prop := treeDepthsRow.holds Try.pinned (OpenSpec.ofChange treeDepthsSpec)

/-- ITS FALSE NEIGHBOUR: 'it returns false'. Refute it at one input. -/
def treeDepthsWrong : ChangeSpec := { name := "treeDepths", fn := fun _ => fun
  | [d1, d2, d3] => { results := [.lit (.bool false)], args := [d1, d2, d3] }
  | _ => none }
def TreeDepthsWrongFalsely : Prop := treeDepthsRow.holds Try.pinned (OpenSpec.ofChange treeDepthsWrong)

/-- 'sectimelaw07.TreeRefuses': WHATEVER THE INPUT: true; the input reads as it did. -/
def treeRefusesSpec : ChangeSpec := { name := "treeRefuses", fn := fun _ => fun
  | [d1, d2, d3, d4, d5, d6] => { results := [.lit (.bool true)], args := [d1, d2, d3, d4, d5, d6] }
  | _ => none }
def treeRefusesRow : OpenClaim := { program := "ytahphlcahaheiaa", sum := "6544237275301ea49f46c37259ca8f07d3dfc749540a68415e369c6acc2b0518", func := "sectime/sectimelaw07.TreeRefuses", spec := "treeRefuses", inPlace := ["internal/abi.NoEscape"], recurses := true, apart := false }
def TreeRefusesSaid : Prop := treeRefusesRow.holds Try.pinned (OpenSpec.ofChange treeRefusesSpec)

/-- ITS FALSE NEIGHBOUR: 'it returns false'. Refute it at one input. -/
def treeRefusesWrong : ChangeSpec := { name := "treeRefuses", fn := fun _ => fun
  | [d1, d2, d3, d4, d5, d6] => { results := [.lit (.bool false)], args := [d1, d2, d3, d4, d5, d6] }
  | _ => none }
def TreeRefusesWrongFalsely : Prop := treeRefusesRow.holds Try.pinned (OpenSpec.ofChange treeRefusesWrong)

/-- 'sectimelaw07.TreeActs': WHATEVER THE INPUT: true; the input reads as it did. -/
def treeActsSpec : ChangeSpec := { name := "treeActs", fn := fun _ => fun
  | [d1, d2, d3] => { results := [.lit (.bool true)], args := [d1, d2, d3] }
  | _ => none }
def treeActsRow : OpenClaim := { program := "ytahphlcahaheiaa", sum := "6544237275301ea49f46c37259ca8f07d3dfc749540a68415e369c6acc2b0518", func := "sectime/sectimelaw07.TreeActs", spec := "treeActs", inPlace := ["internal/abi.NoEscape"], recurses := true, apart := false }
def TreeActsSaid : Prop := treeActsRow.holds Try.pinned (OpenSpec.ofChange treeActsSpec)

/-- ITS FALSE NEIGHBOUR: 'it returns false'. Refute it at one input. -/
def treeActsWrong : ChangeSpec := { name := "treeActs", fn := fun _ => fun
  | [d1, d2, d3] => { results := [.lit (.bool false)], args := [d1, d2, d3] }
  | _ => none }
def TreeActsWrongFalsely : Prop := treeActsRow.holds Try.pinned (OpenSpec.ofChange treeActsWrong)

/-- 'sectimelaw07.TreePaths': WHATEVER THE INPUT: true; the input reads as it did. -/
def treePathsSpec : ChangeSpec := { name := "treePaths", fn := fun _ => fun
  | [d1, d2, d3] => { results := [.lit (.bool true)], args := [d1, d2, d3] }
  | _ => none }
def treePathsRow : OpenClaim := { program := "ytahphlcahaheiaa", sum := "6544237275301ea49f46c37259ca8f07d3dfc749540a68415e369c6acc2b0518", func := "sectime/sectimelaw07.TreePaths", spec := "treePaths", inPlace := ["internal/abi.NoEscape"], recurses := true, apart := false }
def TreePathsSaid : Prop := treePathsRow.holds Try.pinned (OpenSpec.ofChange treePathsSpec)

/-- ITS FALSE NEIGHBOUR: 'it returns false'. Refute it at one input. -/
def treePathsWrong : ChangeSpec := { name := "treePaths", fn := fun _ => fun
  | [d1, d2, d3] => { results := [.lit (.bool false)], args := [d1, d2, d3] }
  | _ => none }
def TreePathsWrongFalsely : Prop := treePathsRow.holds Try.pinned (OpenSpec.ofChange treePathsWrong)

/-- 'sectimelaw07.TreeGrows': WHATEVER THE INPUT: true; the input reads as it did. -/
def treeGrowsSpec : ChangeSpec := { name := "treeGrows", fn := fun _ => fun
  | [d1, d2, d3, d4] => { results := [.lit (.bool true)], args := [d1, d2, d3, d4] }
  | _ => none }
def treeGrowsRow : OpenClaim := { program := "ytahphlcahaheiaa", sum := "6544237275301ea49f46c37259ca8f07d3dfc749540a68415e369c6acc2b0518", func := "sectime/sectimelaw07.TreeGrows", spec := "treeGrows", inPlace := ["internal/abi.NoEscape"], recurses := true, apart := false }
def TreeGrowsSaid : Prop := treeGrowsRow.holds Try.pinned (OpenSpec.ofChange treeGrowsSpec)

/-- ITS FALSE NEIGHBOUR: 'it returns false'. Refute it at one input. -/
def treeGrowsWrong : ChangeSpec := { name := "treeGrows", fn := fun _ => fun
  | [d1, d2, d3, d4] => { results := [.lit (.bool false)], args := [d1, d2, d3, d4] }
  | _ => none }
def TreeGrowsWrongFalsely : Prop := treeGrowsRow.holds Try.pinned (OpenSpec.ofChange treeGrowsWrong)

/-- 'sectimelaw07.TreeGrowsTwice': WHATEVER THE INPUT: true; the input reads as it did. -/
def treeGrowsTwiceSpec : ChangeSpec := { name := "treeGrowsTwice", fn := fun _ => fun
  | [d1, d2, d3, d4] => { results := [.lit (.bool true)], args := [d1, d2, d3, d4] }
  | _ => none }
def treeGrowsTwiceRow : OpenClaim := { program := "ytahphlcahaheiaa", sum := "6544237275301ea49f46c37259ca8f07d3dfc749540a68415e369c6acc2b0518", func := "sectime/sectimelaw07.TreeGrowsTwice", spec := "treeGrowsTwice", inPlace := ["internal/abi.NoEscape"], recurses := true, apart := false }
def TreeGrowsTwiceSaid : Prop := treeGrowsTwiceRow.holds Try.pinned (OpenSpec.ofChange treeGrowsTwiceSpec)

/-- ITS FALSE NEIGHBOUR: 'it returns false'. Refute it at one input. -/
def treeGrowsTwiceWrong : ChangeSpec := { name := "treeGrowsTwice", fn := fun _ => fun
  | [d1, d2, d3, d4] => { results := [.lit (.bool false)], args := [d1, d2, d3, d4] }
  | _ => none }
def TreeGrowsTwiceWrongFalsely : Prop := treeGrowsTwiceRow.holds Try.pinned (OpenSpec.ofChange treeGrowsTwiceWrong)

/-- 'sectimelaw07.TreeChecks': WHATEVER THE INPUT: true; the input reads as it did. -/
def treeChecksSpec : ChangeSpec := { name := "treeChecks", fn := fun _ => fun
  | [d1, d2, d3, d4, d5, d6, d7] => { results := [.lit (.bool true)], args := [d1, d2, d3, d4, d5, d6, d7] }
  | _ => none }
def treeChecksRow : OpenClaim := { program := "ytahphlcahaheiaa", sum := "6544237275301ea49f46c37259ca8f07d3dfc749540a68415e369c6acc2b0518", func := "sectime/sectimelaw07.TreeChecks", spec := "treeChecks", inPlace := ["internal/abi.NoEscape"], recurses := true, apart := false }
def TreeChecksSaid : Prop := treeChecksRow.holds Try.pinned (OpenSpec.ofChange treeChecksSpec)

/-- ITS FALSE NEIGHBOUR: 'it returns false'. Refute it at one input. -/
def treeChecksWrong : ChangeSpec := { name := "treeChecks", fn := fun _ => fun
  | [d1, d2, d3, d4, d5, d6, d7] => { results := [.lit (.bool false)], args := [d1, d2, d3, d4, d5, d6, d7] }
  | _ => none }
def TreeChecksWrongFalsely : Prop := treeChecksRow.holds Try.pinned (OpenSpec.ofChange treeChecksWrong)

/- THE SECOND FORM. 'bulk': how many values and letters a reading holds, each counted each time it is reached (what is shared counts as often as it is met; a slice's spare places count too). A statement '..UptoSaid' is the law's where the arguments, and the package variables that the reading takes, are together of bulk at most 1048576: NARROWER than '..Said'. Prove '..Said' where nothing that the law and all that it calls make is longer than what came in: it says more and counts as full. Else prove '..UptoSaid'. A law counts once. -/
mutual
def uptoBulk {H : Type} : DataW H → Nat
  | .lit (.string bytes) => bytes.length + 1
  | .lit _ => 1
  | .nil => 1
  | .ptr d => uptoBulk d + 1
  | .slice elems spare => uptoBulkAll elems + uptoBulkAll spare + 1
  | .agg parts => uptoBulkAll parts + 1
  | .iface _ d => uptoBulk d + 1
  | .map entries => uptoBulkEntries entries + 1
  | .held _ => 1
def uptoBulkAll {H : Type} : List (DataW H) → Nat
  | [] => 0
  | d :: r => uptoBulk d + uptoBulkAll r
def uptoBulkEntries {H : Type} : List (Lit × DataW H) → Nat
  | [] => 0
  | x :: r => uptoBulkEntry x + uptoBulkEntries r
def uptoBulkEntry {H : Type} : Lit × DataW H → Nat
  | (.string bytes, d) => bytes.length + uptoBulk d + 1
  | (_, d) => uptoBulk d + 1
 end
def uptoSmall : (H : Type) → List (DataW H) → Bool := fun _ ds => decide (uptoBulkAll ds ≤ 1048576)
def OpenSpec.upto (s : _root_.Go.ChangeSpec) : _root_.Go.OpenSpec := { _root_.Go.OpenSpec.ofChange s with cond := some uptoSmall }

/-- 'sectimelaw08.OnetimeDigits', WHERE WHAT IT READS IS OF BULK AT MOST 1048576: true; the input reads as it did. -/
def onetimeDigitsUptoRow : OpenClaim := { program := "ytahphlcahaheiaa", sum := "6544237275301ea49f46c37259ca8f07d3dfc749540a68415e369c6acc2b0518", func := "sectime/sectimelaw08.OnetimeDigits", spec := "onetimeDigits", apart := false, narrowed := true }
def OnetimeDigitsUptoSaid : Prop := onetimeDigitsUptoRow.holds Try.pinned (OpenSpec.upto onetimeDigitsSpec)

/-- 'sectimelaw08.OnetimeRefuses', WHERE WHAT IT READS IS OF BULK AT MOST 1048576: true; the input reads as it did. -/
def onetimeRefusesUptoRow : OpenClaim := { program := "ytahphlcahaheiaa", sum := "6544237275301ea49f46c37259ca8f07d3dfc749540a68415e369c6acc2b0518", func := "sectime/sectimelaw08.OnetimeRefuses", spec := "onetimeRefuses", apart := false, narrowed := true }
def OnetimeRefusesUptoSaid : Prop := onetimeRefusesUptoRow.holds Try.pinned (OpenSpec.upto onetimeRefusesSpec)

/-- 'sectimelaw08.OnetimeChains', WHERE WHAT IT READS IS OF BULK AT MOST 1048576: true; the input reads as it did. -/
def onetimeChainsUptoRow : OpenClaim := { program := "ytahphlcahaheiaa", sum := "6544237275301ea49f46c37259ca8f07d3dfc749540a68415e369c6acc2b0518", func := "sectime/sectimelaw08.OnetimeChains", spec := "onetimeChains", apart := false, narrowed := true }
def OnetimeChainsUptoSaid : Prop := onetimeChainsUptoRow.holds Try.pinned (OpenSpec.upto onetimeChainsSpec)

/-- 'sectimelaw08.OnetimeActs', WHERE WHAT IT READS IS OF BULK AT MOST 1048576: true; the input reads as it did. -/
def onetimeActsUptoRow : OpenClaim := { program := "ytahphlcahaheiaa", sum := "6544237275301ea49f46c37259ca8f07d3dfc749540a68415e369c6acc2b0518", func := "sectime/sectimelaw08.OnetimeActs", spec := "onetimeActs", apart := false, narrowed := true }
def OnetimeActsUptoSaid : Prop := onetimeActsUptoRow.holds Try.pinned (OpenSpec.upto onetimeActsSpec)

/-- 'sectimelaw08.OnetimeRecovers', WHERE WHAT IT READS IS OF BULK AT MOST 1048576: true; the input reads as it did. -/
def onetimeRecoversUptoRow : OpenClaim := { program := "ytahphlcahaheiaa", sum := "6544237275301ea49f46c37259ca8f07d3dfc749540a68415e369c6acc2b0518", func := "sectime/sectimelaw08.OnetimeRecovers", spec := "onetimeRecovers", apart := false, narrowed := true }
def OnetimeRecoversUptoSaid : Prop := onetimeRecoversUptoRow.holds Try.pinned (OpenSpec.upto onetimeRecoversSpec)

/-- 'sectimelaw07.TreeSplits', WHERE WHAT IT READS IS OF BULK AT MOST 1048576: true; the input reads as it did. -/
def treeSplitsUptoRow : OpenClaim := { program := "ytahphlcahaheiaa", sum := "6544237275301ea49f46c37259ca8f07d3dfc749540a68415e369c6acc2b0518", func := "sectime/sectimelaw07.TreeSplits", spec := "treeSplits", inPlace := ["internal/abi.NoEscape"], recurses := true, apart := false, narrowed := true }
def TreeSplitsUptoSaid : Prop := treeSplitsUptoRow.holds Try.pinned (OpenSpec.upto treeSplitsSpec)

/-- 'sectimelaw07.TreeDepths', WHERE WHAT IT READS IS OF BULK AT MOST 1048576: true; the input reads as it did. -/
def treeDepthsUptoRow : OpenClaim := { program := "ytahphlcahaheiaa", sum := "6544237275301ea49f46c37259ca8f07d3dfc749540a68415e369c6acc2b0518", func := "sectime/sectimelaw07.TreeDepths", spec := "treeDepths", inPlace := ["internal/abi.NoEscape"], recurses := true, apart := false, narrowed := true }
def TreeDepthsUptoSaid : Prop := treeDepthsUptoRow.holds Try.pinned (OpenSpec.upto treeDepthsSpec)

/-- 'sectimelaw07.TreeRefuses', WHERE WHAT IT READS IS OF BULK AT MOST 1048576: true; the input reads as it did. -/
def treeRefusesUptoRow : OpenClaim := { program := "ytahphlcahaheiaa", sum := "6544237275301ea49f46c37259ca8f07d3dfc749540a68415e369c6acc2b0518", func := "sectime/sectimelaw07.TreeRefuses", spec := "treeRefuses", inPlace := ["internal/abi.NoEscape"], recurses := true, apart := false, narrowed := true }
def TreeRefusesUptoSaid : Prop := treeRefusesUptoRow.holds Try.pinned (OpenSpec.upto treeRefusesSpec)

/-- 'sectimelaw07.TreeActs', WHERE WHAT IT READS IS OF BULK AT MOST 1048576: true; the input reads as it did. -/
def treeActsUptoRow : OpenClaim := { program := "ytahphlcahaheiaa", sum := "6544237275301ea49f46c37259ca8f07d3dfc749540a68415e369c6acc2b0518", func := "sectime/sectimelaw07.TreeActs", spec := "treeActs", inPlace := ["internal/abi.NoEscape"], recurses := true, apart := false, narrowed := true }
def TreeActsUptoSaid : Prop := treeActsUptoRow.holds Try.pinned (OpenSpec.upto treeActsSpec)

/-- 'sectimelaw07.TreePaths', WHERE WHAT IT READS IS OF BULK AT MOST 1048576: true; the input reads as it did. -/
def treePathsUptoRow : OpenClaim := { program := "ytahphlcahaheiaa", sum := "6544237275301ea49f46c37259ca8f07d3dfc749540a68415e369c6acc2b0518", func := "sectime/sectimelaw07.TreePaths", spec := "treePaths", inPlace := ["internal/abi.NoEscape"], recurses := true, apart := false, narrowed := true }
def TreePathsUptoSaid : Prop := treePathsUptoRow.holds Try.pinned (OpenSpec.upto treePathsSpec)

/-- 'sectimelaw07.TreeGrows', WHERE WHAT IT READS IS OF BULK AT MOST 1048576: true; the input reads as it did. -/
def treeGrowsUptoRow : OpenClaim := { program := "ytahphlcahaheiaa", sum := "6544237275301ea49f46c37259ca8f07d3dfc749540a68415e369c6acc2b0518", func := "sectime/sectimelaw07.TreeGrows", spec := "treeGrows", inPlace := ["internal/abi.NoEscape"], recurses := true, apart := false, narrowed := true }
def TreeGrowsUptoSaid : Prop := treeGrowsUptoRow.holds Try.pinned (OpenSpec.upto treeGrowsSpec)

/-- 'sectimelaw07.TreeGrowsTwice', WHERE WHAT IT READS IS OF BULK AT MOST 1048576: true; the input reads as it did. -/
def treeGrowsTwiceUptoRow : OpenClaim := { program := "ytahphlcahaheiaa", sum := "6544237275301ea49f46c37259ca8f07d3dfc749540a68415e369c6acc2b0518", func := "sectime/sectimelaw07.TreeGrowsTwice", spec := "treeGrowsTwice", inPlace := ["internal/abi.NoEscape"], recurses := true, apart := false, narrowed := true }
def TreeGrowsTwiceUptoSaid : Prop := treeGrowsTwiceUptoRow.holds Try.pinned (OpenSpec.upto treeGrowsTwiceSpec)

/-- 'sectimelaw07.TreeChecks', WHERE WHAT IT READS IS OF BULK AT MOST 1048576: true; the input reads as it did. -/
def treeChecksUptoRow : OpenClaim := { program := "ytahphlcahaheiaa", sum := "6544237275301ea49f46c37259ca8f07d3dfc749540a68415e369c6acc2b0518", func := "sectime/sectimelaw07.TreeChecks", spec := "treeChecks", inPlace := ["internal/abi.NoEscape"], recurses := true, apart := false, narrowed := true }
def TreeChecksUptoSaid : Prop := treeChecksUptoRow.holds Try.pinned (OpenSpec.upto treeChecksSpec)

end Rows
end Go.Proofs.Ytahphlcahaheiaa
