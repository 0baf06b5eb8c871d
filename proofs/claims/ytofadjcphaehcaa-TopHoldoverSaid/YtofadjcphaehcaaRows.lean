/-
  No cell of these rows narrows 'for every input' (looked for: loops, veiled, ifaces, maps, wideKeys, modest, calm, conditions, laid).
  DERIVED. THE GIVEN ROWS OF THIS SEAT. 12 by the template 'for every input the law returns true; each argument reads behind the call as it read before'; 0 by the template 'total and deterministic' (their statements: YtofadjcphaehcaaTotals.lean).
  GIVEN WITH THE SEED: the statements are not yours to turn. If you find one false, say at which input.
  Laid BY PROGRAM, IN A SANDBOX (cutbox-rows.mjs): the forced cells as the released guide's own fill.sh prints them over the translation 39ec315f1a99b280… (all of the seat's roots in one cut). By AI agents, Wed Nov 11 2026. No macro, syntax, notation, axiom, sorry.
-/
import Derived.Test.YtofadjcphaehcaaChecked
import GoSem.Claim
import GoSem.ClaimJoined
import GoSem.ClaimMapViews
import Derived.JoinedTies
import Derived.KernelRfl
namespace Go.Proofs.Ytofadjcphaehcaa
/- THE CELL 'sum', in the pinned program and in every row, IS THE sha256 OF THE DUMP (.gsa) THAT YtofadjcphaehcaaProg.lean LOADS. Nothing in Lean hashes anything: it is a label: what it is worth is what the hold of that sum in a sandbox is worth. -/
noncomputable def Try.pinned : Pinned := { name := "ytofadjcphaehcaa", sum := "39ec315f1a99b2801889053c3a2e5255f7be238b8feb0affa9e312ccc318924c", checked := Try.checked }
namespace Rows
def none {H : Type} : Left H := { results := [], args := [] }

/-- 'sectimelaw01.OctetsRoundTrip': WHATEVER THE INPUT: true; the input reads as it did. -/
def octetsRoundTripSpec : ChangeSpec := { name := "octetsRoundTrip", fn := fun _ => fun
  | [d1, d2, d3] => { results := [.lit (.bool true)], args := [d1, d2, d3] }
  | _ => none }
def octetsRoundTripRow : OpenClaim := { program := "ytofadjcphaehcaa", sum := "39ec315f1a99b2801889053c3a2e5255f7be238b8feb0affa9e312ccc318924c", func := "sectime/sectimelaw01.OctetsRoundTrip", spec := "octetsRoundTrip", inPlace := ["internal/abi.NoEscape"], apart := false }
def OctetsRoundTripSaid : Prop := octetsRoundTripRow.holds Try.pinned (OpenSpec.ofChange octetsRoundTripSpec)

/-- ITS FALSE NEIGHBOUR: 'it returns false'. Refute it at one input. -/
def octetsRoundTripWrong : ChangeSpec := { name := "octetsRoundTrip", fn := fun _ => fun
  | [d1, d2, d3] => { results := [.lit (.bool false)], args := [d1, d2, d3] }
  | _ => none }
def OctetsRoundTripWrongFalsely : Prop := octetsRoundTripRow.holds Try.pinned (OpenSpec.ofChange octetsRoundTripWrong)

/-- 'sectimelaw01.OctetsOrder': WHATEVER THE INPUT: true; the input reads as it did. -/
def octetsOrderSpec : ChangeSpec := { name := "octetsOrder", fn := fun _ => fun
  | [d1, d2, d3] => { results := [.lit (.bool true)], args := [d1, d2, d3] }
  | _ => none }
def octetsOrderRow : OpenClaim := { program := "ytofadjcphaehcaa", sum := "39ec315f1a99b2801889053c3a2e5255f7be238b8feb0affa9e312ccc318924c", func := "sectime/sectimelaw01.OctetsOrder", spec := "octetsOrder", inPlace := ["internal/abi.NoEscape"], apart := false }
def OctetsOrderSaid : Prop := octetsOrderRow.holds Try.pinned (OpenSpec.ofChange octetsOrderSpec)

/-- ITS FALSE NEIGHBOUR: 'it returns false'. Refute it at one input. -/
def octetsOrderWrong : ChangeSpec := { name := "octetsOrder", fn := fun _ => fun
  | [d1, d2, d3] => { results := [.lit (.bool false)], args := [d1, d2, d3] }
  | _ => none }
def OctetsOrderWrongFalsely : Prop := octetsOrderRow.holds Try.pinned (OpenSpec.ofChange octetsOrderWrong)

/-- 'sectimelaw17.ExtensionFinds': WHATEVER THE INPUT: true; the input reads as it did. -/
def extensionFindsSpec : ChangeSpec := { name := "extensionFinds", fn := fun _ => fun
  | [d1, d2, d3] => { results := [.lit (.bool true)], args := [d1, d2, d3] }
  | _ => none }
def extensionFindsRow : OpenClaim := { program := "ytofadjcphaehcaa", sum := "39ec315f1a99b2801889053c3a2e5255f7be238b8feb0affa9e312ccc318924c", func := "sectime/sectimelaw17.ExtensionFinds", spec := "extensionFinds", inPlace := ["internal/abi.NoEscape"], unfollowed := true, recurses := true, apart := false }
def ExtensionFindsSaid : Prop := extensionFindsRow.holds Try.pinned (OpenSpec.ofChange extensionFindsSpec)

/-- ITS FALSE NEIGHBOUR: 'it returns false'. Refute it at one input. -/
def extensionFindsWrong : ChangeSpec := { name := "extensionFinds", fn := fun _ => fun
  | [d1, d2, d3] => { results := [.lit (.bool false)], args := [d1, d2, d3] }
  | _ => none }
def ExtensionFindsWrongFalsely : Prop := extensionFindsRow.holds Try.pinned (OpenSpec.ofChange extensionFindsWrong)

/-- 'sectimelaw01.OctetsHex': WHATEVER THE INPUT: true; the input reads as it did. -/
def octetsHexSpec : ChangeSpec := { name := "octetsHex", fn := fun _ => fun
  | [d1, d2] => { results := [.lit (.bool true)], args := [d1, d2] }
  | _ => none }
def octetsHexRow : OpenClaim := { program := "ytofadjcphaehcaa", sum := "39ec315f1a99b2801889053c3a2e5255f7be238b8feb0affa9e312ccc318924c", func := "sectime/sectimelaw01.OctetsHex", spec := "octetsHex", inPlace := ["internal/abi.NoEscape", "internal/bytealg.IndexByteString"], apart := false }
def OctetsHexSaid : Prop := octetsHexRow.holds Try.pinned (OpenSpec.ofChange octetsHexSpec)

/-- ITS FALSE NEIGHBOUR: 'it returns false'. Refute it at one input. -/
def octetsHexWrong : ChangeSpec := { name := "octetsHex", fn := fun _ => fun
  | [d1, d2] => { results := [.lit (.bool false)], args := [d1, d2] }
  | _ => none }
def OctetsHexWrongFalsely : Prop := octetsHexRow.holds Try.pinned (OpenSpec.ofChange octetsHexWrong)

/-- 'sectimelaw17.ExtensionReadsBack': WHATEVER THE INPUT: true; the input reads as it did. -/
def extensionReadsBackSpec : ChangeSpec := { name := "extensionReadsBack", fn := fun _ => fun
  | [d1, d2] => { results := [.lit (.bool true)], args := [d1, d2] }
  | _ => none }
def extensionReadsBackRow : OpenClaim := { program := "ytofadjcphaehcaa", sum := "39ec315f1a99b2801889053c3a2e5255f7be238b8feb0affa9e312ccc318924c", func := "sectime/sectimelaw17.ExtensionReadsBack", spec := "extensionReadsBack", inPlace := ["internal/abi.NoEscape"], unfollowed := true, recurses := true, apart := false }
def ExtensionReadsBackSaid : Prop := extensionReadsBackRow.holds Try.pinned (OpenSpec.ofChange extensionReadsBackSpec)

/-- ITS FALSE NEIGHBOUR: 'it returns false'. Refute it at one input. -/
def extensionReadsBackWrong : ChangeSpec := { name := "extensionReadsBack", fn := fun _ => fun
  | [d1, d2] => { results := [.lit (.bool false)], args := [d1, d2] }
  | _ => none }
def ExtensionReadsBackWrongFalsely : Prop := extensionReadsBackRow.holds Try.pinned (OpenSpec.ofChange extensionReadsBackWrong)

/-- 'sectimelaw17.ExtensionJoins': WHATEVER THE INPUT: true; the input reads as it did. -/
def extensionJoinsSpec : ChangeSpec := { name := "extensionJoins", fn := fun _ => fun
  | [d1, d2] => { results := [.lit (.bool true)], args := [d1, d2] }
  | _ => none }
def extensionJoinsRow : OpenClaim := { program := "ytofadjcphaehcaa", sum := "39ec315f1a99b2801889053c3a2e5255f7be238b8feb0affa9e312ccc318924c", func := "sectime/sectimelaw17.ExtensionJoins", spec := "extensionJoins", inPlace := ["internal/abi.NoEscape"], unfollowed := true, recurses := true, apart := false }
def ExtensionJoinsSaid : Prop := extensionJoinsRow.holds Try.pinned (OpenSpec.ofChange extensionJoinsSpec)

/-- ITS FALSE NEIGHBOUR: 'it returns false'. Refute it at one input. -/
def extensionJoinsWrong : ChangeSpec := { name := "extensionJoins", fn := fun _ => fun
  | [d1, d2] => { results := [.lit (.bool false)], args := [d1, d2] }
  | _ => none }
def ExtensionJoinsWrongFalsely : Prop := extensionJoinsRow.holds Try.pinned (OpenSpec.ofChange extensionJoinsWrong)

/-- 'sectimelaw01.OctetsFields': WHATEVER THE INPUT: true; the input reads as it did. -/
def octetsFieldsSpec : ChangeSpec := { name := "octetsFields", fn := fun _ => fun
  | [d1, d2] => { results := [.lit (.bool true)], args := [d1, d2] }
  | _ => none }
def octetsFieldsRow : OpenClaim := { program := "ytofadjcphaehcaa", sum := "39ec315f1a99b2801889053c3a2e5255f7be238b8feb0affa9e312ccc318924c", func := "sectime/sectimelaw01.OctetsFields", spec := "octetsFields", inPlace := ["internal/abi.NoEscape"], apart := false }
def OctetsFieldsSaid : Prop := octetsFieldsRow.holds Try.pinned (OpenSpec.ofChange octetsFieldsSpec)

/-- ITS FALSE NEIGHBOUR: 'it returns false'. Refute it at one input. -/
def octetsFieldsWrong : ChangeSpec := { name := "octetsFields", fn := fun _ => fun
  | [d1, d2] => { results := [.lit (.bool false)], args := [d1, d2] }
  | _ => none }
def OctetsFieldsWrongFalsely : Prop := octetsFieldsRow.holds Try.pinned (OpenSpec.ofChange octetsFieldsWrong)

/-- 'sectimelaw01.OctetsReadBack': WHATEVER THE INPUT: true; the input reads as it did. -/
def octetsReadBackSpec : ChangeSpec := { name := "octetsReadBack", fn := fun _ => fun
  | [d1, d2] => { results := [.lit (.bool true)], args := [d1, d2] }
  | _ => none }
def octetsReadBackRow : OpenClaim := { program := "ytofadjcphaehcaa", sum := "39ec315f1a99b2801889053c3a2e5255f7be238b8feb0affa9e312ccc318924c", func := "sectime/sectimelaw01.OctetsReadBack", spec := "octetsReadBack", inPlace := ["internal/abi.NoEscape"], apart := false }
def OctetsReadBackSaid : Prop := octetsReadBackRow.holds Try.pinned (OpenSpec.ofChange octetsReadBackSpec)

/-- ITS FALSE NEIGHBOUR: 'it returns false'. Refute it at one input. -/
def octetsReadBackWrong : ChangeSpec := { name := "octetsReadBack", fn := fun _ => fun
  | [d1, d2] => { results := [.lit (.bool false)], args := [d1, d2] }
  | _ => none }
def OctetsReadBackWrongFalsely : Prop := octetsReadBackRow.holds Try.pinned (OpenSpec.ofChange octetsReadBackWrong)

/-- 'sectimelaw01.OctetsCount': WHATEVER THE INPUT: true; the input reads as it did. -/
def octetsCountSpec : ChangeSpec := { name := "octetsCount", fn := fun _ => fun
  | [d1, d2, d3] => { results := [.lit (.bool true)], args := [d1, d2, d3] }
  | _ => none }
def octetsCountRow : OpenClaim := { program := "ytofadjcphaehcaa", sum := "39ec315f1a99b2801889053c3a2e5255f7be238b8feb0affa9e312ccc318924c", func := "sectime/sectimelaw01.OctetsCount", spec := "octetsCount", inPlace := ["internal/abi.NoEscape"], apart := false }
def OctetsCountSaid : Prop := octetsCountRow.holds Try.pinned (OpenSpec.ofChange octetsCountSpec)

/-- ITS FALSE NEIGHBOUR: 'it returns false'. Refute it at one input. -/
def octetsCountWrong : ChangeSpec := { name := "octetsCount", fn := fun _ => fun
  | [d1, d2, d3] => { results := [.lit (.bool false)], args := [d1, d2, d3] }
  | _ => none }
def OctetsCountWrongFalsely : Prop := octetsCountRow.holds Try.pinned (OpenSpec.ofChange octetsCountWrong)

/-- 'sectimelaw01.OctetsJoin': WHATEVER THE INPUT: true; the input reads as it did. -/
def octetsJoinSpec : ChangeSpec := { name := "octetsJoin", fn := fun _ => fun
  | [d1, d2, d3, d4] => { results := [.lit (.bool true)], args := [d1, d2, d3, d4] }
  | _ => none }
def octetsJoinRow : OpenClaim := { program := "ytofadjcphaehcaa", sum := "39ec315f1a99b2801889053c3a2e5255f7be238b8feb0affa9e312ccc318924c", func := "sectime/sectimelaw01.OctetsJoin", spec := "octetsJoin", inPlace := ["internal/abi.NoEscape"], apart := false }
def OctetsJoinSaid : Prop := octetsJoinRow.holds Try.pinned (OpenSpec.ofChange octetsJoinSpec)

/-- ITS FALSE NEIGHBOUR: 'it returns false'. Refute it at one input. -/
def octetsJoinWrong : ChangeSpec := { name := "octetsJoin", fn := fun _ => fun
  | [d1, d2, d3, d4] => { results := [.lit (.bool false)], args := [d1, d2, d3, d4] }
  | _ => none }
def OctetsJoinWrongFalsely : Prop := octetsJoinRow.holds Try.pinned (OpenSpec.ofChange octetsJoinWrong)

/-- 'sectimelaw17.ExtensionActs': WHATEVER THE INPUT: true; the input reads as it did. -/
def extensionActsSpec : ChangeSpec := { name := "extensionActs", fn := fun _ => fun
  | [d1, d2, d3, d4] => { results := [.lit (.bool true)], args := [d1, d2, d3, d4] }
  | _ => none }
def extensionActsRow : OpenClaim := { program := "ytofadjcphaehcaa", sum := "39ec315f1a99b2801889053c3a2e5255f7be238b8feb0affa9e312ccc318924c", func := "sectime/sectimelaw17.ExtensionActs", spec := "extensionActs", inPlace := ["internal/abi.NoEscape"], unfollowed := true, recurses := true, apart := false }
def ExtensionActsSaid : Prop := extensionActsRow.holds Try.pinned (OpenSpec.ofChange extensionActsSpec)

/-- ITS FALSE NEIGHBOUR: 'it returns false'. Refute it at one input. -/
def extensionActsWrong : ChangeSpec := { name := "extensionActs", fn := fun _ => fun
  | [d1, d2, d3, d4] => { results := [.lit (.bool false)], args := [d1, d2, d3, d4] }
  | _ => none }
def ExtensionActsWrongFalsely : Prop := extensionActsRow.holds Try.pinned (OpenSpec.ofChange extensionActsWrong)

/-- 'sectimetop.TopHoldover': WHATEVER THE INPUT: true; the input reads as it did. -/
def topHoldoverSpec : ChangeSpec := { name := "topHoldover", fn := fun _ => fun
  | [d1, d2, d3, d4, d5, d6] => { results := [.lit (.bool true)], args := [d1, d2, d3, d4, d5, d6] }
  | _ => none }
def topHoldoverRow : OpenClaim := { program := "ytofadjcphaehcaa", sum := "39ec315f1a99b2801889053c3a2e5255f7be238b8feb0affa9e312ccc318924c", func := "sectime/sectimetop.TopHoldover", spec := "topHoldover", unfollowed := true, recurses := true, named := ["math/bits.divideError", "math/bits.overflowError"], apart := false }
def TopHoldoverSaid : Prop := topHoldoverRow.holds Try.pinned (OpenSpec.ofChange topHoldoverSpec)

/-- ITS FALSE NEIGHBOUR: 'it returns false'. Refute it at one input. -/
def topHoldoverWrong : ChangeSpec := { name := "topHoldover", fn := fun _ => fun
  | [d1, d2, d3, d4, d5, d6] => { results := [.lit (.bool false)], args := [d1, d2, d3, d4, d5, d6] }
  | _ => none }
def TopHoldoverWrongFalsely : Prop := topHoldoverRow.holds Try.pinned (OpenSpec.ofChange topHoldoverWrong)

/- THE SECOND FORM. 'bulk': how many values and letters a reading holds, each counted each time it is reached (what is shared counts as often as it is met; a slice's spare places count too). A statement '..UptoSaid' is the law's where the arguments, and the package variables that the reading takes, are together of bulk at most 1048576: NARROWER than '..Said'. Prove '..Said' where nothing that the law and all that it calls make is longer than what came in: it says more and counts as full. Else prove '..UptoSaid'. A law counts once. -/
mutual
def uptoBulk {H : Type} : DataW H → Nat
  | .lit (.string bytes) => bytes.length + 1
  | .lit _ => 1
  | .nil => 1
  | .ptr d => uptoBulk d + 1
  | .slice elems spare => uptoBulkAll elems + uptoBulkAll spare + 1
  | .agg parts => uptoBulkAll parts + 1
  | .iface _ d => uptoBulk d + 1
  | .map entries => uptoBulkEntries entries + 1
  | .held _ => 1
def uptoBulkAll {H : Type} : List (DataW H) → Nat
  | [] => 0
  | d :: r => uptoBulk d + uptoBulkAll r
def uptoBulkEntries {H : Type} : List (Lit × DataW H) → Nat
  | [] => 0
  | x :: r => uptoBulkEntry x + uptoBulkEntries r
def uptoBulkEntry {H : Type} : Lit × DataW H → Nat
  | (.string bytes, d) => bytes.length + uptoBulk d + 1
  | (_, d) => uptoBulk d + 1
 end
def uptoSmall : (H : Type) → List (DataW H) → Bool := fun _ ds => decide (uptoBulkAll ds ≤ 1048576)
def OpenSpec.upto (s : _root_.Go.ChangeSpec) : _root_.Go.OpenSpec := { _root_.Go.OpenSpec.ofChange s with cond := some uptoSmall }

/-- 'sectimelaw01.OctetsRoundTrip', WHERE WHAT IT READS IS OF BULK AT MOST 1048576: true; the input reads as it did. -/
def octetsRoundTripUptoRow : OpenClaim := { program := "ytofadjcphaehcaa", sum := "39ec315f1a99b2801889053c3a2e5255f7be238b8feb0affa9e312ccc318924c", func := "sectime/sectimelaw01.OctetsRoundTrip", spec := "octetsRoundTrip", inPlace := ["internal/abi.NoEscape"], apart := false, narrowed := true }
def OctetsRoundTripUptoSaid : Prop := octetsRoundTripUptoRow.holds Try.pinned (OpenSpec.upto octetsRoundTripSpec)

/-- 'sectimelaw01.OctetsOrder', WHERE WHAT IT READS IS OF BULK AT MOST 1048576: true; the input reads as it did. -/
def octetsOrderUptoRow : OpenClaim := { program := "ytofadjcphaehcaa", sum := "39ec315f1a99b2801889053c3a2e5255f7be238b8feb0affa9e312ccc318924c", func := "sectime/sectimelaw01.OctetsOrder", spec := "octetsOrder", inPlace := ["internal/abi.NoEscape"], apart := false, narrowed := true }
def OctetsOrderUptoSaid : Prop := octetsOrderUptoRow.holds Try.pinned (OpenSpec.upto octetsOrderSpec)

/-- 'sectimelaw17.ExtensionFinds', WHERE WHAT IT READS IS OF BULK AT MOST 1048576: true; the input reads as it did. -/
def extensionFindsUptoRow : OpenClaim := { program := "ytofadjcphaehcaa", sum := "39ec315f1a99b2801889053c3a2e5255f7be238b8feb0affa9e312ccc318924c", func := "sectime/sectimelaw17.ExtensionFinds", spec := "extensionFinds", inPlace := ["internal/abi.NoEscape"], unfollowed := true, recurses := true, apart := false, narrowed := true }
def ExtensionFindsUptoSaid : Prop := extensionFindsUptoRow.holds Try.pinned (OpenSpec.upto extensionFindsSpec)

/-- 'sectimelaw01.OctetsHex', WHERE WHAT IT READS IS OF BULK AT MOST 1048576: true; the input reads as it did. -/
def octetsHexUptoRow : OpenClaim := { program := "ytofadjcphaehcaa", sum := "39ec315f1a99b2801889053c3a2e5255f7be238b8feb0affa9e312ccc318924c", func := "sectime/sectimelaw01.OctetsHex", spec := "octetsHex", inPlace := ["internal/abi.NoEscape", "internal/bytealg.IndexByteString"], apart := false, narrowed := true }
def OctetsHexUptoSaid : Prop := octetsHexUptoRow.holds Try.pinned (OpenSpec.upto octetsHexSpec)

/-- 'sectimelaw17.ExtensionReadsBack', WHERE WHAT IT READS IS OF BULK AT MOST 1048576: true; the input reads as it did. -/
def extensionReadsBackUptoRow : OpenClaim := { program := "ytofadjcphaehcaa", sum := "39ec315f1a99b2801889053c3a2e5255f7be238b8feb0affa9e312ccc318924c", func := "sectime/sectimelaw17.ExtensionReadsBack", spec := "extensionReadsBack", inPlace := ["internal/abi.NoEscape"], unfollowed := true, recurses := true, apart := false, narrowed := true }
def ExtensionReadsBackUptoSaid : Prop := extensionReadsBackUptoRow.holds Try.pinned (OpenSpec.upto extensionReadsBackSpec)

/-- 'sectimelaw17.ExtensionJoins', WHERE WHAT IT READS IS OF BULK AT MOST 1048576: true; the input reads as it did. -/
def extensionJoinsUptoRow : OpenClaim := { program := "ytofadjcphaehcaa", sum := "39ec315f1a99b2801889053c3a2e5255f7be238b8feb0affa9e312ccc318924c", func := "sectime/sectimelaw17.ExtensionJoins", spec := "extensionJoins", inPlace := ["internal/abi.NoEscape"], unfollowed := true, recurses := true, apart := false, narrowed := true }
def ExtensionJoinsUptoSaid : Prop := extensionJoinsUptoRow.holds Try.pinned (OpenSpec.upto extensionJoinsSpec)

/-- 'sectimelaw01.OctetsFields', WHERE WHAT IT READS IS OF BULK AT MOST 1048576: true; the input reads as it did. -/
def octetsFieldsUptoRow : OpenClaim := { program := "ytofadjcphaehcaa", sum := "39ec315f1a99b2801889053c3a2e5255f7be238b8feb0affa9e312ccc318924c", func := "sectime/sectimelaw01.OctetsFields", spec := "octetsFields", inPlace := ["internal/abi.NoEscape"], apart := false, narrowed := true }
def OctetsFieldsUptoSaid : Prop := octetsFieldsUptoRow.holds Try.pinned (OpenSpec.upto octetsFieldsSpec)

/-- 'sectimelaw01.OctetsReadBack', WHERE WHAT IT READS IS OF BULK AT MOST 1048576: true; the input reads as it did. -/
def octetsReadBackUptoRow : OpenClaim := { program := "ytofadjcphaehcaa", sum := "39ec315f1a99b2801889053c3a2e5255f7be238b8feb0affa9e312ccc318924c", func := "sectime/sectimelaw01.OctetsReadBack", spec := "octetsReadBack", inPlace := ["internal/abi.NoEscape"], apart := false, narrowed := true }
def OctetsReadBackUptoSaid : Prop := octetsReadBackUptoRow.holds Try.pinned (OpenSpec.upto octetsReadBackSpec)

/-- 'sectimelaw01.OctetsCount', WHERE WHAT IT READS IS OF BULK AT MOST 1048576: true; the input reads as it did. -/
def octetsCountUptoRow : OpenClaim := { program := "ytofadjcphaehcaa", sum := "39ec315f1a99b2801889053c3a2e5255f7be238b8feb0affa9e312ccc318924c", func := "sectime/sectimelaw01.OctetsCount", spec := "octetsCount", inPlace := ["internal/abi.NoEscape"], apart := false, narrowed := true }
def OctetsCountUptoSaid : Prop := octetsCountUptoRow.holds Try.pinned (OpenSpec.upto octetsCountSpec)

/-- 'sectimelaw01.OctetsJoin', WHERE WHAT IT READS IS OF BULK AT MOST 1048576: true; the input reads as it did. -/
def octetsJoinUptoRow : OpenClaim := { program := "ytofadjcphaehcaa", sum := "39ec315f1a99b2801889053c3a2e5255f7be238b8feb0affa9e312ccc318924c", func := "sectime/sectimelaw01.OctetsJoin", spec := "octetsJoin", inPlace := ["internal/abi.NoEscape"], apart := false, narrowed := true }
def OctetsJoinUptoSaid : Prop := octetsJoinUptoRow.holds Try.pinned (OpenSpec.upto octetsJoinSpec)

/-- 'sectimelaw17.ExtensionActs', WHERE WHAT IT READS IS OF BULK AT MOST 1048576: true; the input reads as it did. -/
def extensionActsUptoRow : OpenClaim := { program := "ytofadjcphaehcaa", sum := "39ec315f1a99b2801889053c3a2e5255f7be238b8feb0affa9e312ccc318924c", func := "sectime/sectimelaw17.ExtensionActs", spec := "extensionActs", inPlace := ["internal/abi.NoEscape"], unfollowed := true, recurses := true, apart := false, narrowed := true }
def ExtensionActsUptoSaid : Prop := extensionActsUptoRow.holds Try.pinned (OpenSpec.upto extensionActsSpec)

/-- 'sectimetop.TopHoldover', WHERE WHAT IT READS IS OF BULK AT MOST 1048576: true; the input reads as it did. -/
def topHoldoverUptoRow : OpenClaim := { program := "ytofadjcphaehcaa", sum := "39ec315f1a99b2801889053c3a2e5255f7be238b8feb0affa9e312ccc318924c", func := "sectime/sectimetop.TopHoldover", spec := "topHoldover", unfollowed := true, recurses := true, named := ["math/bits.divideError", "math/bits.overflowError"], apart := false, narrowed := true }
def TopHoldoverUptoSaid : Prop := topHoldoverUptoRow.holds Try.pinned (OpenSpec.upto topHoldoverSpec)

end Rows
end Go.Proofs.Ytofadjcphaehcaa
