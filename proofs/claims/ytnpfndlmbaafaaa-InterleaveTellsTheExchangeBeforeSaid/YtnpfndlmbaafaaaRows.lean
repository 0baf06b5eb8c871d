/-
  No cell of these rows narrows 'for every input' (looked for: loops, veiled, ifaces, maps, wideKeys, modest, calm, conditions, laid).
  DERIVED. THE GIVEN ROWS OF THIS SEAT. 12 by the template 'for every input the law returns true; each argument reads behind the call as it read before'; 0 by the template 'total and deterministic' (their statements: YtnpfndlmbaafaaaTotals.lean).
  GIVEN WITH THE SEED: the statements are not yours to turn. If you find one false, say at which input.
  Laid BY PROGRAM, IN A SANDBOX (cutbox-rows.mjs): the forced cells as the released guide's own fill.sh prints them over the translation 7e84e6184daaf4fe… (all of the seat's roots in one cut). By AI agents, Wed Nov 11 2026. No macro, syntax, notation, axiom, sorry.
-/
import Derived.Test.YtnpfndlmbaafaaaChecked
import GoSem.Claim
import GoSem.ClaimJoined
import GoSem.ClaimMapViews
import Derived.JoinedTies
import Derived.KernelRfl
namespace Go.Proofs.Ytnpfndlmbaafaaa
/- THE CELL 'sum', in the pinned program and in every row, IS THE sha256 OF THE DUMP (.gsa) THAT YtnpfndlmbaafaaaProg.lean LOADS. Nothing in Lean hashes anything: it is a label: what it is worth is what the hold of that sum in a sandbox is worth. -/
noncomputable def Try.pinned : Pinned := { name := "ytnpfndlmbaafaaa", sum := "7e84e6184daaf4feacdb87e43fc6552f0c1c4df8b378e212e16ae8251195aff9", checked := Try.checked }
namespace Rows
def none {H : Type} : Left H := { results := [], args := [] }

/-- 'sectimelaw16.PacketAnswers': WHATEVER THE INPUT: true; the input reads as it did. -/
def packetAnswersSpec : ChangeSpec := { name := "packetAnswers", fn := fun _ => fun
  | [d1, d2, d3, d4] => { results := [.lit (.bool true)], args := [d1, d2, d3, d4] }
  | _ => none }
def packetAnswersRow : OpenClaim := { program := "ytnpfndlmbaafaaa", sum := "7e84e6184daaf4feacdb87e43fc6552f0c1c4df8b378e212e16ae8251195aff9", func := "sectime/sectimelaw16.PacketAnswers", spec := "packetAnswers", unfollowed := true, recurses := true, apart := false }
def PacketAnswersSaid : Prop := packetAnswersRow.holds Try.pinned (OpenSpec.ofChange packetAnswersSpec)

/-- ITS FALSE NEIGHBOUR: 'it returns false'. Refute it at one input. -/
def packetAnswersWrong : ChangeSpec := { name := "packetAnswers", fn := fun _ => fun
  | [d1, d2, d3, d4] => { results := [.lit (.bool false)], args := [d1, d2, d3, d4] }
  | _ => none }
def PacketAnswersWrongFalsely : Prop := packetAnswersRow.holds Try.pinned (OpenSpec.ofChange packetAnswersWrong)

/-- 'sectimelaw25.KissNames': WHATEVER THE INPUT: true; the input reads as it did. -/
def kissNamesSpec : ChangeSpec := { name := "kissNames", fn := fun _ => fun
  | [d1, d2, d3] => { results := [.lit (.bool true)], args := [d1, d2, d3] }
  | _ => none }
def kissNamesRow : OpenClaim := { program := "ytnpfndlmbaafaaa", sum := "7e84e6184daaf4feacdb87e43fc6552f0c1c4df8b378e212e16ae8251195aff9", func := "sectime/sectimelaw25.KissNames", spec := "kissNames", apart := false }
def KissNamesSaid : Prop := kissNamesRow.holds Try.pinned (OpenSpec.ofChange kissNamesSpec)

/-- ITS FALSE NEIGHBOUR: 'it returns false'. Refute it at one input. -/
def kissNamesWrong : ChangeSpec := { name := "kissNames", fn := fun _ => fun
  | [d1, d2, d3] => { results := [.lit (.bool false)], args := [d1, d2, d3] }
  | _ => none }
def KissNamesWrongFalsely : Prop := kissNamesRow.holds Try.pinned (OpenSpec.ofChange kissNamesWrong)

/-- 'sectimelaw25.KissWaits': WHATEVER THE INPUT: true; the input reads as it did. -/
def kissWaitsSpec : ChangeSpec := { name := "kissWaits", fn := fun _ => fun
  | [d1, d2, d3, d4] => { results := [.lit (.bool true)], args := [d1, d2, d3, d4] }
  | _ => none }
def kissWaitsRow : OpenClaim := { program := "ytnpfndlmbaafaaa", sum := "7e84e6184daaf4feacdb87e43fc6552f0c1c4df8b378e212e16ae8251195aff9", func := "sectime/sectimelaw25.KissWaits", spec := "kissWaits", apart := false }
def KissWaitsSaid : Prop := kissWaitsRow.holds Try.pinned (OpenSpec.ofChange kissWaitsSpec)

/-- ITS FALSE NEIGHBOUR: 'it returns false'. Refute it at one input. -/
def kissWaitsWrong : ChangeSpec := { name := "kissWaits", fn := fun _ => fun
  | [d1, d2, d3, d4] => { results := [.lit (.bool false)], args := [d1, d2, d3, d4] }
  | _ => none }
def KissWaitsWrongFalsely : Prop := kissWaitsRow.holds Try.pinned (OpenSpec.ofChange kissWaitsWrong)

/-- 'sectimelaw25.KissBoundsWindows': WHATEVER THE INPUT: true; the input reads as it did. -/
def kissBoundsWindowsSpec : ChangeSpec := { name := "kissBoundsWindows", fn := fun _ => fun
  | [d1, d2, d3] => { results := [.lit (.bool true)], args := [d1, d2, d3] }
  | _ => none }
def kissBoundsWindowsRow : OpenClaim := { program := "ytnpfndlmbaafaaa", sum := "7e84e6184daaf4feacdb87e43fc6552f0c1c4df8b378e212e16ae8251195aff9", func := "sectime/sectimelaw25.KissBoundsWindows", spec := "kissBoundsWindows", apart := false }
def KissBoundsWindowsSaid : Prop := kissBoundsWindowsRow.holds Try.pinned (OpenSpec.ofChange kissBoundsWindowsSpec)

/-- ITS FALSE NEIGHBOUR: 'it returns false'. Refute it at one input. -/
def kissBoundsWindowsWrong : ChangeSpec := { name := "kissBoundsWindows", fn := fun _ => fun
  | [d1, d2, d3] => { results := [.lit (.bool false)], args := [d1, d2, d3] }
  | _ => none }
def KissBoundsWindowsWrongFalsely : Prop := kissBoundsWindowsRow.holds Try.pinned (OpenSpec.ofChange kissBoundsWindowsWrong)

/-- 'sectimelaw16.PacketReadsBack': WHATEVER THE INPUT: true; the input reads as it did. -/
def packetReadsBackSpec : ChangeSpec := { name := "packetReadsBack", fn := fun _ => fun
  | [d1, d2, d3] => { results := [.lit (.bool true)], args := [d1, d2, d3] }
  | _ => none }
def packetReadsBackRow : OpenClaim := { program := "ytnpfndlmbaafaaa", sum := "7e84e6184daaf4feacdb87e43fc6552f0c1c4df8b378e212e16ae8251195aff9", func := "sectime/sectimelaw16.PacketReadsBack", spec := "packetReadsBack", unfollowed := true, recurses := true, apart := false }
def PacketReadsBackSaid : Prop := packetReadsBackRow.holds Try.pinned (OpenSpec.ofChange packetReadsBackSpec)

/-- ITS FALSE NEIGHBOUR: 'it returns false'. Refute it at one input. -/
def packetReadsBackWrong : ChangeSpec := { name := "packetReadsBack", fn := fun _ => fun
  | [d1, d2, d3] => { results := [.lit (.bool false)], args := [d1, d2, d3] }
  | _ => none }
def PacketReadsBackWrongFalsely : Prop := packetReadsBackRow.holds Try.pinned (OpenSpec.ofChange packetReadsBackWrong)

/-- 'sectimelaw24.InterleaveTellsTheExchangeBefore': WHATEVER THE INPUT: true; the input reads as it did. -/
def interleaveTellsTheExchangeBeforeSpec : ChangeSpec := { name := "interleaveTellsTheExchangeBefore", fn := fun _ => fun
  | [d1, d2] => { results := [.lit (.bool true)], args := [d1, d2] }
  | _ => none }
def interleaveTellsTheExchangeBeforeRow : OpenClaim := { program := "ytnpfndlmbaafaaa", sum := "7e84e6184daaf4feacdb87e43fc6552f0c1c4df8b378e212e16ae8251195aff9", func := "sectime/sectimelaw24.InterleaveTellsTheExchangeBefore", spec := "interleaveTellsTheExchangeBefore", unfollowed := true, recurses := true, apart := false }
def InterleaveTellsTheExchangeBeforeSaid : Prop := interleaveTellsTheExchangeBeforeRow.holds Try.pinned (OpenSpec.ofChange interleaveTellsTheExchangeBeforeSpec)

/-- ITS FALSE NEIGHBOUR: 'it returns false'. Refute it at one input. -/
def interleaveTellsTheExchangeBeforeWrong : ChangeSpec := { name := "interleaveTellsTheExchangeBefore", fn := fun _ => fun
  | [d1, d2] => { results := [.lit (.bool false)], args := [d1, d2] }
  | _ => none }
def InterleaveTellsTheExchangeBeforeWrongFalsely : Prop := interleaveTellsTheExchangeBeforeRow.holds Try.pinned (OpenSpec.ofChange interleaveTellsTheExchangeBeforeWrong)

/-- 'sectimelaw24.InterleaveRefusesStrangers': WHATEVER THE INPUT: true; the input reads as it did. -/
def interleaveRefusesStrangersSpec : ChangeSpec := { name := "interleaveRefusesStrangers", fn := fun _ => fun
  | [d1, d2] => { results := [.lit (.bool true)], args := [d1, d2] }
  | _ => none }
def interleaveRefusesStrangersRow : OpenClaim := { program := "ytnpfndlmbaafaaa", sum := "7e84e6184daaf4feacdb87e43fc6552f0c1c4df8b378e212e16ae8251195aff9", func := "sectime/sectimelaw24.InterleaveRefusesStrangers", spec := "interleaveRefusesStrangers", unfollowed := true, recurses := true, apart := false }
def InterleaveRefusesStrangersSaid : Prop := interleaveRefusesStrangersRow.holds Try.pinned (OpenSpec.ofChange interleaveRefusesStrangersSpec)

/-- ITS FALSE NEIGHBOUR: 'it returns false'. Refute it at one input. -/
def interleaveRefusesStrangersWrong : ChangeSpec := { name := "interleaveRefusesStrangers", fn := fun _ => fun
  | [d1, d2] => { results := [.lit (.bool false)], args := [d1, d2] }
  | _ => none }
def InterleaveRefusesStrangersWrongFalsely : Prop := interleaveRefusesStrangersRow.holds Try.pinned (OpenSpec.ofChange interleaveRefusesStrangersWrong)

/-- 'sectimelaw24.InterleaveQuestionsSayNothing': WHATEVER THE INPUT: true; the input reads as it did. -/
def interleaveQuestionsSayNothingSpec : ChangeSpec := { name := "interleaveQuestionsSayNothing", fn := fun _ => fun
  | [d1, d2, d3] => { results := [.lit (.bool true)], args := [d1, d2, d3] }
  | _ => none }
def interleaveQuestionsSayNothingRow : OpenClaim := { program := "ytnpfndlmbaafaaa", sum := "7e84e6184daaf4feacdb87e43fc6552f0c1c4df8b378e212e16ae8251195aff9", func := "sectime/sectimelaw24.InterleaveQuestionsSayNothing", spec := "interleaveQuestionsSayNothing", unfollowed := true, recurses := true, apart := false }
def InterleaveQuestionsSayNothingSaid : Prop := interleaveQuestionsSayNothingRow.holds Try.pinned (OpenSpec.ofChange interleaveQuestionsSayNothingSpec)

/-- ITS FALSE NEIGHBOUR: 'it returns false'. Refute it at one input. -/
def interleaveQuestionsSayNothingWrong : ChangeSpec := { name := "interleaveQuestionsSayNothing", fn := fun _ => fun
  | [d1, d2, d3] => { results := [.lit (.bool false)], args := [d1, d2, d3] }
  | _ => none }
def InterleaveQuestionsSayNothingWrongFalsely : Prop := interleaveQuestionsSayNothingRow.holds Try.pinned (OpenSpec.ofChange interleaveQuestionsSayNothingWrong)

/-- 'sectimelaw24.InterleaveForgets': WHATEVER THE INPUT: true; the input reads as it did. -/
def interleaveForgetsSpec : ChangeSpec := { name := "interleaveForgets", fn := fun _ => fun
  | [d1, d2] => { results := [.lit (.bool true)], args := [d1, d2] }
  | _ => none }
def interleaveForgetsRow : OpenClaim := { program := "ytnpfndlmbaafaaa", sum := "7e84e6184daaf4feacdb87e43fc6552f0c1c4df8b378e212e16ae8251195aff9", func := "sectime/sectimelaw24.InterleaveForgets", spec := "interleaveForgets", unfollowed := true, recurses := true, apart := false }
def InterleaveForgetsSaid : Prop := interleaveForgetsRow.holds Try.pinned (OpenSpec.ofChange interleaveForgetsSpec)

/-- ITS FALSE NEIGHBOUR: 'it returns false'. Refute it at one input. -/
def interleaveForgetsWrong : ChangeSpec := { name := "interleaveForgets", fn := fun _ => fun
  | [d1, d2] => { results := [.lit (.bool false)], args := [d1, d2] }
  | _ => none }
def InterleaveForgetsWrongFalsely : Prop := interleaveForgetsRow.holds Try.pinned (OpenSpec.ofChange interleaveForgetsWrong)

/-- 'sectimelaw16.PacketActs': WHATEVER THE INPUT: true; the input reads as it did. -/
def packetActsSpec : ChangeSpec := { name := "packetActs", fn := fun _ => fun
  | [d1, d2, d3, d4, d5] => { results := [.lit (.bool true)], args := [d1, d2, d3, d4, d5] }
  | _ => none }
def packetActsRow : OpenClaim := { program := "ytnpfndlmbaafaaa", sum := "7e84e6184daaf4feacdb87e43fc6552f0c1c4df8b378e212e16ae8251195aff9", func := "sectime/sectimelaw16.PacketActs", spec := "packetActs", unfollowed := true, recurses := true, apart := false }
def PacketActsSaid : Prop := packetActsRow.holds Try.pinned (OpenSpec.ofChange packetActsSpec)

/-- ITS FALSE NEIGHBOUR: 'it returns false'. Refute it at one input. -/
def packetActsWrong : ChangeSpec := { name := "packetActs", fn := fun _ => fun
  | [d1, d2, d3, d4, d5] => { results := [.lit (.bool false)], args := [d1, d2, d3, d4, d5] }
  | _ => none }
def PacketActsWrongFalsely : Prop := packetActsRow.holds Try.pinned (OpenSpec.ofChange packetActsWrong)

/-- 'sectimelaw25.KissReacts': WHATEVER THE INPUT: true; the input reads as it did. -/
def kissReactsSpec : ChangeSpec := { name := "kissReacts", fn := fun _ => fun
  | [d1, d2, d3, d4] => { results := [.lit (.bool true)], args := [d1, d2, d3, d4] }
  | _ => none }
def kissReactsRow : OpenClaim := { program := "ytnpfndlmbaafaaa", sum := "7e84e6184daaf4feacdb87e43fc6552f0c1c4df8b378e212e16ae8251195aff9", func := "sectime/sectimelaw25.KissReacts", spec := "kissReacts", apart := false }
def KissReactsSaid : Prop := kissReactsRow.holds Try.pinned (OpenSpec.ofChange kissReactsSpec)

/-- ITS FALSE NEIGHBOUR: 'it returns false'. Refute it at one input. -/
def kissReactsWrong : ChangeSpec := { name := "kissReacts", fn := fun _ => fun
  | [d1, d2, d3, d4] => { results := [.lit (.bool false)], args := [d1, d2, d3, d4] }
  | _ => none }
def KissReactsWrongFalsely : Prop := kissReactsRow.holds Try.pinned (OpenSpec.ofChange kissReactsWrong)

/-- 'sectimelaw25.KissKeepsBounds': WHATEVER THE INPUT: true; the input reads as it did. -/
def kissKeepsBoundsSpec : ChangeSpec := { name := "kissKeepsBounds", fn := fun _ => fun
  | [d1, d2] => { results := [.lit (.bool true)], args := [d1, d2] }
  | _ => none }
def kissKeepsBoundsRow : OpenClaim := { program := "ytnpfndlmbaafaaa", sum := "7e84e6184daaf4feacdb87e43fc6552f0c1c4df8b378e212e16ae8251195aff9", func := "sectime/sectimelaw25.KissKeepsBounds", spec := "kissKeepsBounds", apart := false }
def KissKeepsBoundsSaid : Prop := kissKeepsBoundsRow.holds Try.pinned (OpenSpec.ofChange kissKeepsBoundsSpec)

/-- ITS FALSE NEIGHBOUR: 'it returns false'. Refute it at one input. -/
def kissKeepsBoundsWrong : ChangeSpec := { name := "kissKeepsBounds", fn := fun _ => fun
  | [d1, d2] => { results := [.lit (.bool false)], args := [d1, d2] }
  | _ => none }
def KissKeepsBoundsWrongFalsely : Prop := kissKeepsBoundsRow.holds Try.pinned (OpenSpec.ofChange kissKeepsBoundsWrong)

/- THE SECOND FORM. 'bulk': how many values and letters a reading holds, each counted each time it is reached (what is shared counts as often as it is met; a slice's spare places count too). A statement '..UptoSaid' is the law's where the arguments, and the package variables that the reading takes, are together of bulk at most 1048576: NARROWER than '..Said'. Prove '..Said' where nothing that the law and all that it calls make is longer than what came in: it says more and counts as full. Else prove '..UptoSaid'. A law counts once. -/
mutual
def uptoBulk {H : Type} : DataW H → Nat
  | .lit (.string bytes) => bytes.length + 1
  | .lit _ => 1
  | .nil => 1
  | .ptr d => uptoBulk d + 1
  | .slice elems spare => uptoBulkAll elems + uptoBulkAll spare + 1
  | .agg parts => uptoBulkAll parts + 1
  | .iface _ d => uptoBulk d + 1
  | .map entries => uptoBulkEntries entries + 1
  | .held _ => 1
def uptoBulkAll {H : Type} : List (DataW H) → Nat
  | [] => 0
  | d :: r => uptoBulk d + uptoBulkAll r
def uptoBulkEntries {H : Type} : List (Lit × DataW H) → Nat
  | [] => 0
  | x :: r => uptoBulkEntry x + uptoBulkEntries r
def uptoBulkEntry {H : Type} : Lit × DataW H → Nat
  | (.string bytes, d) => bytes.length + uptoBulk d + 1
  | (_, d) => uptoBulk d + 1
 end
def uptoSmall : (H : Type) → List (DataW H) → Bool := fun _ ds => decide (uptoBulkAll ds ≤ 1048576)
def OpenSpec.upto (s : _root_.Go.ChangeSpec) : _root_.Go.OpenSpec := { _root_.Go.OpenSpec.ofChange s with cond := some uptoSmall }

/-- 'sectimelaw16.PacketAnswers', WHERE WHAT IT READS IS OF BULK AT MOST 1048576: true; the input reads as it did. -/
def packetAnswersUptoRow : OpenClaim := { program := "ytnpfndlmbaafaaa", sum := "7e84e6184daaf4feacdb87e43fc6552f0c1c4df8b378e212e16ae8251195aff9", func := "sectime/sectimelaw16.PacketAnswers", spec := "packetAnswers", unfollowed := true, recurses := true, apart := false, narrowed := true }
def PacketAnswersUptoSaid : Prop := packetAnswersUptoRow.holds Try.pinned (OpenSpec.upto packetAnswersSpec)

/-- 'sectimelaw25.KissNames', WHERE WHAT IT READS IS OF BULK AT MOST 1048576: true; the input reads as it did. -/
def kissNamesUptoRow : OpenClaim := { program := "ytnpfndlmbaafaaa", sum := "7e84e6184daaf4feacdb87e43fc6552f0c1c4df8b378e212e16ae8251195aff9", func := "sectime/sectimelaw25.KissNames", spec := "kissNames", apart := false, narrowed := true }
def KissNamesUptoSaid : Prop := kissNamesUptoRow.holds Try.pinned (OpenSpec.upto kissNamesSpec)

/-- 'sectimelaw25.KissWaits', WHERE WHAT IT READS IS OF BULK AT MOST 1048576: true; the input reads as it did. -/
def kissWaitsUptoRow : OpenClaim := { program := "ytnpfndlmbaafaaa", sum := "7e84e6184daaf4feacdb87e43fc6552f0c1c4df8b378e212e16ae8251195aff9", func := "sectime/sectimelaw25.KissWaits", spec := "kissWaits", apart := false, narrowed := true }
def KissWaitsUptoSaid : Prop := kissWaitsUptoRow.holds Try.pinned (OpenSpec.upto kissWaitsSpec)

/-- 'sectimelaw25.KissBoundsWindows', WHERE WHAT IT READS IS OF BULK AT MOST 1048576: true; the input reads as it did. -/
def kissBoundsWindowsUptoRow : OpenClaim := { program := "ytnpfndlmbaafaaa", sum := "7e84e6184daaf4feacdb87e43fc6552f0c1c4df8b378e212e16ae8251195aff9", func := "sectime/sectimelaw25.KissBoundsWindows", spec := "kissBoundsWindows", apart := false, narrowed := true }
def KissBoundsWindowsUptoSaid : Prop := kissBoundsWindowsUptoRow.holds Try.pinned (OpenSpec.upto kissBoundsWindowsSpec)

/-- 'sectimelaw16.PacketReadsBack', WHERE WHAT IT READS IS OF BULK AT MOST 1048576: true; the input reads as it did. -/
def packetReadsBackUptoRow : OpenClaim := { program := "ytnpfndlmbaafaaa", sum := "7e84e6184daaf4feacdb87e43fc6552f0c1c4df8b378e212e16ae8251195aff9", func := "sectime/sectimelaw16.PacketReadsBack", spec := "packetReadsBack", unfollowed := true, recurses := true, apart := false, narrowed := true }
def PacketReadsBackUptoSaid : Prop := packetReadsBackUptoRow.holds Try.pinned (OpenSpec.upto packetReadsBackSpec)

/-- 'sectimelaw24.InterleaveTellsTheExchangeBefore', WHERE WHAT IT READS IS OF BULK AT MOST 1048576: true; the input reads as it did. -/
def interleaveTellsTheExchangeBeforeUptoRow : OpenClaim := { program := "ytnpfndlmbaafaaa", sum := "7e84e6184daaf4feacdb87e43fc6552f0c1c4df8b378e212e16ae8251195aff9", func := "sectime/sectimelaw24.InterleaveTellsTheExchangeBefore", spec := "interleaveTellsTheExchangeBefore", unfollowed := true, recurses := true, apart := false, narrowed := true }
def InterleaveTellsTheExchangeBeforeUptoSaid : Prop := interleaveTellsTheExchangeBeforeUptoRow.holds Try.pinned (OpenSpec.upto interleaveTellsTheExchangeBeforeSpec)

/-- 'sectimelaw24.InterleaveRefusesStrangers', WHERE WHAT IT READS IS OF BULK AT MOST 1048576: true; the input reads as it did. -/
def interleaveRefusesStrangersUptoRow : OpenClaim := { program := "ytnpfndlmbaafaaa", sum := "7e84e6184daaf4feacdb87e43fc6552f0c1c4df8b378e212e16ae8251195aff9", func := "sectime/sectimelaw24.InterleaveRefusesStrangers", spec := "interleaveRefusesStrangers", unfollowed := true, recurses := true, apart := false, narrowed := true }
def InterleaveRefusesStrangersUptoSaid : Prop := interleaveRefusesStrangersUptoRow.holds Try.pinned (OpenSpec.upto interleaveRefusesStrangersSpec)

/-- 'sectimelaw24.InterleaveQuestionsSayNothing', WHERE WHAT IT READS IS OF BULK AT MOST 1048576: true; the input reads as it did. -/
def interleaveQuestionsSayNothingUptoRow : OpenClaim := { program := "ytnpfndlmbaafaaa", sum := "7e84e6184daaf4feacdb87e43fc6552f0c1c4df8b378e212e16ae8251195aff9", func := "sectime/sectimelaw24.InterleaveQuestionsSayNothing", spec := "interleaveQuestionsSayNothing", unfollowed := true, recurses := true, apart := false, narrowed := true }
def InterleaveQuestionsSayNothingUptoSaid : Prop := interleaveQuestionsSayNothingUptoRow.holds Try.pinned (OpenSpec.upto interleaveQuestionsSayNothingSpec)

/-- 'sectimelaw24.InterleaveForgets', WHERE WHAT IT READS IS OF BULK AT MOST 1048576: true; the input reads as it did. -/
def interleaveForgetsUptoRow : OpenClaim := { program := "ytnpfndlmbaafaaa", sum := "7e84e6184daaf4feacdb87e43fc6552f0c1c4df8b378e212e16ae8251195aff9", func := "sectime/sectimelaw24.InterleaveForgets", spec := "interleaveForgets", unfollowed := true, recurses := true, apart := false, narrowed := true }
def InterleaveForgetsUptoSaid : Prop := interleaveForgetsUptoRow.holds Try.pinned (OpenSpec.upto interleaveForgetsSpec)

/-- 'sectimelaw16.PacketActs', WHERE WHAT IT READS IS OF BULK AT MOST 1048576: true; the input reads as it did. -/
def packetActsUptoRow : OpenClaim := { program := "ytnpfndlmbaafaaa", sum := "7e84e6184daaf4feacdb87e43fc6552f0c1c4df8b378e212e16ae8251195aff9", func := "sectime/sectimelaw16.PacketActs", spec := "packetActs", unfollowed := true, recurses := true, apart := false, narrowed := true }
def PacketActsUptoSaid : Prop := packetActsUptoRow.holds Try.pinned (OpenSpec.upto packetActsSpec)

/-- 'sectimelaw25.KissReacts', WHERE WHAT IT READS IS OF BULK AT MOST 1048576: true; the input reads as it did. -/
def kissReactsUptoRow : OpenClaim := { program := "ytnpfndlmbaafaaa", sum := "7e84e6184daaf4feacdb87e43fc6552f0c1c4df8b378e212e16ae8251195aff9", func := "sectime/sectimelaw25.KissReacts", spec := "kissReacts", apart := false, narrowed := true }
def KissReactsUptoSaid : Prop := kissReactsUptoRow.holds Try.pinned (OpenSpec.upto kissReactsSpec)

/-- 'sectimelaw25.KissKeepsBounds', WHERE WHAT IT READS IS OF BULK AT MOST 1048576: true; the input reads as it did. -/
def kissKeepsBoundsUptoRow : OpenClaim := { program := "ytnpfndlmbaafaaa", sum := "7e84e6184daaf4feacdb87e43fc6552f0c1c4df8b378e212e16ae8251195aff9", func := "sectime/sectimelaw25.KissKeepsBounds", spec := "kissKeepsBounds", apart := false, narrowed := true }
def KissKeepsBoundsUptoSaid : Prop := kissKeepsBoundsUptoRow.holds Try.pinned (OpenSpec.upto kissKeepsBoundsSpec)

end Rows
end Go.Proofs.Ytnpfndlmbaafaaa
