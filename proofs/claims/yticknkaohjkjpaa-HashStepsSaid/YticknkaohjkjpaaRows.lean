/-
  No cell of these rows narrows 'for every input' (looked for: loops, veiled, ifaces, maps, wideKeys, modest, calm, conditions, laid).
  DERIVED. THE GIVEN ROWS OF THIS SEAT. 11 by the template 'for every input the law returns true; each argument reads behind the call as it read before'; 0 by the template 'total and deterministic' (their statements: YticknkaohjkjpaaTotals.lean).
  GIVEN WITH THE SEED: the statements are not yours to turn. If you find one false, say at which input.
  Laid BY PROGRAM, IN A SANDBOX (cutbox-rows.mjs): the forced cells as the released guide's own fill.sh prints them over the translation d803b905b8b262c6… (all of the seat's roots in one cut). By AI agents, Wed Nov 11 2026. No macro, syntax, notation, axiom, sorry.
-/
import Derived.Test.YticknkaohjkjpaaChecked
import GoSem.Claim
import GoSem.ClaimJoined
import GoSem.ClaimMapViews
import Derived.JoinedTies
import Derived.KernelRfl
namespace Go.Proofs.Yticknkaohjkjpaa
/- THE CELL 'sum', in the pinned program and in every row, IS THE sha256 OF THE DUMP (.gsa) THAT YticknkaohjkjpaaProg.lean LOADS. Nothing in Lean hashes anything: it is a label: what it is worth is what the hold of that sum in a sandbox is worth. -/
noncomputable def Try.pinned : Pinned := { name := "yticknkaohjkjpaa", sum := "d803b905b8b262c6e541c678c765e4fbec943f051d717e90a0dd65103ad781f7", checked := Try.checked }
namespace Rows
def none {H : Type} : Left H := { results := [], args := [] }

/-- 'sectimelaw02.HashEdges': WHATEVER THE INPUT: true; the input reads as it did. -/
def hashEdgesSpec : ChangeSpec := { name := "hashEdges", fn := fun _ => fun
  | [d1, d2] => { results := [.lit (.bool true)], args := [d1, d2] }
  | _ => none }
def hashEdgesRow : OpenClaim := { program := "yticknkaohjkjpaa", sum := "d803b905b8b262c6e541c678c765e4fbec943f051d717e90a0dd65103ad781f7", func := "sectime/sectimelaw02.HashEdges", spec := "hashEdges", inPlace := ["internal/abi.NoEscape"], apart := false }
def HashEdgesSaid : Prop := hashEdgesRow.holds Try.pinned (OpenSpec.ofChange hashEdgesSpec)

/-- ITS FALSE NEIGHBOUR: 'it returns false'. Refute it at one input. -/
def hashEdgesWrong : ChangeSpec := { name := "hashEdges", fn := fun _ => fun
  | [d1, d2] => { results := [.lit (.bool false)], args := [d1, d2] }
  | _ => none }
def HashEdgesWrongFalsely : Prop := hashEdgesRow.holds Try.pinned (OpenSpec.ofChange hashEdgesWrong)

/-- 'sectimelaw03.KdfKeys': WHATEVER THE INPUT: true; the input reads as it did. -/
def kdfKeysSpec : ChangeSpec := { name := "kdfKeys", fn := fun _ => fun
  | [d1, d2, d3] => { results := [.lit (.bool true)], args := [d1, d2, d3] }
  | _ => none }
def kdfKeysRow : OpenClaim := { program := "yticknkaohjkjpaa", sum := "d803b905b8b262c6e541c678c765e4fbec943f051d717e90a0dd65103ad781f7", func := "sectime/sectimelaw03.KdfKeys", spec := "kdfKeys", inPlace := ["internal/abi.NoEscape"], apart := false }
def KdfKeysSaid : Prop := kdfKeysRow.holds Try.pinned (OpenSpec.ofChange kdfKeysSpec)

/-- ITS FALSE NEIGHBOUR: 'it returns false'. Refute it at one input. -/
def kdfKeysWrong : ChangeSpec := { name := "kdfKeys", fn := fun _ => fun
  | [d1, d2, d3] => { results := [.lit (.bool false)], args := [d1, d2, d3] }
  | _ => none }
def KdfKeysWrongFalsely : Prop := kdfKeysRow.holds Try.pinned (OpenSpec.ofChange kdfKeysWrong)

/-- 'sectimelaw02.HashSums': WHATEVER THE INPUT: true; the input reads as it did. -/
def hashSumsSpec : ChangeSpec := { name := "hashSums", fn := fun _ => fun
  | [d1, d2] => { results := [.lit (.bool true)], args := [d1, d2] }
  | _ => none }
def hashSumsRow : OpenClaim := { program := "yticknkaohjkjpaa", sum := "d803b905b8b262c6e541c678c765e4fbec943f051d717e90a0dd65103ad781f7", func := "sectime/sectimelaw02.HashSums", spec := "hashSums", inPlace := ["internal/abi.NoEscape"], apart := false }
def HashSumsSaid : Prop := hashSumsRow.holds Try.pinned (OpenSpec.ofChange hashSumsSpec)

/-- ITS FALSE NEIGHBOUR: 'it returns false'. Refute it at one input. -/
def hashSumsWrong : ChangeSpec := { name := "hashSums", fn := fun _ => fun
  | [d1, d2] => { results := [.lit (.bool false)], args := [d1, d2] }
  | _ => none }
def HashSumsWrongFalsely : Prop := hashSumsRow.holds Try.pinned (OpenSpec.ofChange hashSumsWrong)

/-- 'sectimelaw02.HashChains': WHATEVER THE INPUT: true; the input reads as it did. -/
def hashChainsSpec : ChangeSpec := { name := "hashChains", fn := fun _ => fun
  | [d1, d2, d3] => { results := [.lit (.bool true)], args := [d1, d2, d3] }
  | _ => none }
def hashChainsRow : OpenClaim := { program := "yticknkaohjkjpaa", sum := "d803b905b8b262c6e541c678c765e4fbec943f051d717e90a0dd65103ad781f7", func := "sectime/sectimelaw02.HashChains", spec := "hashChains", inPlace := ["internal/abi.NoEscape"], apart := false }
def HashChainsSaid : Prop := hashChainsRow.holds Try.pinned (OpenSpec.ofChange hashChainsSpec)

/-- ITS FALSE NEIGHBOUR: 'it returns false'. Refute it at one input. -/
def hashChainsWrong : ChangeSpec := { name := "hashChains", fn := fun _ => fun
  | [d1, d2, d3] => { results := [.lit (.bool false)], args := [d1, d2, d3] }
  | _ => none }
def HashChainsWrongFalsely : Prop := hashChainsRow.holds Try.pinned (OpenSpec.ofChange hashChainsWrong)

/-- 'sectimelaw03.KdfLabels': WHATEVER THE INPUT: true; the input reads as it did. -/
def kdfLabelsSpec : ChangeSpec := { name := "kdfLabels", fn := fun _ => fun
  | [d1, d2, d3, d4, d5] => { results := [.lit (.bool true)], args := [d1, d2, d3, d4, d5] }
  | _ => none }
def kdfLabelsRow : OpenClaim := { program := "yticknkaohjkjpaa", sum := "d803b905b8b262c6e541c678c765e4fbec943f051d717e90a0dd65103ad781f7", func := "sectime/sectimelaw03.KdfLabels", spec := "kdfLabels", inPlace := ["internal/abi.NoEscape"], apart := false }
def KdfLabelsSaid : Prop := kdfLabelsRow.holds Try.pinned (OpenSpec.ofChange kdfLabelsSpec)

/-- ITS FALSE NEIGHBOUR: 'it returns false'. Refute it at one input. -/
def kdfLabelsWrong : ChangeSpec := { name := "kdfLabels", fn := fun _ => fun
  | [d1, d2, d3, d4, d5] => { results := [.lit (.bool false)], args := [d1, d2, d3, d4, d5] }
  | _ => none }
def KdfLabelsWrongFalsely : Prop := kdfLabelsRow.holds Try.pinned (OpenSpec.ofChange kdfLabelsWrong)

/-- 'sectimelaw03.KdfPrefixes': WHATEVER THE INPUT: true; the input reads as it did. -/
def kdfPrefixesSpec : ChangeSpec := { name := "kdfPrefixes", fn := fun _ => fun
  | [d1, d2, d3, d4] => { results := [.lit (.bool true)], args := [d1, d2, d3, d4] }
  | _ => none }
def kdfPrefixesRow : OpenClaim := { program := "yticknkaohjkjpaa", sum := "d803b905b8b262c6e541c678c765e4fbec943f051d717e90a0dd65103ad781f7", func := "sectime/sectimelaw03.KdfPrefixes", spec := "kdfPrefixes", inPlace := ["internal/abi.NoEscape"], apart := false }
def KdfPrefixesSaid : Prop := kdfPrefixesRow.holds Try.pinned (OpenSpec.ofChange kdfPrefixesSpec)

/-- ITS FALSE NEIGHBOUR: 'it returns false'. Refute it at one input. -/
def kdfPrefixesWrong : ChangeSpec := { name := "kdfPrefixes", fn := fun _ => fun
  | [d1, d2, d3, d4] => { results := [.lit (.bool false)], args := [d1, d2, d3, d4] }
  | _ => none }
def KdfPrefixesWrongFalsely : Prop := kdfPrefixesRow.holds Try.pinned (OpenSpec.ofChange kdfPrefixesWrong)

/-- 'sectimelaw03.KdfActs': WHATEVER THE INPUT: true; the input reads as it did. -/
def kdfActsSpec : ChangeSpec := { name := "kdfActs", fn := fun _ => fun
  | [d1, d2, d3, d4] => { results := [.lit (.bool true)], args := [d1, d2, d3, d4] }
  | _ => none }
def kdfActsRow : OpenClaim := { program := "yticknkaohjkjpaa", sum := "d803b905b8b262c6e541c678c765e4fbec943f051d717e90a0dd65103ad781f7", func := "sectime/sectimelaw03.KdfActs", spec := "kdfActs", inPlace := ["internal/abi.NoEscape"], apart := false }
def KdfActsSaid : Prop := kdfActsRow.holds Try.pinned (OpenSpec.ofChange kdfActsSpec)

/-- ITS FALSE NEIGHBOUR: 'it returns false'. Refute it at one input. -/
def kdfActsWrong : ChangeSpec := { name := "kdfActs", fn := fun _ => fun
  | [d1, d2, d3, d4] => { results := [.lit (.bool false)], args := [d1, d2, d3, d4] }
  | _ => none }
def KdfActsWrongFalsely : Prop := kdfActsRow.holds Try.pinned (OpenSpec.ofChange kdfActsWrong)

/-- 'sectimelaw03.KdfParts': WHATEVER THE INPUT: true; the input reads as it did. -/
def kdfPartsSpec : ChangeSpec := { name := "kdfParts", fn := fun _ => fun
  | [d1, d2, d3, d4] => { results := [.lit (.bool true)], args := [d1, d2, d3, d4] }
  | _ => none }
def kdfPartsRow : OpenClaim := { program := "yticknkaohjkjpaa", sum := "d803b905b8b262c6e541c678c765e4fbec943f051d717e90a0dd65103ad781f7", func := "sectime/sectimelaw03.KdfParts", spec := "kdfParts", inPlace := ["internal/abi.NoEscape"], apart := false }
def KdfPartsSaid : Prop := kdfPartsRow.holds Try.pinned (OpenSpec.ofChange kdfPartsSpec)

/-- ITS FALSE NEIGHBOUR: 'it returns false'. Refute it at one input. -/
def kdfPartsWrong : ChangeSpec := { name := "kdfParts", fn := fun _ => fun
  | [d1, d2, d3, d4] => { results := [.lit (.bool false)], args := [d1, d2, d3, d4] }
  | _ => none }
def KdfPartsWrongFalsely : Prop := kdfPartsRow.holds Try.pinned (OpenSpec.ofChange kdfPartsWrong)

/-- 'sectimelaw02.HashSteps': WHATEVER THE INPUT: true; the input reads as it did. -/
def hashStepsSpec : ChangeSpec := { name := "hashSteps", fn := fun _ => fun
  | [d1, d2] => { results := [.lit (.bool true)], args := [d1, d2] }
  | _ => none }
def hashStepsRow : OpenClaim := { program := "yticknkaohjkjpaa", sum := "d803b905b8b262c6e541c678c765e4fbec943f051d717e90a0dd65103ad781f7", func := "sectime/sectimelaw02.HashSteps", spec := "hashSteps", inPlace := ["internal/abi.NoEscape"], apart := false }
def HashStepsSaid : Prop := hashStepsRow.holds Try.pinned (OpenSpec.ofChange hashStepsSpec)

/-- ITS FALSE NEIGHBOUR: 'it returns false'. Refute it at one input. -/
def hashStepsWrong : ChangeSpec := { name := "hashSteps", fn := fun _ => fun
  | [d1, d2] => { results := [.lit (.bool false)], args := [d1, d2] }
  | _ => none }
def HashStepsWrongFalsely : Prop := hashStepsRow.holds Try.pinned (OpenSpec.ofChange hashStepsWrong)

/-- 'sectimelaw02.HashInParts': WHATEVER THE INPUT: true; the input reads as it did. -/
def hashInPartsSpec : ChangeSpec := { name := "hashInParts", fn := fun _ => fun
  | [d1, d2, d3] => { results := [.lit (.bool true)], args := [d1, d2, d3] }
  | _ => none }
def hashInPartsRow : OpenClaim := { program := "yticknkaohjkjpaa", sum := "d803b905b8b262c6e541c678c765e4fbec943f051d717e90a0dd65103ad781f7", func := "sectime/sectimelaw02.HashInParts", spec := "hashInParts", inPlace := ["internal/abi.NoEscape"], apart := false }
def HashInPartsSaid : Prop := hashInPartsRow.holds Try.pinned (OpenSpec.ofChange hashInPartsSpec)

/-- ITS FALSE NEIGHBOUR: 'it returns false'. Refute it at one input. -/
def hashInPartsWrong : ChangeSpec := { name := "hashInParts", fn := fun _ => fun
  | [d1, d2, d3] => { results := [.lit (.bool false)], args := [d1, d2, d3] }
  | _ => none }
def HashInPartsWrongFalsely : Prop := hashInPartsRow.holds Try.pinned (OpenSpec.ofChange hashInPartsWrong)

/-- 'sectimelaw02.HashGoesOn': WHATEVER THE INPUT: true; the input reads as it did. -/
def hashGoesOnSpec : ChangeSpec := { name := "hashGoesOn", fn := fun _ => fun
  | [d1, d2] => { results := [.lit (.bool true)], args := [d1, d2] }
  | _ => none }
def hashGoesOnRow : OpenClaim := { program := "yticknkaohjkjpaa", sum := "d803b905b8b262c6e541c678c765e4fbec943f051d717e90a0dd65103ad781f7", func := "sectime/sectimelaw02.HashGoesOn", spec := "hashGoesOn", inPlace := ["internal/abi.NoEscape"], apart := false }
def HashGoesOnSaid : Prop := hashGoesOnRow.holds Try.pinned (OpenSpec.ofChange hashGoesOnSpec)

/-- ITS FALSE NEIGHBOUR: 'it returns false'. Refute it at one input. -/
def hashGoesOnWrong : ChangeSpec := { name := "hashGoesOn", fn := fun _ => fun
  | [d1, d2] => { results := [.lit (.bool false)], args := [d1, d2] }
  | _ => none }
def HashGoesOnWrongFalsely : Prop := hashGoesOnRow.holds Try.pinned (OpenSpec.ofChange hashGoesOnWrong)

/- THE SECOND FORM. 'bulk': how many values and letters a reading holds, each counted each time it is reached (what is shared counts as often as it is met; a slice's spare places count too). A statement '..UptoSaid' is the law's where the arguments, and the package variables that the reading takes, are together of bulk at most 1048576: NARROWER than '..Said'. Prove '..Said' where nothing that the law and all that it calls make is longer than what came in: it says more and counts as full. Else prove '..UptoSaid'. A law counts once. -/
mutual
def uptoBulk {H : Type} : DataW H → Nat
  | .lit (.string bytes) => bytes.length + 1
  | .lit _ => 1
  | .nil => 1
  | .ptr d => uptoBulk d + 1
  | .slice elems spare => uptoBulkAll elems + uptoBulkAll spare + 1
  | .agg parts => uptoBulkAll parts + 1
  | .iface _ d => uptoBulk d + 1
  | .map entries => uptoBulkEntries entries + 1
  | .held _ => 1
def uptoBulkAll {H : Type} : List (DataW H) → Nat
  | [] => 0
  | d :: r => uptoBulk d + uptoBulkAll r
def uptoBulkEntries {H : Type} : List (Lit × DataW H) → Nat
  | [] => 0
  | x :: r => uptoBulkEntry x + uptoBulkEntries r
def uptoBulkEntry {H : Type} : Lit × DataW H → Nat
  | (.string bytes, d) => bytes.length + uptoBulk d + 1
  | (_, d) => uptoBulk d + 1
 end
def uptoSmall : (H : Type) → List (DataW H) → Bool := fun _ ds => decide (uptoBulkAll ds ≤ 1048576)
def OpenSpec.upto (s : _root_.Go.ChangeSpec) : _root_.Go.OpenSpec := { _root_.Go.OpenSpec.ofChange s with cond := some uptoSmall }

/-- 'sectimelaw02.HashEdges', WHERE WHAT IT READS IS OF BULK AT MOST 1048576: true; the input reads as it did. -/
def hashEdgesUptoRow : OpenClaim := { program := "yticknkaohjkjpaa", sum := "d803b905b8b262c6e541c678c765e4fbec943f051d717e90a0dd65103ad781f7", func := "sectime/sectimelaw02.HashEdges", spec := "hashEdges", inPlace := ["internal/abi.NoEscape"], apart := false, narrowed := true }
def HashEdgesUptoSaid : Prop := hashEdgesUptoRow.holds Try.pinned (OpenSpec.upto hashEdgesSpec)

/-- 'sectimelaw03.KdfKeys', WHERE WHAT IT READS IS OF BULK AT MOST 1048576: true; the input reads as it did. -/
def kdfKeysUptoRow : OpenClaim := { program := "yticknkaohjkjpaa", sum := "d803b905b8b262c6e541c678c765e4fbec943f051d717e90a0dd65103ad781f7", func := "sectime/sectimelaw03.KdfKeys", spec := "kdfKeys", inPlace := ["internal/abi.NoEscape"], apart := false, narrowed := true }
def KdfKeysUptoSaid : Prop := kdfKeysUptoRow.holds Try.pinned (OpenSpec.upto kdfKeysSpec)

/-- 'sectimelaw02.HashSums', WHERE WHAT IT READS IS OF BULK AT MOST 1048576: true; the input reads as it did. -/
def hashSumsUptoRow : OpenClaim := { program := "yticknkaohjkjpaa", sum := "d803b905b8b262c6e541c678c765e4fbec943f051d717e90a0dd65103ad781f7", func := "sectime/sectimelaw02.HashSums", spec := "hashSums", inPlace := ["internal/abi.NoEscape"], apart := false, narrowed := true }
def HashSumsUptoSaid : Prop := hashSumsUptoRow.holds Try.pinned (OpenSpec.upto hashSumsSpec)

/-- 'sectimelaw02.HashChains', WHERE WHAT IT READS IS OF BULK AT MOST 1048576: true; the input reads as it did. -/
def hashChainsUptoRow : OpenClaim := { program := "yticknkaohjkjpaa", sum := "d803b905b8b262c6e541c678c765e4fbec943f051d717e90a0dd65103ad781f7", func := "sectime/sectimelaw02.HashChains", spec := "hashChains", inPlace := ["internal/abi.NoEscape"], apart := false, narrowed := true }
def HashChainsUptoSaid : Prop := hashChainsUptoRow.holds Try.pinned (OpenSpec.upto hashChainsSpec)

/-- 'sectimelaw03.KdfLabels', WHERE WHAT IT READS IS OF BULK AT MOST 1048576: true; the input reads as it did. -/
def kdfLabelsUptoRow : OpenClaim := { program := "yticknkaohjkjpaa", sum := "d803b905b8b262c6e541c678c765e4fbec943f051d717e90a0dd65103ad781f7", func := "sectime/sectimelaw03.KdfLabels", spec := "kdfLabels", inPlace := ["internal/abi.NoEscape"], apart := false, narrowed := true }
def KdfLabelsUptoSaid : Prop := kdfLabelsUptoRow.holds Try.pinned (OpenSpec.upto kdfLabelsSpec)

/-- 'sectimelaw03.KdfPrefixes', WHERE WHAT IT READS IS OF BULK AT MOST 1048576: true; the input reads as it did. -/
def kdfPrefixesUptoRow : OpenClaim := { program := "yticknkaohjkjpaa", sum := "d803b905b8b262c6e541c678c765e4fbec943f051d717e90a0dd65103ad781f7", func := "sectime/sectimelaw03.KdfPrefixes", spec := "kdfPrefixes", inPlace := ["internal/abi.NoEscape"], apart := false, narrowed := true }
def KdfPrefixesUptoSaid : Prop := kdfPrefixesUptoRow.holds Try.pinned (OpenSpec.upto kdfPrefixesSpec)

/-- 'sectimelaw03.KdfActs', WHERE WHAT IT READS IS OF BULK AT MOST 1048576: true; the input reads as it did. -/
def kdfActsUptoRow : OpenClaim := { program := "yticknkaohjkjpaa", sum := "d803b905b8b262c6e541c678c765e4fbec943f051d717e90a0dd65103ad781f7", func := "sectime/sectimelaw03.KdfActs", spec := "kdfActs", inPlace := ["internal/abi.NoEscape"], apart := false, narrowed := true }
def KdfActsUptoSaid : Prop := kdfActsUptoRow.holds Try.pinned (OpenSpec.upto kdfActsSpec)

/-- 'sectimelaw03.KdfParts', WHERE WHAT IT READS IS OF BULK AT MOST 1048576: true; the input reads as it did. -/
def kdfPartsUptoRow : OpenClaim := { program := "yticknkaohjkjpaa", sum := "d803b905b8b262c6e541c678c765e4fbec943f051d717e90a0dd65103ad781f7", func := "sectime/sectimelaw03.KdfParts", spec := "kdfParts", inPlace := ["internal/abi.NoEscape"], apart := false, narrowed := true }
def KdfPartsUptoSaid : Prop := kdfPartsUptoRow.holds Try.pinned (OpenSpec.upto kdfPartsSpec)

/-- 'sectimelaw02.HashSteps', WHERE WHAT IT READS IS OF BULK AT MOST 1048576: true; the input reads as it did. -/
def hashStepsUptoRow : OpenClaim := { program := "yticknkaohjkjpaa", sum := "d803b905b8b262c6e541c678c765e4fbec943f051d717e90a0dd65103ad781f7", func := "sectime/sectimelaw02.HashSteps", spec := "hashSteps", inPlace := ["internal/abi.NoEscape"], apart := false, narrowed := true }
def HashStepsUptoSaid : Prop := hashStepsUptoRow.holds Try.pinned (OpenSpec.upto hashStepsSpec)

/-- 'sectimelaw02.HashInParts', WHERE WHAT IT READS IS OF BULK AT MOST 1048576: true; the input reads as it did. -/
def hashInPartsUptoRow : OpenClaim := { program := "yticknkaohjkjpaa", sum := "d803b905b8b262c6e541c678c765e4fbec943f051d717e90a0dd65103ad781f7", func := "sectime/sectimelaw02.HashInParts", spec := "hashInParts", inPlace := ["internal/abi.NoEscape"], apart := false, narrowed := true }
def HashInPartsUptoSaid : Prop := hashInPartsUptoRow.holds Try.pinned (OpenSpec.upto hashInPartsSpec)

/-- 'sectimelaw02.HashGoesOn', WHERE WHAT IT READS IS OF BULK AT MOST 1048576: true; the input reads as it did. -/
def hashGoesOnUptoRow : OpenClaim := { program := "yticknkaohjkjpaa", sum := "d803b905b8b262c6e541c678c765e4fbec943f051d717e90a0dd65103ad781f7", func := "sectime/sectimelaw02.HashGoesOn", spec := "hashGoesOn", inPlace := ["internal/abi.NoEscape"], apart := false, narrowed := true }
def HashGoesOnUptoSaid : Prop := hashGoesOnUptoRow.holds Try.pinned (OpenSpec.upto hashGoesOnSpec)

end Rows
end Go.Proofs.Yticknkaohjkjpaa
