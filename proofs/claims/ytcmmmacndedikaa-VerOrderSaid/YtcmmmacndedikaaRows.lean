/-
  No cell of these rows narrows 'for every input' (looked for: loops, veiled, ifaces, maps, wideKeys, modest, calm, conditions, laid).
  DERIVED. THE GIVEN ROWS OF THIS SEAT. 8 by the template 'for every input the law returns true; each argument reads behind the call as it read before'; 0 by the template 'total and deterministic' (their statements: YtcmmmacndedikaaTotals.lean).
  GIVEN WITH THE SEED: the statements are not yours to turn. If you find one false, say at which input.
  Laid BY PROGRAM, IN A SANDBOX (cutbox-rows.mjs): the forced cells as the released guide's own fill.sh prints them over the translation c0f30b44a46c7d62… (all of the seat's roots in one cut). By AI agents, Wed Nov 11 2026. No macro, syntax, notation, axiom, sorry.
-/
import Derived.Test.YtcmmmacndedikaaChecked
import GoSem.Claim
import GoSem.ClaimJoined
import GoSem.ClaimMapViews
import Derived.JoinedTies
import Derived.KernelRfl
namespace Go.Proofs.Ytcmmmacndedikaa
/- THE CELL 'sum', in the pinned program and in every row, IS THE sha256 OF THE DUMP (.gsa) THAT YtcmmmacndedikaaProg.lean LOADS. Nothing in Lean hashes anything: it is a label: what it is worth is what the hold of that sum in a sandbox is worth. -/
noncomputable def Try.pinned : Pinned := { name := "ytcmmmacndedikaa", sum := "c0f30b44a46c7d6287ce0e8b84e152d51bfbcd53a429ef2aad161857fc8d033c", checked := Try.checked }
namespace Rows
def none {H : Type} : Left H := { results := [], args := [] }

/-- 'lockgatelaw13.MarkSteps': WHATEVER THE INPUT: true; the input reads as it did. -/
def markStepsSpec : ChangeSpec := { name := "markSteps", fn := fun _ => fun
  | [d1, d2, d3, d4] => { results := [.lit (.bool true)], args := [d1, d2, d3, d4] }
  | _ => none }
def markStepsRow : OpenClaim := { program := "ytcmmmacndedikaa", sum := "c0f30b44a46c7d6287ce0e8b84e152d51bfbcd53a429ef2aad161857fc8d033c", func := "lockgate/lockgatelaw13.MarkSteps", spec := "markSteps", apart := false }
def MarkStepsSaid : Prop := markStepsRow.holds Try.pinned (OpenSpec.ofChange markStepsSpec)

/-- ITS FALSE NEIGHBOUR: 'it returns false'. Refute it at one input. -/
def markStepsWrong : ChangeSpec := { name := "markSteps", fn := fun _ => fun
  | [d1, d2, d3, d4] => { results := [.lit (.bool false)], args := [d1, d2, d3, d4] }
  | _ => none }
def MarkStepsWrongFalsely : Prop := markStepsRow.holds Try.pinned (OpenSpec.ofChange markStepsWrong)

/-- 'lockgatelaw13.MarkOnce': WHATEVER THE INPUT: true; the input reads as it did. -/
def markOnceSpec : ChangeSpec := { name := "markOnce", fn := fun _ => fun
  | [d1, d2, d3] => { results := [.lit (.bool true)], args := [d1, d2, d3] }
  | _ => none }
def markOnceRow : OpenClaim := { program := "ytcmmmacndedikaa", sum := "c0f30b44a46c7d6287ce0e8b84e152d51bfbcd53a429ef2aad161857fc8d033c", func := "lockgate/lockgatelaw13.MarkOnce", spec := "markOnce", apart := false }
def MarkOnceSaid : Prop := markOnceRow.holds Try.pinned (OpenSpec.ofChange markOnceSpec)

/-- ITS FALSE NEIGHBOUR: 'it returns false'. Refute it at one input. -/
def markOnceWrong : ChangeSpec := { name := "markOnce", fn := fun _ => fun
  | [d1, d2, d3] => { results := [.lit (.bool false)], args := [d1, d2, d3] }
  | _ => none }
def MarkOnceWrongFalsely : Prop := markOnceRow.holds Try.pinned (OpenSpec.ofChange markOnceWrong)

/-- 'lockgatelaw13.MarkTwice': WHATEVER THE INPUT: true; the input reads as it did. -/
def markTwiceSpec : ChangeSpec := { name := "markTwice", fn := fun _ => fun
  | [d1, d2, d3, d4, d5] => { results := [.lit (.bool true)], args := [d1, d2, d3, d4, d5] }
  | _ => none }
def markTwiceRow : OpenClaim := { program := "ytcmmmacndedikaa", sum := "c0f30b44a46c7d6287ce0e8b84e152d51bfbcd53a429ef2aad161857fc8d033c", func := "lockgate/lockgatelaw13.MarkTwice", spec := "markTwice", apart := false }
def MarkTwiceSaid : Prop := markTwiceRow.holds Try.pinned (OpenSpec.ofChange markTwiceSpec)

/-- ITS FALSE NEIGHBOUR: 'it returns false'. Refute it at one input. -/
def markTwiceWrong : ChangeSpec := { name := "markTwice", fn := fun _ => fun
  | [d1, d2, d3, d4, d5] => { results := [.lit (.bool false)], args := [d1, d2, d3, d4, d5] }
  | _ => none }
def MarkTwiceWrongFalsely : Prop := markTwiceRow.holds Try.pinned (OpenSpec.ofChange markTwiceWrong)

/-- 'lockgatelaw01.VerParts': WHATEVER THE INPUT: true; the input reads as it did. -/
def verPartsSpec : ChangeSpec := { name := "verParts", fn := fun _ => fun
  | [d1, d2] => { results := [.lit (.bool true)], args := [d1, d2] }
  | _ => none }
def verPartsRow : OpenClaim := { program := "ytcmmmacndedikaa", sum := "c0f30b44a46c7d6287ce0e8b84e152d51bfbcd53a429ef2aad161857fc8d033c", func := "lockgate/lockgatelaw01.VerParts", spec := "verParts", inPlace := ["math.archTrunc", "math.Float64bits", "math.Float64frombits"], apart := false }
def VerPartsSaid : Prop := verPartsRow.holds Try.pinned (OpenSpec.ofChange verPartsSpec)

/-- ITS FALSE NEIGHBOUR: 'it returns false'. Refute it at one input. -/
def verPartsWrong : ChangeSpec := { name := "verParts", fn := fun _ => fun
  | [d1, d2] => { results := [.lit (.bool false)], args := [d1, d2] }
  | _ => none }
def VerPartsWrongFalsely : Prop := verPartsRow.holds Try.pinned (OpenSpec.ofChange verPartsWrong)

/-- 'lockgatelaw01.VerRights': WHATEVER THE INPUT: true; the input reads as it did. -/
def verRightsSpec : ChangeSpec := { name := "verRights", fn := fun _ => fun
  | [d1, d2] => { results := [.lit (.bool true)], args := [d1, d2] }
  | _ => none }
def verRightsRow : OpenClaim := { program := "ytcmmmacndedikaa", sum := "c0f30b44a46c7d6287ce0e8b84e152d51bfbcd53a429ef2aad161857fc8d033c", func := "lockgate/lockgatelaw01.VerRights", spec := "verRights", inPlace := ["math.archTrunc", "math.Float64bits", "math.Float64frombits"], apart := false }
def VerRightsSaid : Prop := verRightsRow.holds Try.pinned (OpenSpec.ofChange verRightsSpec)

/-- ITS FALSE NEIGHBOUR: 'it returns false'. Refute it at one input. -/
def verRightsWrong : ChangeSpec := { name := "verRights", fn := fun _ => fun
  | [d1, d2] => { results := [.lit (.bool false)], args := [d1, d2] }
  | _ => none }
def VerRightsWrongFalsely : Prop := verRightsRow.holds Try.pinned (OpenSpec.ofChange verRightsWrong)

/-- 'lockgatelaw01.VerPairs': WHATEVER THE INPUT: true; the input reads as it did. -/
def verPairsSpec : ChangeSpec := { name := "verPairs", fn := fun _ => fun
  | [d1, d2, d3, d4] => { results := [.lit (.bool true)], args := [d1, d2, d3, d4] }
  | _ => none }
def verPairsRow : OpenClaim := { program := "ytcmmmacndedikaa", sum := "c0f30b44a46c7d6287ce0e8b84e152d51bfbcd53a429ef2aad161857fc8d033c", func := "lockgate/lockgatelaw01.VerPairs", spec := "verPairs", inPlace := ["math.archTrunc", "math.Float64bits", "math.Float64frombits"], apart := false }
def VerPairsSaid : Prop := verPairsRow.holds Try.pinned (OpenSpec.ofChange verPairsSpec)

/-- ITS FALSE NEIGHBOUR: 'it returns false'. Refute it at one input. -/
def verPairsWrong : ChangeSpec := { name := "verPairs", fn := fun _ => fun
  | [d1, d2, d3, d4] => { results := [.lit (.bool false)], args := [d1, d2, d3, d4] }
  | _ => none }
def VerPairsWrongFalsely : Prop := verPairsRow.holds Try.pinned (OpenSpec.ofChange verPairsWrong)

/-- 'lockgatelaw01.VerOrder': WHATEVER THE INPUT: true; the input reads as it did. -/
def verOrderSpec : ChangeSpec := { name := "verOrder", fn := fun _ => fun
  | [d1, d2, d3, d4, d5, d6] => { results := [.lit (.bool true)], args := [d1, d2, d3, d4, d5, d6] }
  | _ => none }
def verOrderRow : OpenClaim := { program := "ytcmmmacndedikaa", sum := "c0f30b44a46c7d6287ce0e8b84e152d51bfbcd53a429ef2aad161857fc8d033c", func := "lockgate/lockgatelaw01.VerOrder", spec := "verOrder", inPlace := ["math.archTrunc", "math.Float64bits", "math.Float64frombits"], apart := false }
def VerOrderSaid : Prop := verOrderRow.holds Try.pinned (OpenSpec.ofChange verOrderSpec)

/-- ITS FALSE NEIGHBOUR: 'it returns false'. Refute it at one input. -/
def verOrderWrong : ChangeSpec := { name := "verOrder", fn := fun _ => fun
  | [d1, d2, d3, d4, d5, d6] => { results := [.lit (.bool false)], args := [d1, d2, d3, d4, d5, d6] }
  | _ => none }
def VerOrderWrongFalsely : Prop := verOrderRow.holds Try.pinned (OpenSpec.ofChange verOrderWrong)

/-- 'lockgatelaw01.VerNext': WHATEVER THE INPUT: true; the input reads as it did. -/
def verNextSpec : ChangeSpec := { name := "verNext", fn := fun _ => fun
  | [d1, d2, d3] => { results := [.lit (.bool true)], args := [d1, d2, d3] }
  | _ => none }
def verNextRow : OpenClaim := { program := "ytcmmmacndedikaa", sum := "c0f30b44a46c7d6287ce0e8b84e152d51bfbcd53a429ef2aad161857fc8d033c", func := "lockgate/lockgatelaw01.VerNext", spec := "verNext", inPlace := ["math.archTrunc", "math.Float64bits", "math.Float64frombits"], apart := false }
def VerNextSaid : Prop := verNextRow.holds Try.pinned (OpenSpec.ofChange verNextSpec)

/-- ITS FALSE NEIGHBOUR: 'it returns false'. Refute it at one input. -/
def verNextWrong : ChangeSpec := { name := "verNext", fn := fun _ => fun
  | [d1, d2, d3] => { results := [.lit (.bool false)], args := [d1, d2, d3] }
  | _ => none }
def VerNextWrongFalsely : Prop := verNextRow.holds Try.pinned (OpenSpec.ofChange verNextWrong)

/- THE SECOND FORM. 'bulk': how many values and letters a reading holds, each counted each time it is reached (what is shared counts as often as it is met; a slice's spare places count too). A statement '..UptoSaid' is the law's where the arguments, and the package variables that the reading takes, are together of bulk at most 1048576: NARROWER than '..Said'. Prove '..Said' where nothing that the law and all that it calls make is longer than what came in: it says more and counts as full. Else prove '..UptoSaid'. A law counts once. -/
mutual
def uptoBulk {H : Type} : DataW H → Nat
  | .lit (.string bytes) => bytes.length + 1
  | .lit _ => 1
  | .nil => 1
  | .ptr d => uptoBulk d + 1
  | .slice elems spare => uptoBulkAll elems + uptoBulkAll spare + 1
  | .agg parts => uptoBulkAll parts + 1
  | .iface _ d => uptoBulk d + 1
  | .map entries => uptoBulkEntries entries + 1
  | .held _ => 1
def uptoBulkAll {H : Type} : List (DataW H) → Nat
  | [] => 0
  | d :: r => uptoBulk d + uptoBulkAll r
def uptoBulkEntries {H : Type} : List (Lit × DataW H) → Nat
  | [] => 0
  | x :: r => uptoBulkEntry x + uptoBulkEntries r
def uptoBulkEntry {H : Type} : Lit × DataW H → Nat
  | (.string bytes, d) => bytes.length + uptoBulk d + 1
  | (_, d) => uptoBulk d + 1
 end
def uptoSmall : (H : Type) → List (DataW H) → Bool := fun _ ds => decide (uptoBulkAll ds ≤ 1048576)
def OpenSpec.upto (s : _root_.Go.ChangeSpec) : _root_.Go.OpenSpec := { _root_.Go.OpenSpec.ofChange s with cond := some uptoSmall }

/-- 'lockgatelaw13.MarkSteps', WHERE WHAT IT READS IS OF BULK AT MOST 1048576: true; the input reads as it did. -/
def markStepsUptoRow : OpenClaim := { program := "ytcmmmacndedikaa", sum := "c0f30b44a46c7d6287ce0e8b84e152d51bfbcd53a429ef2aad161857fc8d033c", func := "lockgate/lockgatelaw13.MarkSteps", spec := "markSteps", apart := false, narrowed := true }
def MarkStepsUptoSaid : Prop := markStepsUptoRow.holds Try.pinned (OpenSpec.upto markStepsSpec)

/-- 'lockgatelaw13.MarkOnce', WHERE WHAT IT READS IS OF BULK AT MOST 1048576: true; the input reads as it did. -/
def markOnceUptoRow : OpenClaim := { program := "ytcmmmacndedikaa", sum := "c0f30b44a46c7d6287ce0e8b84e152d51bfbcd53a429ef2aad161857fc8d033c", func := "lockgate/lockgatelaw13.MarkOnce", spec := "markOnce", apart := false, narrowed := true }
def MarkOnceUptoSaid : Prop := markOnceUptoRow.holds Try.pinned (OpenSpec.upto markOnceSpec)

/-- 'lockgatelaw13.MarkTwice', WHERE WHAT IT READS IS OF BULK AT MOST 1048576: true; the input reads as it did. -/
def markTwiceUptoRow : OpenClaim := { program := "ytcmmmacndedikaa", sum := "c0f30b44a46c7d6287ce0e8b84e152d51bfbcd53a429ef2aad161857fc8d033c", func := "lockgate/lockgatelaw13.MarkTwice", spec := "markTwice", apart := false, narrowed := true }
def MarkTwiceUptoSaid : Prop := markTwiceUptoRow.holds Try.pinned (OpenSpec.upto markTwiceSpec)

/-- 'lockgatelaw01.VerParts', WHERE WHAT IT READS IS OF BULK AT MOST 1048576: true; the input reads as it did. -/
def verPartsUptoRow : OpenClaim := { program := "ytcmmmacndedikaa", sum := "c0f30b44a46c7d6287ce0e8b84e152d51bfbcd53a429ef2aad161857fc8d033c", func := "lockgate/lockgatelaw01.VerParts", spec := "verParts", inPlace := ["math.archTrunc", "math.Float64bits", "math.Float64frombits"], apart := false, narrowed := true }
def VerPartsUptoSaid : Prop := verPartsUptoRow.holds Try.pinned (OpenSpec.upto verPartsSpec)

/-- 'lockgatelaw01.VerRights', WHERE WHAT IT READS IS OF BULK AT MOST 1048576: true; the input reads as it did. -/
def verRightsUptoRow : OpenClaim := { program := "ytcmmmacndedikaa", sum := "c0f30b44a46c7d6287ce0e8b84e152d51bfbcd53a429ef2aad161857fc8d033c", func := "lockgate/lockgatelaw01.VerRights", spec := "verRights", inPlace := ["math.archTrunc", "math.Float64bits", "math.Float64frombits"], apart := false, narrowed := true }
def VerRightsUptoSaid : Prop := verRightsUptoRow.holds Try.pinned (OpenSpec.upto verRightsSpec)

/-- 'lockgatelaw01.VerPairs', WHERE WHAT IT READS IS OF BULK AT MOST 1048576: true; the input reads as it did. -/
def verPairsUptoRow : OpenClaim := { program := "ytcmmmacndedikaa", sum := "c0f30b44a46c7d6287ce0e8b84e152d51bfbcd53a429ef2aad161857fc8d033c", func := "lockgate/lockgatelaw01.VerPairs", spec := "verPairs", inPlace := ["math.archTrunc", "math.Float64bits", "math.Float64frombits"], apart := false, narrowed := true }
def VerPairsUptoSaid : Prop := verPairsUptoRow.holds Try.pinned (OpenSpec.upto verPairsSpec)

/-- 'lockgatelaw01.VerOrder', WHERE WHAT IT READS IS OF BULK AT MOST 1048576: true; the input reads as it did. -/
def verOrderUptoRow : OpenClaim := { program := "ytcmmmacndedikaa", sum := "c0f30b44a46c7d6287ce0e8b84e152d51bfbcd53a429ef2aad161857fc8d033c", func := "lockgate/lockgatelaw01.VerOrder", spec := "verOrder", inPlace := ["math.archTrunc", "math.Float64bits", "math.Float64frombits"], apart := false, narrowed := true }
def VerOrderUptoSaid : Prop := verOrderUptoRow.holds Try.pinned (OpenSpec.upto verOrderSpec)

/-- 'lockgatelaw01.VerNext', WHERE WHAT IT READS IS OF BULK AT MOST 1048576: true; the input reads as it did. -/
def verNextUptoRow : OpenClaim := { program := "ytcmmmacndedikaa", sum := "c0f30b44a46c7d6287ce0e8b84e152d51bfbcd53a429ef2aad161857fc8d033c", func := "lockgate/lockgatelaw01.VerNext", spec := "verNext", inPlace := ["math.archTrunc", "math.Float64bits", "math.Float64frombits"], apart := false, narrowed := true }
def VerNextUptoSaid : Prop := verNextUptoRow.holds Try.pinned (OpenSpec.upto verNextSpec)

end Rows
end Go.Proofs.Ytcmmmacndedikaa
