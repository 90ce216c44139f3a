/-
  No cell of these rows narrows 'for every input' (looked for: loops, veiled, ifaces, maps, wideKeys, modest, calm, conditions, laid).
  DERIVED. THE GIVEN ROWS OF THIS SEAT. 9 by the template 'for every input the law returns true; each argument reads behind the call as it read before'; 0 by the template 'total and deterministic' (their statements: YtolgbnpginifkaaTotals.lean).
  GIVEN WITH THE SEED: the statements are not yours to turn. If you find one false, say at which input.
  Laid BY PROGRAM, IN A SANDBOX (cutbox-rows.mjs): the forced cells as the released guide's own fill.sh prints them over the translation 662dd30b323086ef… (all of the seat's roots in one cut). By AI agents, Wed Nov 11 2026. No macro, syntax, notation, axiom, sorry.
-/
import Derived.Test.YtolgbnpginifkaaChecked
import GoSem.Claim
import GoSem.ClaimJoined
import GoSem.ClaimMapViews
import Derived.JoinedTies
import Derived.KernelRfl
namespace Go.Proofs.Ytolgbnpginifkaa
/- THE CELL 'sum', in the pinned program and in every row, IS THE sha256 OF THE DUMP (.gsa) THAT YtolgbnpginifkaaProg.lean LOADS. Nothing in Lean hashes anything: it is a label: what it is worth is what the hold of that sum in a sandbox is worth. -/
noncomputable def Try.pinned : Pinned := { name := "ytolgbnpginifkaa", sum := "662dd30b323086efc5a84f9b60fe3749193ac1cc85991ef8460356b5c45337f2", checked := Try.checked }
namespace Rows
def none {H : Type} : Left H := { results := [], args := [] }

/-- 'lockgatelaw03.WireUnlike': WHATEVER THE INPUT: true; the input reads as it did. -/
def wireUnlikeSpec : ChangeSpec := { name := "wireUnlike", fn := fun _ => fun
  | [d1, d2, d3, d4] => { results := [.lit (.bool true)], args := [d1, d2, d3, d4] }
  | _ => none }
def wireUnlikeRow : OpenClaim := { program := "ytolgbnpginifkaa", sum := "662dd30b323086efc5a84f9b60fe3749193ac1cc85991ef8460356b5c45337f2", func := "lockgate/lockgatelaw03.WireUnlike", spec := "wireUnlike", apart := false }
def WireUnlikeSaid : Prop := wireUnlikeRow.holds Try.pinned (OpenSpec.ofChange wireUnlikeSpec)

/-- ITS FALSE NEIGHBOUR: 'it returns false'. Refute it at one input. -/
def wireUnlikeWrong : ChangeSpec := { name := "wireUnlike", fn := fun _ => fun
  | [d1, d2, d3, d4] => { results := [.lit (.bool false)], args := [d1, d2, d3, d4] }
  | _ => none }
def WireUnlikeWrongFalsely : Prop := wireUnlikeRow.holds Try.pinned (OpenSpec.ofChange wireUnlikeWrong)

/-- 'lockgatelaw03.WireBack': WHATEVER THE INPUT: true; the input reads as it did. -/
def wireBackSpec : ChangeSpec := { name := "wireBack", fn := fun _ => fun
  | [d1, d2, d3, d4] => { results := [.lit (.bool true)], args := [d1, d2, d3, d4] }
  | _ => none }
def wireBackRow : OpenClaim := { program := "ytolgbnpginifkaa", sum := "662dd30b323086efc5a84f9b60fe3749193ac1cc85991ef8460356b5c45337f2", func := "lockgate/lockgatelaw03.WireBack", spec := "wireBack", apart := false }
def WireBackSaid : Prop := wireBackRow.holds Try.pinned (OpenSpec.ofChange wireBackSpec)

/-- ITS FALSE NEIGHBOUR: 'it returns false'. Refute it at one input. -/
def wireBackWrong : ChangeSpec := { name := "wireBack", fn := fun _ => fun
  | [d1, d2, d3, d4] => { results := [.lit (.bool false)], args := [d1, d2, d3, d4] }
  | _ => none }
def WireBackWrongFalsely : Prop := wireBackRow.holds Try.pinned (OpenSpec.ofChange wireBackWrong)

/-- 'lockgatelaw03.WireKeeps': WHATEVER THE INPUT: true; the input reads as it did. -/
def wireKeepsSpec : ChangeSpec := { name := "wireKeeps", fn := fun _ => fun
  | [d1, d2] => { results := [.lit (.bool true)], args := [d1, d2] }
  | _ => none }
def wireKeepsRow : OpenClaim := { program := "ytolgbnpginifkaa", sum := "662dd30b323086efc5a84f9b60fe3749193ac1cc85991ef8460356b5c45337f2", func := "lockgate/lockgatelaw03.WireKeeps", spec := "wireKeeps", apart := false }
def WireKeepsSaid : Prop := wireKeepsRow.holds Try.pinned (OpenSpec.ofChange wireKeepsSpec)

/-- ITS FALSE NEIGHBOUR: 'it returns false'. Refute it at one input. -/
def wireKeepsWrong : ChangeSpec := { name := "wireKeeps", fn := fun _ => fun
  | [d1, d2] => { results := [.lit (.bool false)], args := [d1, d2] }
  | _ => none }
def WireKeepsWrongFalsely : Prop := wireKeepsRow.holds Try.pinned (OpenSpec.ofChange wireKeepsWrong)

/-- 'lockgatelaw03.WirePuts': WHATEVER THE INPUT: true; the input reads as it did. -/
def wirePutsSpec : ChangeSpec := { name := "wirePuts", fn := fun _ => fun
  | [d1, d2, d3, d4, d5, d6] => { results := [.lit (.bool true)], args := [d1, d2, d3, d4, d5, d6] }
  | _ => none }
def wirePutsRow : OpenClaim := { program := "ytolgbnpginifkaa", sum := "662dd30b323086efc5a84f9b60fe3749193ac1cc85991ef8460356b5c45337f2", func := "lockgate/lockgatelaw03.WirePuts", spec := "wirePuts", apart := false }
def WirePutsSaid : Prop := wirePutsRow.holds Try.pinned (OpenSpec.ofChange wirePutsSpec)

/-- ITS FALSE NEIGHBOUR: 'it returns false'. Refute it at one input. -/
def wirePutsWrong : ChangeSpec := { name := "wirePuts", fn := fun _ => fun
  | [d1, d2, d3, d4, d5, d6] => { results := [.lit (.bool false)], args := [d1, d2, d3, d4, d5, d6] }
  | _ => none }
def WirePutsWrongFalsely : Prop := wirePutsRow.holds Try.pinned (OpenSpec.ofChange wirePutsWrong)

/-- 'lockgatelaw03.WireGets': WHATEVER THE INPUT: true; the input reads as it did. -/
def wireGetsSpec : ChangeSpec := { name := "wireGets", fn := fun _ => fun
  | [d1, d2] => { results := [.lit (.bool true)], args := [d1, d2] }
  | _ => none }
def wireGetsRow : OpenClaim := { program := "ytolgbnpginifkaa", sum := "662dd30b323086efc5a84f9b60fe3749193ac1cc85991ef8460356b5c45337f2", func := "lockgate/lockgatelaw03.WireGets", spec := "wireGets", apart := false }
def WireGetsSaid : Prop := wireGetsRow.holds Try.pinned (OpenSpec.ofChange wireGetsSpec)

/-- ITS FALSE NEIGHBOUR: 'it returns false'. Refute it at one input. -/
def wireGetsWrong : ChangeSpec := { name := "wireGets", fn := fun _ => fun
  | [d1, d2] => { results := [.lit (.bool false)], args := [d1, d2] }
  | _ => none }
def WireGetsWrongFalsely : Prop := wireGetsRow.holds Try.pinned (OpenSpec.ofChange wireGetsWrong)

/-- 'lockgatelaw05.EntryGets': WHATEVER THE INPUT: true; the input reads as it did. -/
def entryGetsSpec : ChangeSpec := { name := "entryGets", fn := fun _ => fun
  | [d1, d2] => { results := [.lit (.bool true)], args := [d1, d2] }
  | _ => none }
def entryGetsRow : OpenClaim := { program := "ytolgbnpginifkaa", sum := "662dd30b323086efc5a84f9b60fe3749193ac1cc85991ef8460356b5c45337f2", func := "lockgate/lockgatelaw05.EntryGets", spec := "entryGets", unfollowed := true, recurses := true, apart := false }
def EntryGetsSaid : Prop := entryGetsRow.holds Try.pinned (OpenSpec.ofChange entryGetsSpec)

/-- ITS FALSE NEIGHBOUR: 'it returns false'. Refute it at one input. -/
def entryGetsWrong : ChangeSpec := { name := "entryGets", fn := fun _ => fun
  | [d1, d2] => { results := [.lit (.bool false)], args := [d1, d2] }
  | _ => none }
def EntryGetsWrongFalsely : Prop := entryGetsRow.holds Try.pinned (OpenSpec.ofChange entryGetsWrong)

/-- 'lockgatelaw05.EntryKeeps': WHATEVER THE INPUT: true; the input reads as it did. -/
def entryKeepsSpec : ChangeSpec := { name := "entryKeeps", fn := fun _ => fun
  | [d1, d2] => { results := [.lit (.bool true)], args := [d1, d2] }
  | _ => none }
def entryKeepsRow : OpenClaim := { program := "ytolgbnpginifkaa", sum := "662dd30b323086efc5a84f9b60fe3749193ac1cc85991ef8460356b5c45337f2", func := "lockgate/lockgatelaw05.EntryKeeps", spec := "entryKeeps", unfollowed := true, recurses := true, apart := false }
def EntryKeepsSaid : Prop := entryKeepsRow.holds Try.pinned (OpenSpec.ofChange entryKeepsSpec)

/-- ITS FALSE NEIGHBOUR: 'it returns false'. Refute it at one input. -/
def entryKeepsWrong : ChangeSpec := { name := "entryKeeps", fn := fun _ => fun
  | [d1, d2] => { results := [.lit (.bool false)], args := [d1, d2] }
  | _ => none }
def EntryKeepsWrongFalsely : Prop := entryKeepsRow.holds Try.pinned (OpenSpec.ofChange entryKeepsWrong)

/-- 'lockgatelaw06.MsgGets': WHATEVER THE INPUT: true; the input reads as it did. -/
def msgGetsSpec : ChangeSpec := { name := "msgGets", fn := fun _ => fun
  | [d] => { results := [.lit (.bool true)], args := [d] }
  | _ => none }
def msgGetsRow : OpenClaim := { program := "ytolgbnpginifkaa", sum := "662dd30b323086efc5a84f9b60fe3749193ac1cc85991ef8460356b5c45337f2", func := "lockgate/lockgatelaw06.MsgGets", spec := "msgGets", unfollowed := true, recurses := true, apart := false }
def MsgGetsSaid : Prop := msgGetsRow.holds Try.pinned (OpenSpec.ofChange msgGetsSpec)

/-- ITS FALSE NEIGHBOUR: 'it returns false'. Refute it at one input. -/
def msgGetsWrong : ChangeSpec := { name := "msgGets", fn := fun _ => fun
  | [d] => { results := [.lit (.bool false)], args := [d] }
  | _ => none }
def MsgGetsWrongFalsely : Prop := msgGetsRow.holds Try.pinned (OpenSpec.ofChange msgGetsWrong)

/-- 'lockgatelaw06.MsgParts': WHATEVER THE INPUT: true; the input reads as it did. -/
def msgPartsSpec : ChangeSpec := { name := "msgParts", fn := fun _ => fun
  | [d1, d2] => { results := [.lit (.bool true)], args := [d1, d2] }
  | _ => none }
def msgPartsRow : OpenClaim := { program := "ytolgbnpginifkaa", sum := "662dd30b323086efc5a84f9b60fe3749193ac1cc85991ef8460356b5c45337f2", func := "lockgate/lockgatelaw06.MsgParts", spec := "msgParts", unfollowed := true, recurses := true, apart := false }
def MsgPartsSaid : Prop := msgPartsRow.holds Try.pinned (OpenSpec.ofChange msgPartsSpec)

/-- ITS FALSE NEIGHBOUR: 'it returns false'. Refute it at one input. -/
def msgPartsWrong : ChangeSpec := { name := "msgParts", fn := fun _ => fun
  | [d1, d2] => { results := [.lit (.bool false)], args := [d1, d2] }
  | _ => none }
def MsgPartsWrongFalsely : Prop := msgPartsRow.holds Try.pinned (OpenSpec.ofChange msgPartsWrong)

/- THE SECOND FORM. 'bulk': how many values and letters a reading holds, each counted each time it is reached (what is shared counts as often as it is met; a slice's spare places count too). A statement '..UptoSaid' is the law's where the arguments, and the package variables that the reading takes, are together of bulk at most 1048576: NARROWER than '..Said'. Prove '..Said' where nothing that the law and all that it calls make is longer than what came in: it says more and counts as full. Else prove '..UptoSaid'. A law counts once. -/
mutual
def uptoBulk {H : Type} : DataW H → Nat
  | .lit (.string bytes) => bytes.length + 1
  | .lit _ => 1
  | .nil => 1
  | .ptr d => uptoBulk d + 1
  | .slice elems spare => uptoBulkAll elems + uptoBulkAll spare + 1
  | .agg parts => uptoBulkAll parts + 1
  | .iface _ d => uptoBulk d + 1
  | .map entries => uptoBulkEntries entries + 1
  | .held _ => 1
def uptoBulkAll {H : Type} : List (DataW H) → Nat
  | [] => 0
  | d :: r => uptoBulk d + uptoBulkAll r
def uptoBulkEntries {H : Type} : List (Lit × DataW H) → Nat
  | [] => 0
  | x :: r => uptoBulkEntry x + uptoBulkEntries r
def uptoBulkEntry {H : Type} : Lit × DataW H → Nat
  | (.string bytes, d) => bytes.length + uptoBulk d + 1
  | (_, d) => uptoBulk d + 1
 end
def uptoSmall : (H : Type) → List (DataW H) → Bool := fun _ ds => decide (uptoBulkAll ds ≤ 1048576)
def OpenSpec.upto (s : _root_.Go.ChangeSpec) : _root_.Go.OpenSpec := { _root_.Go.OpenSpec.ofChange s with cond := some uptoSmall }

/-- 'lockgatelaw03.WireUnlike', WHERE WHAT IT READS IS OF BULK AT MOST 1048576: true; the input reads as it did. -/
def wireUnlikeUptoRow : OpenClaim := { program := "ytolgbnpginifkaa", sum := "662dd30b323086efc5a84f9b60fe3749193ac1cc85991ef8460356b5c45337f2", func := "lockgate/lockgatelaw03.WireUnlike", spec := "wireUnlike", apart := false, narrowed := true }
def WireUnlikeUptoSaid : Prop := wireUnlikeUptoRow.holds Try.pinned (OpenSpec.upto wireUnlikeSpec)

/-- 'lockgatelaw03.WireBack', WHERE WHAT IT READS IS OF BULK AT MOST 1048576: true; the input reads as it did. -/
def wireBackUptoRow : OpenClaim := { program := "ytolgbnpginifkaa", sum := "662dd30b323086efc5a84f9b60fe3749193ac1cc85991ef8460356b5c45337f2", func := "lockgate/lockgatelaw03.WireBack", spec := "wireBack", apart := false, narrowed := true }
def WireBackUptoSaid : Prop := wireBackUptoRow.holds Try.pinned (OpenSpec.upto wireBackSpec)

/-- 'lockgatelaw03.WireKeeps', WHERE WHAT IT READS IS OF BULK AT MOST 1048576: true; the input reads as it did. -/
def wireKeepsUptoRow : OpenClaim := { program := "ytolgbnpginifkaa", sum := "662dd30b323086efc5a84f9b60fe3749193ac1cc85991ef8460356b5c45337f2", func := "lockgate/lockgatelaw03.WireKeeps", spec := "wireKeeps", apart := false, narrowed := true }
def WireKeepsUptoSaid : Prop := wireKeepsUptoRow.holds Try.pinned (OpenSpec.upto wireKeepsSpec)

/-- 'lockgatelaw03.WirePuts', WHERE WHAT IT READS IS OF BULK AT MOST 1048576: true; the input reads as it did. -/
def wirePutsUptoRow : OpenClaim := { program := "ytolgbnpginifkaa", sum := "662dd30b323086efc5a84f9b60fe3749193ac1cc85991ef8460356b5c45337f2", func := "lockgate/lockgatelaw03.WirePuts", spec := "wirePuts", apart := false, narrowed := true }
def WirePutsUptoSaid : Prop := wirePutsUptoRow.holds Try.pinned (OpenSpec.upto wirePutsSpec)

/-- 'lockgatelaw03.WireGets', WHERE WHAT IT READS IS OF BULK AT MOST 1048576: true; the input reads as it did. -/
def wireGetsUptoRow : OpenClaim := { program := "ytolgbnpginifkaa", sum := "662dd30b323086efc5a84f9b60fe3749193ac1cc85991ef8460356b5c45337f2", func := "lockgate/lockgatelaw03.WireGets", spec := "wireGets", apart := false, narrowed := true }
def WireGetsUptoSaid : Prop := wireGetsUptoRow.holds Try.pinned (OpenSpec.upto wireGetsSpec)

/-- 'lockgatelaw05.EntryGets', WHERE WHAT IT READS IS OF BULK AT MOST 1048576: true; the input reads as it did. -/
def entryGetsUptoRow : OpenClaim := { program := "ytolgbnpginifkaa", sum := "662dd30b323086efc5a84f9b60fe3749193ac1cc85991ef8460356b5c45337f2", func := "lockgate/lockgatelaw05.EntryGets", spec := "entryGets", unfollowed := true, recurses := true, apart := false, narrowed := true }
def EntryGetsUptoSaid : Prop := entryGetsUptoRow.holds Try.pinned (OpenSpec.upto entryGetsSpec)

/-- 'lockgatelaw05.EntryKeeps', WHERE WHAT IT READS IS OF BULK AT MOST 1048576: true; the input reads as it did. -/
def entryKeepsUptoRow : OpenClaim := { program := "ytolgbnpginifkaa", sum := "662dd30b323086efc5a84f9b60fe3749193ac1cc85991ef8460356b5c45337f2", func := "lockgate/lockgatelaw05.EntryKeeps", spec := "entryKeeps", unfollowed := true, recurses := true, apart := false, narrowed := true }
def EntryKeepsUptoSaid : Prop := entryKeepsUptoRow.holds Try.pinned (OpenSpec.upto entryKeepsSpec)

/-- 'lockgatelaw06.MsgGets', WHERE WHAT IT READS IS OF BULK AT MOST 1048576: true; the input reads as it did. -/
def msgGetsUptoRow : OpenClaim := { program := "ytolgbnpginifkaa", sum := "662dd30b323086efc5a84f9b60fe3749193ac1cc85991ef8460356b5c45337f2", func := "lockgate/lockgatelaw06.MsgGets", spec := "msgGets", unfollowed := true, recurses := true, apart := false, narrowed := true }
def MsgGetsUptoSaid : Prop := msgGetsUptoRow.holds Try.pinned (OpenSpec.upto msgGetsSpec)

/-- 'lockgatelaw06.MsgParts', WHERE WHAT IT READS IS OF BULK AT MOST 1048576: true; the input reads as it did. -/
def msgPartsUptoRow : OpenClaim := { program := "ytolgbnpginifkaa", sum := "662dd30b323086efc5a84f9b60fe3749193ac1cc85991ef8460356b5c45337f2", func := "lockgate/lockgatelaw06.MsgParts", spec := "msgParts", unfollowed := true, recurses := true, apart := false, narrowed := true }
def MsgPartsUptoSaid : Prop := msgPartsUptoRow.holds Try.pinned (OpenSpec.upto msgPartsSpec)

end Rows
end Go.Proofs.Ytolgbnpginifkaa
