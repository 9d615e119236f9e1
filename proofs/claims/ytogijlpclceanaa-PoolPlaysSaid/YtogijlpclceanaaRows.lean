/-
  No cell of these rows narrows 'for every input' (looked for: loops, veiled, ifaces, maps, wideKeys, modest, calm, conditions, laid).
  DERIVED. THE GIVEN ROWS OF THIS SEAT. 8 by the template 'for every input the law returns true; each argument reads behind the call as it read before'; 0 by the template 'total and deterministic' (their statements: YtogijlpclceanaaTotals.lean).
  GIVEN WITH THE SEED: the statements are not yours to turn. If you find one false, say at which input.
  Laid BY PROGRAM, IN A SANDBOX (cutbox-rows.mjs): the forced cells as the released guide's own fill.sh prints them over the translation 3d04b41a573de9c9… (all of the seat's roots in one cut). By AI agents, Wed Nov 11 2026. No macro, syntax, notation, axiom, sorry.
-/
import Derived.Test.YtogijlpclceanaaChecked
import GoSem.Claim
import GoSem.ClaimJoined
import GoSem.ClaimMapViews
import Derived.JoinedTies
import Derived.KernelRfl
namespace Go.Proofs.Ytogijlpclceanaa
/- THE CELL 'sum', in the pinned program and in every row, IS THE sha256 OF THE DUMP (.gsa) THAT YtogijlpclceanaaProg.lean LOADS. Nothing in Lean hashes anything: it is a label: what it is worth is what the hold of that sum in a sandbox is worth. -/
noncomputable def Try.pinned : Pinned := { name := "ytogijlpclceanaa", sum := "3d04b41a573de9c9ab3e0ab60164396113c7fd82e4cc4207809990d41742ae03", checked := Try.checked }
namespace Rows
def none {H : Type} : Left H := { results := [], args := [] }

/-- 'revetmentlaw09.QueueTexts': WHATEVER THE INPUT: true; the input reads as it did. -/
def queueTextsSpec : ChangeSpec := { name := "queueTexts", fn := fun _ => fun
  | [d] => { results := [.lit (.bool true)], args := [d] }
  | _ => none }
def queueTextsRow : OpenClaim := { program := "ytogijlpclceanaa", sum := "3d04b41a573de9c9ab3e0ab60164396113c7fd82e4cc4207809990d41742ae03", func := "revetment/revetmentlaw09.QueueTexts", spec := "queueTexts", apart := false }
def QueueTextsSaid : Prop := queueTextsRow.holds Try.pinned (OpenSpec.ofChange queueTextsSpec)

/-- ITS FALSE NEIGHBOUR: 'it returns false'. Refute it at one input. -/
def queueTextsWrong : ChangeSpec := { name := "queueTexts", fn := fun _ => fun
  | [d] => { results := [.lit (.bool false)], args := [d] }
  | _ => none }
def QueueTextsWrongFalsely : Prop := queueTextsRow.holds Try.pinned (OpenSpec.ofChange queueTextsWrong)

/-- 'revetmentlaw09.QueueFull': WHATEVER THE INPUT: true; the input reads as it did. -/
def queueFullSpec : ChangeSpec := { name := "queueFull", fn := fun _ => fun
  | [d1, d2] => { results := [.lit (.bool true)], args := [d1, d2] }
  | _ => none }
def queueFullRow : OpenClaim := { program := "ytogijlpclceanaa", sum := "3d04b41a573de9c9ab3e0ab60164396113c7fd82e4cc4207809990d41742ae03", func := "revetment/revetmentlaw09.QueueFull", spec := "queueFull", apart := false }
def QueueFullSaid : Prop := queueFullRow.holds Try.pinned (OpenSpec.ofChange queueFullSpec)

/-- ITS FALSE NEIGHBOUR: 'it returns false'. Refute it at one input. -/
def queueFullWrong : ChangeSpec := { name := "queueFull", fn := fun _ => fun
  | [d1, d2] => { results := [.lit (.bool false)], args := [d1, d2] }
  | _ => none }
def QueueFullWrongFalsely : Prop := queueFullRow.holds Try.pinned (OpenSpec.ofChange queueFullWrong)

/-- 'revetmentlaw09.QueuePlays': WHATEVER THE INPUT: true; the input reads as it did. -/
def queuePlaysSpec : ChangeSpec := { name := "queuePlays", fn := fun _ => fun
  | [d1, d2, d3] => { results := [.lit (.bool true)], args := [d1, d2, d3] }
  | _ => none }
def queuePlaysRow : OpenClaim := { program := "ytogijlpclceanaa", sum := "3d04b41a573de9c9ab3e0ab60164396113c7fd82e4cc4207809990d41742ae03", func := "revetment/revetmentlaw09.QueuePlays", spec := "queuePlays", unfollowed := true, recurses := true, apart := false }
def QueuePlaysSaid : Prop := queuePlaysRow.holds Try.pinned (OpenSpec.ofChange queuePlaysSpec)

/-- ITS FALSE NEIGHBOUR: 'it returns false'. Refute it at one input. -/
def queuePlaysWrong : ChangeSpec := { name := "queuePlays", fn := fun _ => fun
  | [d1, d2, d3] => { results := [.lit (.bool false)], args := [d1, d2, d3] }
  | _ => none }
def QueuePlaysWrongFalsely : Prop := queuePlaysRow.holds Try.pinned (OpenSpec.ofChange queuePlaysWrong)

/-- 'revetmentlaw09.QueueRounds': WHATEVER THE INPUT: true; the input reads as it did. -/
def queueRoundsSpec : ChangeSpec := { name := "queueRounds", fn := fun _ => fun
  | [d1, d2, d3] => { results := [.lit (.bool true)], args := [d1, d2, d3] }
  | _ => none }
def queueRoundsRow : OpenClaim := { program := "ytogijlpclceanaa", sum := "3d04b41a573de9c9ab3e0ab60164396113c7fd82e4cc4207809990d41742ae03", func := "revetment/revetmentlaw09.QueueRounds", spec := "queueRounds", unfollowed := true, recurses := true, apart := false }
def QueueRoundsSaid : Prop := queueRoundsRow.holds Try.pinned (OpenSpec.ofChange queueRoundsSpec)

/-- ITS FALSE NEIGHBOUR: 'it returns false'. Refute it at one input. -/
def queueRoundsWrong : ChangeSpec := { name := "queueRounds", fn := fun _ => fun
  | [d1, d2, d3] => { results := [.lit (.bool false)], args := [d1, d2, d3] }
  | _ => none }
def QueueRoundsWrongFalsely : Prop := queueRoundsRow.holds Try.pinned (OpenSpec.ofChange queueRoundsWrong)

/-- 'revetmentlaw10.PoolOrder': WHATEVER THE INPUT: true; the input reads as it did. -/
def poolOrderSpec : ChangeSpec := { name := "poolOrder", fn := fun _ => fun
  | [d1, d2, d3] => { results := [.lit (.bool true)], args := [d1, d2, d3] }
  | _ => none }
def poolOrderRow : OpenClaim := { program := "ytogijlpclceanaa", sum := "3d04b41a573de9c9ab3e0ab60164396113c7fd82e4cc4207809990d41742ae03", func := "revetment/revetmentlaw10.PoolOrder", spec := "poolOrder", unfollowed := true, recurses := true, apart := false }
def PoolOrderSaid : Prop := poolOrderRow.holds Try.pinned (OpenSpec.ofChange poolOrderSpec)

/-- ITS FALSE NEIGHBOUR: 'it returns false'. Refute it at one input. -/
def poolOrderWrong : ChangeSpec := { name := "poolOrder", fn := fun _ => fun
  | [d1, d2, d3] => { results := [.lit (.bool false)], args := [d1, d2, d3] }
  | _ => none }
def PoolOrderWrongFalsely : Prop := poolOrderRow.holds Try.pinned (OpenSpec.ofChange poolOrderWrong)

/-- 'revetmentlaw10.PoolAll': WHATEVER THE INPUT: true; the input reads as it did. -/
def poolAllSpec : ChangeSpec := { name := "poolAll", fn := fun _ => fun
  | [d1, d2] => { results := [.lit (.bool true)], args := [d1, d2] }
  | _ => none }
def poolAllRow : OpenClaim := { program := "ytogijlpclceanaa", sum := "3d04b41a573de9c9ab3e0ab60164396113c7fd82e4cc4207809990d41742ae03", func := "revetment/revetmentlaw10.PoolAll", spec := "poolAll", unfollowed := true, recurses := true, apart := false }
def PoolAllSaid : Prop := poolAllRow.holds Try.pinned (OpenSpec.ofChange poolAllSpec)

/-- ITS FALSE NEIGHBOUR: 'it returns false'. Refute it at one input. -/
def poolAllWrong : ChangeSpec := { name := "poolAll", fn := fun _ => fun
  | [d1, d2] => { results := [.lit (.bool false)], args := [d1, d2] }
  | _ => none }
def PoolAllWrongFalsely : Prop := poolAllRow.holds Try.pinned (OpenSpec.ofChange poolAllWrong)

/-- 'revetmentlaw10.PoolPlays': WHATEVER THE INPUT: true; the input reads as it did. -/
def poolPlaysSpec : ChangeSpec := { name := "poolPlays", fn := fun _ => fun
  | [d1, d2, d3] => { results := [.lit (.bool true)], args := [d1, d2, d3] }
  | _ => none }
def poolPlaysRow : OpenClaim := { program := "ytogijlpclceanaa", sum := "3d04b41a573de9c9ab3e0ab60164396113c7fd82e4cc4207809990d41742ae03", func := "revetment/revetmentlaw10.PoolPlays", spec := "poolPlays", unfollowed := true, recurses := true, apart := false }
def PoolPlaysSaid : Prop := poolPlaysRow.holds Try.pinned (OpenSpec.ofChange poolPlaysSpec)

/-- ITS FALSE NEIGHBOUR: 'it returns false'. Refute it at one input. -/
def poolPlaysWrong : ChangeSpec := { name := "poolPlays", fn := fun _ => fun
  | [d1, d2, d3] => { results := [.lit (.bool false)], args := [d1, d2, d3] }
  | _ => none }
def PoolPlaysWrongFalsely : Prop := poolPlaysRow.holds Try.pinned (OpenSpec.ofChange poolPlaysWrong)

/-- 'revetmentlaw10.PoolPairs': WHATEVER THE INPUT: true; the input reads as it did. -/
def poolPairsSpec : ChangeSpec := { name := "poolPairs", fn := fun _ => fun
  | [d1, d2, d3, d4] => { results := [.lit (.bool true)], args := [d1, d2, d3, d4] }
  | _ => none }
def poolPairsRow : OpenClaim := { program := "ytogijlpclceanaa", sum := "3d04b41a573de9c9ab3e0ab60164396113c7fd82e4cc4207809990d41742ae03", func := "revetment/revetmentlaw10.PoolPairs", spec := "poolPairs", unfollowed := true, recurses := true, apart := false }
def PoolPairsSaid : Prop := poolPairsRow.holds Try.pinned (OpenSpec.ofChange poolPairsSpec)

/-- ITS FALSE NEIGHBOUR: 'it returns false'. Refute it at one input. -/
def poolPairsWrong : ChangeSpec := { name := "poolPairs", fn := fun _ => fun
  | [d1, d2, d3, d4] => { results := [.lit (.bool false)], args := [d1, d2, d3, d4] }
  | _ => none }
def PoolPairsWrongFalsely : Prop := poolPairsRow.holds Try.pinned (OpenSpec.ofChange poolPairsWrong)

/- THE SECOND FORM. 'bulk': how many values and letters a reading holds, each counted each time it is reached (what is shared counts as often as it is met; a slice's spare places count too). A statement '..UptoSaid' is the law's where the arguments, and the package variables that the reading takes, are together of bulk at most 1048576: NARROWER than '..Said'. Prove '..Said' where nothing that the law and all that it calls make is longer than what came in: it says more and counts as full. Else prove '..UptoSaid'. A law counts once. -/
mutual
def uptoBulk {H : Type} : DataW H → Nat
  | .lit (.string bytes) => bytes.length + 1
  | .lit _ => 1
  | .nil => 1
  | .ptr d => uptoBulk d + 1
  | .slice elems spare => uptoBulkAll elems + uptoBulkAll spare + 1
  | .agg parts => uptoBulkAll parts + 1
  | .iface _ d => uptoBulk d + 1
  | .map entries => uptoBulkEntries entries + 1
  | .held _ => 1
def uptoBulkAll {H : Type} : List (DataW H) → Nat
  | [] => 0
  | d :: r => uptoBulk d + uptoBulkAll r
def uptoBulkEntries {H : Type} : List (Lit × DataW H) → Nat
  | [] => 0
  | x :: r => uptoBulkEntry x + uptoBulkEntries r
def uptoBulkEntry {H : Type} : Lit × DataW H → Nat
  | (.string bytes, d) => bytes.length + uptoBulk d + 1
  | (_, d) => uptoBulk d + 1
 end
def uptoSmall : (H : Type) → List (DataW H) → Bool := fun _ ds => decide (uptoBulkAll ds ≤ 1048576)
def OpenSpec.upto (s : _root_.Go.ChangeSpec) : _root_.Go.OpenSpec := { _root_.Go.OpenSpec.ofChange s with cond := some uptoSmall }

/-- 'revetmentlaw09.QueueTexts', WHERE WHAT IT READS IS OF BULK AT MOST 1048576: true; the input reads as it did. -/
def queueTextsUptoRow : OpenClaim := { program := "ytogijlpclceanaa", sum := "3d04b41a573de9c9ab3e0ab60164396113c7fd82e4cc4207809990d41742ae03", func := "revetment/revetmentlaw09.QueueTexts", spec := "queueTexts", apart := false, narrowed := true }
def QueueTextsUptoSaid : Prop := queueTextsUptoRow.holds Try.pinned (OpenSpec.upto queueTextsSpec)

/-- 'revetmentlaw09.QueueFull', WHERE WHAT IT READS IS OF BULK AT MOST 1048576: true; the input reads as it did. -/
def queueFullUptoRow : OpenClaim := { program := "ytogijlpclceanaa", sum := "3d04b41a573de9c9ab3e0ab60164396113c7fd82e4cc4207809990d41742ae03", func := "revetment/revetmentlaw09.QueueFull", spec := "queueFull", apart := false, narrowed := true }
def QueueFullUptoSaid : Prop := queueFullUptoRow.holds Try.pinned (OpenSpec.upto queueFullSpec)

/-- 'revetmentlaw09.QueuePlays', WHERE WHAT IT READS IS OF BULK AT MOST 1048576: true; the input reads as it did. -/
def queuePlaysUptoRow : OpenClaim := { program := "ytogijlpclceanaa", sum := "3d04b41a573de9c9ab3e0ab60164396113c7fd82e4cc4207809990d41742ae03", func := "revetment/revetmentlaw09.QueuePlays", spec := "queuePlays", unfollowed := true, recurses := true, apart := false, narrowed := true }
def QueuePlaysUptoSaid : Prop := queuePlaysUptoRow.holds Try.pinned (OpenSpec.upto queuePlaysSpec)

/-- 'revetmentlaw09.QueueRounds', WHERE WHAT IT READS IS OF BULK AT MOST 1048576: true; the input reads as it did. -/
def queueRoundsUptoRow : OpenClaim := { program := "ytogijlpclceanaa", sum := "3d04b41a573de9c9ab3e0ab60164396113c7fd82e4cc4207809990d41742ae03", func := "revetment/revetmentlaw09.QueueRounds", spec := "queueRounds", unfollowed := true, recurses := true, apart := false, narrowed := true }
def QueueRoundsUptoSaid : Prop := queueRoundsUptoRow.holds Try.pinned (OpenSpec.upto queueRoundsSpec)

/-- 'revetmentlaw10.PoolOrder', WHERE WHAT IT READS IS OF BULK AT MOST 1048576: true; the input reads as it did. -/
def poolOrderUptoRow : OpenClaim := { program := "ytogijlpclceanaa", sum := "3d04b41a573de9c9ab3e0ab60164396113c7fd82e4cc4207809990d41742ae03", func := "revetment/revetmentlaw10.PoolOrder", spec := "poolOrder", unfollowed := true, recurses := true, apart := false, narrowed := true }
def PoolOrderUptoSaid : Prop := poolOrderUptoRow.holds Try.pinned (OpenSpec.upto poolOrderSpec)

/-- 'revetmentlaw10.PoolAll', WHERE WHAT IT READS IS OF BULK AT MOST 1048576: true; the input reads as it did. -/
def poolAllUptoRow : OpenClaim := { program := "ytogijlpclceanaa", sum := "3d04b41a573de9c9ab3e0ab60164396113c7fd82e4cc4207809990d41742ae03", func := "revetment/revetmentlaw10.PoolAll", spec := "poolAll", unfollowed := true, recurses := true, apart := false, narrowed := true }
def PoolAllUptoSaid : Prop := poolAllUptoRow.holds Try.pinned (OpenSpec.upto poolAllSpec)

/-- 'revetmentlaw10.PoolPlays', WHERE WHAT IT READS IS OF BULK AT MOST 1048576: true; the input reads as it did. -/
def poolPlaysUptoRow : OpenClaim := { program := "ytogijlpclceanaa", sum := "3d04b41a573de9c9ab3e0ab60164396113c7fd82e4cc4207809990d41742ae03", func := "revetment/revetmentlaw10.PoolPlays", spec := "poolPlays", unfollowed := true, recurses := true, apart := false, narrowed := true }
def PoolPlaysUptoSaid : Prop := poolPlaysUptoRow.holds Try.pinned (OpenSpec.upto poolPlaysSpec)

/-- 'revetmentlaw10.PoolPairs', WHERE WHAT IT READS IS OF BULK AT MOST 1048576: true; the input reads as it did. -/
def poolPairsUptoRow : OpenClaim := { program := "ytogijlpclceanaa", sum := "3d04b41a573de9c9ab3e0ab60164396113c7fd82e4cc4207809990d41742ae03", func := "revetment/revetmentlaw10.PoolPairs", spec := "poolPairs", unfollowed := true, recurses := true, apart := false, narrowed := true }
def PoolPairsUptoSaid : Prop := poolPairsUptoRow.holds Try.pinned (OpenSpec.upto poolPairsSpec)

end Rows
end Go.Proofs.Ytogijlpclceanaa
