/-
  No cell of these rows narrows 'for every input' (looked for: loops, veiled, ifaces, maps, wideKeys, modest, calm, conditions, laid).
  DERIVED. THE GIVEN ROWS OF THIS SEAT. 12 by the template 'for every input the law returns true; each argument reads behind the call as it read before'; 0 by the template 'total and deterministic' (their statements: YtjnneoejnpephaaTotals.lean).
  GIVEN WITH THE SEED: the statements are not yours to turn. If you find one false, say at which input.
  Laid BY PROGRAM, IN A SANDBOX (cutbox-rows.mjs): the forced cells as the released guide's own fill.sh prints them over the translation e3fb7e447fbe92bf… (all of the seat's roots in one cut). By AI agents, Wed Nov 11 2026. No macro, syntax, notation, axiom, sorry.
-/
import Derived.Test.YtjnneoejnpephaaChecked
import GoSem.Claim
import GoSem.ClaimJoined
import GoSem.ClaimMapViews
import Derived.JoinedTies
import Derived.KernelRfl
namespace Go.Proofs.Ytjnneoejnpephaa
/- THE CELL 'sum', in the pinned program and in every row, IS THE sha256 OF THE DUMP (.gsa) THAT YtjnneoejnpephaaProg.lean LOADS. Nothing in Lean hashes anything: it is a label: what it is worth is what the hold of that sum in a sandbox is worth. -/
noncomputable def Try.pinned : Pinned := { name := "ytjnneoejnpephaa", sum := "e3fb7e447fbe92bf4fd00e581f9e2a0c85474dd282ff4dd7bd4155c39aef5d83", checked := Try.checked }
namespace Rows
def none {H : Type} : Left H := { results := [], args := [] }

/-- 'revetmentlaw12.SnapZones': WHATEVER THE INPUT: true; the input reads as it did. -/
def snapZonesSpec : ChangeSpec := { name := "snapZones", fn := fun _ => fun
  | [d1, d2, d3, d4] => { results := [.lit (.bool true)], args := [d1, d2, d3, d4] }
  | _ => none }
def snapZonesRow : OpenClaim := { program := "ytjnneoejnpephaa", sum := "e3fb7e447fbe92bf4fd00e581f9e2a0c85474dd282ff4dd7bd4155c39aef5d83", func := "revetment/revetmentlaw12.SnapZones", spec := "snapZones", unfollowed := true, recurses := true, apart := false }
def SnapZonesSaid : Prop := snapZonesRow.holds Try.pinned (OpenSpec.ofChange snapZonesSpec)

/-- ITS FALSE NEIGHBOUR: 'it returns false'. Refute it at one input. -/
def snapZonesWrong : ChangeSpec := { name := "snapZones", fn := fun _ => fun
  | [d1, d2, d3, d4] => { results := [.lit (.bool false)], args := [d1, d2, d3, d4] }
  | _ => none }
def SnapZonesWrongFalsely : Prop := snapZonesRow.holds Try.pinned (OpenSpec.ofChange snapZonesWrong)

/-- 'revetmentlaw12.SnapSame': WHATEVER THE INPUT: true; the input reads as it did. -/
def snapSameSpec : ChangeSpec := { name := "snapSame", fn := fun _ => fun
  | [d1, d2, d3, d4, d5, d6] => { results := [.lit (.bool true)], args := [d1, d2, d3, d4, d5, d6] }
  | _ => none }
def snapSameRow : OpenClaim := { program := "ytjnneoejnpephaa", sum := "e3fb7e447fbe92bf4fd00e581f9e2a0c85474dd282ff4dd7bd4155c39aef5d83", func := "revetment/revetmentlaw12.SnapSame", spec := "snapSame", unfollowed := true, recurses := true, apart := false }
def SnapSameSaid : Prop := snapSameRow.holds Try.pinned (OpenSpec.ofChange snapSameSpec)

/-- ITS FALSE NEIGHBOUR: 'it returns false'. Refute it at one input. -/
def snapSameWrong : ChangeSpec := { name := "snapSame", fn := fun _ => fun
  | [d1, d2, d3, d4, d5, d6] => { results := [.lit (.bool false)], args := [d1, d2, d3, d4, d5, d6] }
  | _ => none }
def SnapSameWrongFalsely : Prop := snapSameRow.holds Try.pinned (OpenSpec.ofChange snapSameWrong)

/-- 'revetmentlaw12.SnapReads': WHATEVER THE INPUT: true; the input reads as it did. -/
def snapReadsSpec : ChangeSpec := { name := "snapReads", fn := fun _ => fun
  | [d] => { results := [.lit (.bool true)], args := [d] }
  | _ => none }
def snapReadsRow : OpenClaim := { program := "ytjnneoejnpephaa", sum := "e3fb7e447fbe92bf4fd00e581f9e2a0c85474dd282ff4dd7bd4155c39aef5d83", func := "revetment/revetmentlaw12.SnapReads", spec := "snapReads", unfollowed := true, recurses := true, apart := false }
def SnapReadsSaid : Prop := snapReadsRow.holds Try.pinned (OpenSpec.ofChange snapReadsSpec)

/-- ITS FALSE NEIGHBOUR: 'it returns false'. Refute it at one input. -/
def snapReadsWrong : ChangeSpec := { name := "snapReads", fn := fun _ => fun
  | [d] => { results := [.lit (.bool false)], args := [d] }
  | _ => none }
def SnapReadsWrongFalsely : Prop := snapReadsRow.holds Try.pinned (OpenSpec.ofChange snapReadsWrong)

/-- 'revetmentlaw12.SnapMixed': WHATEVER THE INPUT: true; the input reads as it did. -/
def snapMixedSpec : ChangeSpec := { name := "snapMixed", fn := fun _ => fun
  | [d1, d2, d3, d4] => { results := [.lit (.bool true)], args := [d1, d2, d3, d4] }
  | _ => none }
def snapMixedRow : OpenClaim := { program := "ytjnneoejnpephaa", sum := "e3fb7e447fbe92bf4fd00e581f9e2a0c85474dd282ff4dd7bd4155c39aef5d83", func := "revetment/revetmentlaw12.SnapMixed", spec := "snapMixed", unfollowed := true, recurses := true, apart := false }
def SnapMixedSaid : Prop := snapMixedRow.holds Try.pinned (OpenSpec.ofChange snapMixedSpec)

/-- ITS FALSE NEIGHBOUR: 'it returns false'. Refute it at one input. -/
def snapMixedWrong : ChangeSpec := { name := "snapMixed", fn := fun _ => fun
  | [d1, d2, d3, d4] => { results := [.lit (.bool false)], args := [d1, d2, d3, d4] }
  | _ => none }
def SnapMixedWrongFalsely : Prop := snapMixedRow.holds Try.pinned (OpenSpec.ofChange snapMixedWrong)

/-- 'revetmentlaw12.SnapLost': WHATEVER THE INPUT: true; the input reads as it did. -/
def snapLostSpec : ChangeSpec := { name := "snapLost", fn := fun _ => fun
  | [d1, d2] => { results := [.lit (.bool true)], args := [d1, d2] }
  | _ => none }
def snapLostRow : OpenClaim := { program := "ytjnneoejnpephaa", sum := "e3fb7e447fbe92bf4fd00e581f9e2a0c85474dd282ff4dd7bd4155c39aef5d83", func := "revetment/revetmentlaw12.SnapLost", spec := "snapLost", unfollowed := true, recurses := true, apart := false }
def SnapLostSaid : Prop := snapLostRow.holds Try.pinned (OpenSpec.ofChange snapLostSpec)

/-- ITS FALSE NEIGHBOUR: 'it returns false'. Refute it at one input. -/
def snapLostWrong : ChangeSpec := { name := "snapLost", fn := fun _ => fun
  | [d1, d2] => { results := [.lit (.bool false)], args := [d1, d2] }
  | _ => none }
def SnapLostWrongFalsely : Prop := snapLostRow.holds Try.pinned (OpenSpec.ofChange snapLostWrong)

/-- 'revetmentlaw12.SnapFrames': WHATEVER THE INPUT: true; the input reads as it did. -/
def snapFramesSpec : ChangeSpec := { name := "snapFrames", fn := fun _ => fun
  | [d1, d2, d3, d4, d5, d6, d7] => { results := [.lit (.bool true)], args := [d1, d2, d3, d4, d5, d6, d7] }
  | _ => none }
def snapFramesRow : OpenClaim := { program := "ytjnneoejnpephaa", sum := "e3fb7e447fbe92bf4fd00e581f9e2a0c85474dd282ff4dd7bd4155c39aef5d83", func := "revetment/revetmentlaw12.SnapFrames", spec := "snapFrames", unfollowed := true, recurses := true, apart := false }
def SnapFramesSaid : Prop := snapFramesRow.holds Try.pinned (OpenSpec.ofChange snapFramesSpec)

/-- ITS FALSE NEIGHBOUR: 'it returns false'. Refute it at one input. -/
def snapFramesWrong : ChangeSpec := { name := "snapFrames", fn := fun _ => fun
  | [d1, d2, d3, d4, d5, d6, d7] => { results := [.lit (.bool false)], args := [d1, d2, d3, d4, d5, d6, d7] }
  | _ => none }
def SnapFramesWrongFalsely : Prop := snapFramesRow.holds Try.pinned (OpenSpec.ofChange snapFramesWrong)

/-- 'revetmentlaw13.CkptUnlike': WHATEVER THE INPUT: true; the input reads as it did. -/
def ckptUnlikeSpec : ChangeSpec := { name := "ckptUnlike", fn := fun _ => fun
  | [d1, d2, d3, d4, d5, d6] => { results := [.lit (.bool true)], args := [d1, d2, d3, d4, d5, d6] }
  | _ => none }
def ckptUnlikeRow : OpenClaim := { program := "ytjnneoejnpephaa", sum := "e3fb7e447fbe92bf4fd00e581f9e2a0c85474dd282ff4dd7bd4155c39aef5d83", func := "revetment/revetmentlaw13.CkptUnlike", spec := "ckptUnlike", unfollowed := true, recurses := true, apart := false }
def CkptUnlikeSaid : Prop := ckptUnlikeRow.holds Try.pinned (OpenSpec.ofChange ckptUnlikeSpec)

/-- ITS FALSE NEIGHBOUR: 'it returns false'. Refute it at one input. -/
def ckptUnlikeWrong : ChangeSpec := { name := "ckptUnlike", fn := fun _ => fun
  | [d1, d2, d3, d4, d5, d6] => { results := [.lit (.bool false)], args := [d1, d2, d3, d4, d5, d6] }
  | _ => none }
def CkptUnlikeWrongFalsely : Prop := ckptUnlikeRow.holds Try.pinned (OpenSpec.ofChange ckptUnlikeWrong)

/-- 'revetmentlaw13.CkptVotes': WHATEVER THE INPUT: true; the input reads as it did. -/
def ckptVotesSpec : ChangeSpec := { name := "ckptVotes", fn := fun _ => fun
  | [d1, d2, d3] => { results := [.lit (.bool true)], args := [d1, d2, d3] }
  | _ => none }
def ckptVotesRow : OpenClaim := { program := "ytjnneoejnpephaa", sum := "e3fb7e447fbe92bf4fd00e581f9e2a0c85474dd282ff4dd7bd4155c39aef5d83", func := "revetment/revetmentlaw13.CkptVotes", spec := "ckptVotes", unfollowed := true, recurses := true, apart := false }
def CkptVotesSaid : Prop := ckptVotesRow.holds Try.pinned (OpenSpec.ofChange ckptVotesSpec)

/-- ITS FALSE NEIGHBOUR: 'it returns false'. Refute it at one input. -/
def ckptVotesWrong : ChangeSpec := { name := "ckptVotes", fn := fun _ => fun
  | [d1, d2, d3] => { results := [.lit (.bool false)], args := [d1, d2, d3] }
  | _ => none }
def CkptVotesWrongFalsely : Prop := ckptVotesRow.holds Try.pinned (OpenSpec.ofChange ckptVotesWrong)

/-- 'revetmentlaw13.CkptParses': WHATEVER THE INPUT: true; the input reads as it did. -/
def ckptParsesSpec : ChangeSpec := { name := "ckptParses", fn := fun _ => fun
  | [d1, d2] => { results := [.lit (.bool true)], args := [d1, d2] }
  | _ => none }
def ckptParsesRow : OpenClaim := { program := "ytjnneoejnpephaa", sum := "e3fb7e447fbe92bf4fd00e581f9e2a0c85474dd282ff4dd7bd4155c39aef5d83", func := "revetment/revetmentlaw13.CkptParses", spec := "ckptParses", unfollowed := true, recurses := true, apart := false }
def CkptParsesSaid : Prop := ckptParsesRow.holds Try.pinned (OpenSpec.ofChange ckptParsesSpec)

/-- ITS FALSE NEIGHBOUR: 'it returns false'. Refute it at one input. -/
def ckptParsesWrong : ChangeSpec := { name := "ckptParses", fn := fun _ => fun
  | [d1, d2] => { results := [.lit (.bool false)], args := [d1, d2] }
  | _ => none }
def CkptParsesWrongFalsely : Prop := ckptParsesRow.holds Try.pinned (OpenSpec.ofChange ckptParsesWrong)

/-- 'revetmentlaw13.CkptMoved': WHATEVER THE INPUT: true; the input reads as it did. -/
def ckptMovedSpec : ChangeSpec := { name := "ckptMoved", fn := fun _ => fun
  | [d1, d2, d3, d4, d5, d6, d7] => { results := [.lit (.bool true)], args := [d1, d2, d3, d4, d5, d6, d7] }
  | _ => none }
def ckptMovedRow : OpenClaim := { program := "ytjnneoejnpephaa", sum := "e3fb7e447fbe92bf4fd00e581f9e2a0c85474dd282ff4dd7bd4155c39aef5d83", func := "revetment/revetmentlaw13.CkptMoved", spec := "ckptMoved", unfollowed := true, recurses := true, apart := false }
def CkptMovedSaid : Prop := ckptMovedRow.holds Try.pinned (OpenSpec.ofChange ckptMovedSpec)

/-- ITS FALSE NEIGHBOUR: 'it returns false'. Refute it at one input. -/
def ckptMovedWrong : ChangeSpec := { name := "ckptMoved", fn := fun _ => fun
  | [d1, d2, d3, d4, d5, d6, d7] => { results := [.lit (.bool false)], args := [d1, d2, d3, d4, d5, d6, d7] }
  | _ => none }
def CkptMovedWrongFalsely : Prop := ckptMovedRow.holds Try.pinned (OpenSpec.ofChange ckptMovedWrong)

/-- 'revetmentlaw13.CkptSpoilt': WHATEVER THE INPUT: true; the input reads as it did. -/
def ckptSpoiltSpec : ChangeSpec := { name := "ckptSpoilt", fn := fun _ => fun
  | [d1, d2, d3, d4, d5, d6, d7, d8] => { results := [.lit (.bool true)], args := [d1, d2, d3, d4, d5, d6, d7, d8] }
  | _ => none }
def ckptSpoiltRow : OpenClaim := { program := "ytjnneoejnpephaa", sum := "e3fb7e447fbe92bf4fd00e581f9e2a0c85474dd282ff4dd7bd4155c39aef5d83", func := "revetment/revetmentlaw13.CkptSpoilt", spec := "ckptSpoilt", unfollowed := true, recurses := true, apart := false }
def CkptSpoiltSaid : Prop := ckptSpoiltRow.holds Try.pinned (OpenSpec.ofChange ckptSpoiltSpec)

/-- ITS FALSE NEIGHBOUR: 'it returns false'. Refute it at one input. -/
def ckptSpoiltWrong : ChangeSpec := { name := "ckptSpoilt", fn := fun _ => fun
  | [d1, d2, d3, d4, d5, d6, d7, d8] => { results := [.lit (.bool false)], args := [d1, d2, d3, d4, d5, d6, d7, d8] }
  | _ => none }
def CkptSpoiltWrongFalsely : Prop := ckptSpoiltRow.holds Try.pinned (OpenSpec.ofChange ckptSpoiltWrong)

/-- 'revetmentlaw13.CkptSectors': WHATEVER THE INPUT: true; the input reads as it did. -/
def ckptSectorsSpec : ChangeSpec := { name := "ckptSectors", fn := fun _ => fun
  | [d1, d2, d3, d4, d5, d6, d7, d8] => { results := [.lit (.bool true)], args := [d1, d2, d3, d4, d5, d6, d7, d8] }
  | _ => none }
def ckptSectorsRow : OpenClaim := { program := "ytjnneoejnpephaa", sum := "e3fb7e447fbe92bf4fd00e581f9e2a0c85474dd282ff4dd7bd4155c39aef5d83", func := "revetment/revetmentlaw13.CkptSectors", spec := "ckptSectors", unfollowed := true, recurses := true, apart := false }
def CkptSectorsSaid : Prop := ckptSectorsRow.holds Try.pinned (OpenSpec.ofChange ckptSectorsSpec)

/-- ITS FALSE NEIGHBOUR: 'it returns false'. Refute it at one input. -/
def ckptSectorsWrong : ChangeSpec := { name := "ckptSectors", fn := fun _ => fun
  | [d1, d2, d3, d4, d5, d6, d7, d8] => { results := [.lit (.bool false)], args := [d1, d2, d3, d4, d5, d6, d7, d8] }
  | _ => none }
def CkptSectorsWrongFalsely : Prop := ckptSectorsRow.holds Try.pinned (OpenSpec.ofChange ckptSectorsWrong)

/- THE SECOND FORM. 'bulk': how many values and letters a reading holds, each counted each time it is reached (what is shared counts as often as it is met; a slice's spare places count too). A statement '..UptoSaid' is the law's where the arguments, and the package variables that the reading takes, are together of bulk at most 1048576: NARROWER than '..Said'. Prove '..Said' where nothing that the law and all that it calls make is longer than what came in: it says more and counts as full. Else prove '..UptoSaid'. A law counts once. -/
mutual
def uptoBulk {H : Type} : DataW H → Nat
  | .lit (.string bytes) => bytes.length + 1
  | .lit _ => 1
  | .nil => 1
  | .ptr d => uptoBulk d + 1
  | .slice elems spare => uptoBulkAll elems + uptoBulkAll spare + 1
  | .agg parts => uptoBulkAll parts + 1
  | .iface _ d => uptoBulk d + 1
  | .map entries => uptoBulkEntries entries + 1
  | .held _ => 1
def uptoBulkAll {H : Type} : List (DataW H) → Nat
  | [] => 0
  | d :: r => uptoBulk d + uptoBulkAll r
def uptoBulkEntries {H : Type} : List (Lit × DataW H) → Nat
  | [] => 0
  | x :: r => uptoBulkEntry x + uptoBulkEntries r
def uptoBulkEntry {H : Type} : Lit × DataW H → Nat
  | (.string bytes, d) => bytes.length + uptoBulk d + 1
  | (_, d) => uptoBulk d + 1
 end
def uptoSmall : (H : Type) → List (DataW H) → Bool := fun _ ds => decide (uptoBulkAll ds ≤ 1048576)
def OpenSpec.upto (s : _root_.Go.ChangeSpec) : _root_.Go.OpenSpec := { _root_.Go.OpenSpec.ofChange s with cond := some uptoSmall }

/-- 'revetmentlaw12.SnapZones', WHERE WHAT IT READS IS OF BULK AT MOST 1048576: true; the input reads as it did. -/
def snapZonesUptoRow : OpenClaim := { program := "ytjnneoejnpephaa", sum := "e3fb7e447fbe92bf4fd00e581f9e2a0c85474dd282ff4dd7bd4155c39aef5d83", func := "revetment/revetmentlaw12.SnapZones", spec := "snapZones", unfollowed := true, recurses := true, apart := false, narrowed := true }
def SnapZonesUptoSaid : Prop := snapZonesUptoRow.holds Try.pinned (OpenSpec.upto snapZonesSpec)

/-- 'revetmentlaw12.SnapSame', WHERE WHAT IT READS IS OF BULK AT MOST 1048576: true; the input reads as it did. -/
def snapSameUptoRow : OpenClaim := { program := "ytjnneoejnpephaa", sum := "e3fb7e447fbe92bf4fd00e581f9e2a0c85474dd282ff4dd7bd4155c39aef5d83", func := "revetment/revetmentlaw12.SnapSame", spec := "snapSame", unfollowed := true, recurses := true, apart := false, narrowed := true }
def SnapSameUptoSaid : Prop := snapSameUptoRow.holds Try.pinned (OpenSpec.upto snapSameSpec)

/-- 'revetmentlaw12.SnapReads', WHERE WHAT IT READS IS OF BULK AT MOST 1048576: true; the input reads as it did. -/
def snapReadsUptoRow : OpenClaim := { program := "ytjnneoejnpephaa", sum := "e3fb7e447fbe92bf4fd00e581f9e2a0c85474dd282ff4dd7bd4155c39aef5d83", func := "revetment/revetmentlaw12.SnapReads", spec := "snapReads", unfollowed := true, recurses := true, apart := false, narrowed := true }
def SnapReadsUptoSaid : Prop := snapReadsUptoRow.holds Try.pinned (OpenSpec.upto snapReadsSpec)

/-- 'revetmentlaw12.SnapMixed', WHERE WHAT IT READS IS OF BULK AT MOST 1048576: true; the input reads as it did. -/
def snapMixedUptoRow : OpenClaim := { program := "ytjnneoejnpephaa", sum := "e3fb7e447fbe92bf4fd00e581f9e2a0c85474dd282ff4dd7bd4155c39aef5d83", func := "revetment/revetmentlaw12.SnapMixed", spec := "snapMixed", unfollowed := true, recurses := true, apart := false, narrowed := true }
def SnapMixedUptoSaid : Prop := snapMixedUptoRow.holds Try.pinned (OpenSpec.upto snapMixedSpec)

/-- 'revetmentlaw12.SnapLost', WHERE WHAT IT READS IS OF BULK AT MOST 1048576: true; the input reads as it did. -/
def snapLostUptoRow : OpenClaim := { program := "ytjnneoejnpephaa", sum := "e3fb7e447fbe92bf4fd00e581f9e2a0c85474dd282ff4dd7bd4155c39aef5d83", func := "revetment/revetmentlaw12.SnapLost", spec := "snapLost", unfollowed := true, recurses := true, apart := false, narrowed := true }
def SnapLostUptoSaid : Prop := snapLostUptoRow.holds Try.pinned (OpenSpec.upto snapLostSpec)

/-- 'revetmentlaw12.SnapFrames', WHERE WHAT IT READS IS OF BULK AT MOST 1048576: true; the input reads as it did. -/
def snapFramesUptoRow : OpenClaim := { program := "ytjnneoejnpephaa", sum := "e3fb7e447fbe92bf4fd00e581f9e2a0c85474dd282ff4dd7bd4155c39aef5d83", func := "revetment/revetmentlaw12.SnapFrames", spec := "snapFrames", unfollowed := true, recurses := true, apart := false, narrowed := true }
def SnapFramesUptoSaid : Prop := snapFramesUptoRow.holds Try.pinned (OpenSpec.upto snapFramesSpec)

/-- 'revetmentlaw13.CkptUnlike', WHERE WHAT IT READS IS OF BULK AT MOST 1048576: true; the input reads as it did. -/
def ckptUnlikeUptoRow : OpenClaim := { program := "ytjnneoejnpephaa", sum := "e3fb7e447fbe92bf4fd00e581f9e2a0c85474dd282ff4dd7bd4155c39aef5d83", func := "revetment/revetmentlaw13.CkptUnlike", spec := "ckptUnlike", unfollowed := true, recurses := true, apart := false, narrowed := true }
def CkptUnlikeUptoSaid : Prop := ckptUnlikeUptoRow.holds Try.pinned (OpenSpec.upto ckptUnlikeSpec)

/-- 'revetmentlaw13.CkptVotes', WHERE WHAT IT READS IS OF BULK AT MOST 1048576: true; the input reads as it did. -/
def ckptVotesUptoRow : OpenClaim := { program := "ytjnneoejnpephaa", sum := "e3fb7e447fbe92bf4fd00e581f9e2a0c85474dd282ff4dd7bd4155c39aef5d83", func := "revetment/revetmentlaw13.CkptVotes", spec := "ckptVotes", unfollowed := true, recurses := true, apart := false, narrowed := true }
def CkptVotesUptoSaid : Prop := ckptVotesUptoRow.holds Try.pinned (OpenSpec.upto ckptVotesSpec)

/-- 'revetmentlaw13.CkptParses', WHERE WHAT IT READS IS OF BULK AT MOST 1048576: true; the input reads as it did. -/
def ckptParsesUptoRow : OpenClaim := { program := "ytjnneoejnpephaa", sum := "e3fb7e447fbe92bf4fd00e581f9e2a0c85474dd282ff4dd7bd4155c39aef5d83", func := "revetment/revetmentlaw13.CkptParses", spec := "ckptParses", unfollowed := true, recurses := true, apart := false, narrowed := true }
def CkptParsesUptoSaid : Prop := ckptParsesUptoRow.holds Try.pinned (OpenSpec.upto ckptParsesSpec)

/-- 'revetmentlaw13.CkptMoved', WHERE WHAT IT READS IS OF BULK AT MOST 1048576: true; the input reads as it did. -/
def ckptMovedUptoRow : OpenClaim := { program := "ytjnneoejnpephaa", sum := "e3fb7e447fbe92bf4fd00e581f9e2a0c85474dd282ff4dd7bd4155c39aef5d83", func := "revetment/revetmentlaw13.CkptMoved", spec := "ckptMoved", unfollowed := true, recurses := true, apart := false, narrowed := true }
def CkptMovedUptoSaid : Prop := ckptMovedUptoRow.holds Try.pinned (OpenSpec.upto ckptMovedSpec)

/-- 'revetmentlaw13.CkptSpoilt', WHERE WHAT IT READS IS OF BULK AT MOST 1048576: true; the input reads as it did. -/
def ckptSpoiltUptoRow : OpenClaim := { program := "ytjnneoejnpephaa", sum := "e3fb7e447fbe92bf4fd00e581f9e2a0c85474dd282ff4dd7bd4155c39aef5d83", func := "revetment/revetmentlaw13.CkptSpoilt", spec := "ckptSpoilt", unfollowed := true, recurses := true, apart := false, narrowed := true }
def CkptSpoiltUptoSaid : Prop := ckptSpoiltUptoRow.holds Try.pinned (OpenSpec.upto ckptSpoiltSpec)

/-- 'revetmentlaw13.CkptSectors', WHERE WHAT IT READS IS OF BULK AT MOST 1048576: true; the input reads as it did. -/
def ckptSectorsUptoRow : OpenClaim := { program := "ytjnneoejnpephaa", sum := "e3fb7e447fbe92bf4fd00e581f9e2a0c85474dd282ff4dd7bd4155c39aef5d83", func := "revetment/revetmentlaw13.CkptSectors", spec := "ckptSectors", unfollowed := true, recurses := true, apart := false, narrowed := true }
def CkptSectorsUptoSaid : Prop := ckptSectorsUptoRow.holds Try.pinned (OpenSpec.upto ckptSectorsSpec)

end Rows
end Go.Proofs.Ytjnneoejnpephaa
