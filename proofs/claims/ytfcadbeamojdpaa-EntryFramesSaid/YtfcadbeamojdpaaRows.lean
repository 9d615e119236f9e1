/-
  No cell of these rows narrows 'for every input' (looked for: loops, veiled, ifaces, maps, wideKeys, modest, calm, conditions, laid).
  DERIVED. THE GIVEN ROWS OF THIS SEAT. 12 by the template 'for every input the law returns true; each argument reads behind the call as it read before'; 0 by the template 'total and deterministic' (their statements: YtfcadbeamojdpaaTotals.lean).
  GIVEN WITH THE SEED: the statements are not yours to turn. If you find one false, say at which input.
  Laid BY PROGRAM, IN A SANDBOX (cutbox-rows.mjs): the forced cells as the released guide's own fill.sh prints them over the translation 8885df71e90a193a… (all of the seat's roots in one cut). By AI agents, Wed Nov 11 2026. No macro, syntax, notation, axiom, sorry.
-/
import Derived.Test.YtfcadbeamojdpaaChecked
import GoSem.Claim
import GoSem.ClaimJoined
import GoSem.ClaimMapViews
import Derived.JoinedTies
import Derived.KernelRfl
namespace Go.Proofs.Ytfcadbeamojdpaa
/- THE CELL 'sum', in the pinned program and in every row, IS THE sha256 OF THE DUMP (.gsa) THAT YtfcadbeamojdpaaProg.lean LOADS. Nothing in Lean hashes anything: it is a label: what it is worth is what the hold of that sum in a sandbox is worth. -/
noncomputable def Try.pinned : Pinned := { name := "ytfcadbeamojdpaa", sum := "8885df71e90a193a672b5a2342632dc5b3aca448c0553cfcbeee9c83f07ae65f", checked := Try.checked }
namespace Rows
def none {H : Type} : Left H := { results := [], args := [] }

/-- 'revetmentlaw03.FrameUnlike': WHATEVER THE INPUT: true; the input reads as it did. -/
def frameUnlikeSpec : ChangeSpec := { name := "frameUnlike", fn := fun _ => fun
  | [d1, d2] => { results := [.lit (.bool true)], args := [d1, d2] }
  | _ => none }
def frameUnlikeRow : OpenClaim := { program := "ytfcadbeamojdpaa", sum := "8885df71e90a193a672b5a2342632dc5b3aca448c0553cfcbeee9c83f07ae65f", func := "revetment/revetmentlaw03.FrameUnlike", spec := "frameUnlike", apart := false }
def FrameUnlikeSaid : Prop := frameUnlikeRow.holds Try.pinned (OpenSpec.ofChange frameUnlikeSpec)

/-- ITS FALSE NEIGHBOUR: 'it returns false'. Refute it at one input. -/
def frameUnlikeWrong : ChangeSpec := { name := "frameUnlike", fn := fun _ => fun
  | [d1, d2] => { results := [.lit (.bool false)], args := [d1, d2] }
  | _ => none }
def FrameUnlikeWrongFalsely : Prop := frameUnlikeRow.holds Try.pinned (OpenSpec.ofChange frameUnlikeWrong)

/-- 'revetmentlaw03.FrameFlips': WHATEVER THE INPUT: true; the input reads as it did. -/
def frameFlipsSpec : ChangeSpec := { name := "frameFlips", fn := fun _ => fun
  | [d1, d2, d3] => { results := [.lit (.bool true)], args := [d1, d2, d3] }
  | _ => none }
def frameFlipsRow : OpenClaim := { program := "ytfcadbeamojdpaa", sum := "8885df71e90a193a672b5a2342632dc5b3aca448c0553cfcbeee9c83f07ae65f", func := "revetment/revetmentlaw03.FrameFlips", spec := "frameFlips", apart := false }
def FrameFlipsSaid : Prop := frameFlipsRow.holds Try.pinned (OpenSpec.ofChange frameFlipsSpec)

/-- ITS FALSE NEIGHBOUR: 'it returns false'. Refute it at one input. -/
def frameFlipsWrong : ChangeSpec := { name := "frameFlips", fn := fun _ => fun
  | [d1, d2, d3] => { results := [.lit (.bool false)], args := [d1, d2, d3] }
  | _ => none }
def FrameFlipsWrongFalsely : Prop := frameFlipsRow.holds Try.pinned (OpenSpec.ofChange frameFlipsWrong)

/-- 'revetmentlaw03.FrameDecodes': WHATEVER THE INPUT: true; the input reads as it did. -/
def frameDecodesSpec : ChangeSpec := { name := "frameDecodes", fn := fun _ => fun
  | [d] => { results := [.lit (.bool true)], args := [d] }
  | _ => none }
def frameDecodesRow : OpenClaim := { program := "ytfcadbeamojdpaa", sum := "8885df71e90a193a672b5a2342632dc5b3aca448c0553cfcbeee9c83f07ae65f", func := "revetment/revetmentlaw03.FrameDecodes", spec := "frameDecodes", apart := false }
def FrameDecodesSaid : Prop := frameDecodesRow.holds Try.pinned (OpenSpec.ofChange frameDecodesSpec)

/-- ITS FALSE NEIGHBOUR: 'it returns false'. Refute it at one input. -/
def frameDecodesWrong : ChangeSpec := { name := "frameDecodes", fn := fun _ => fun
  | [d] => { results := [.lit (.bool false)], args := [d] }
  | _ => none }
def FrameDecodesWrongFalsely : Prop := frameDecodesRow.holds Try.pinned (OpenSpec.ofChange frameDecodesWrong)

/-- 'revetmentlaw03.FrameSpoilt': WHATEVER THE INPUT: true; the input reads as it did. -/
def frameSpoiltSpec : ChangeSpec := { name := "frameSpoilt", fn := fun _ => fun
  | [d1, d2] => { results := [.lit (.bool true)], args := [d1, d2] }
  | _ => none }
def frameSpoiltRow : OpenClaim := { program := "ytfcadbeamojdpaa", sum := "8885df71e90a193a672b5a2342632dc5b3aca448c0553cfcbeee9c83f07ae65f", func := "revetment/revetmentlaw03.FrameSpoilt", spec := "frameSpoilt", apart := false }
def FrameSpoiltSaid : Prop := frameSpoiltRow.holds Try.pinned (OpenSpec.ofChange frameSpoiltSpec)

/-- ITS FALSE NEIGHBOUR: 'it returns false'. Refute it at one input. -/
def frameSpoiltWrong : ChangeSpec := { name := "frameSpoilt", fn := fun _ => fun
  | [d1, d2] => { results := [.lit (.bool false)], args := [d1, d2] }
  | _ => none }
def FrameSpoiltWrongFalsely : Prop := frameSpoiltRow.holds Try.pinned (OpenSpec.ofChange frameSpoiltWrong)

/-- 'revetmentlaw03.FrameEncodes': WHATEVER THE INPUT: true; the input reads as it did. -/
def frameEncodesSpec : ChangeSpec := { name := "frameEncodes", fn := fun _ => fun
  | [d1, d2, d3] => { results := [.lit (.bool true)], args := [d1, d2, d3] }
  | _ => none }
def frameEncodesRow : OpenClaim := { program := "ytfcadbeamojdpaa", sum := "8885df71e90a193a672b5a2342632dc5b3aca448c0553cfcbeee9c83f07ae65f", func := "revetment/revetmentlaw03.FrameEncodes", spec := "frameEncodes", apart := false }
def FrameEncodesSaid : Prop := frameEncodesRow.holds Try.pinned (OpenSpec.ofChange frameEncodesSpec)

/-- ITS FALSE NEIGHBOUR: 'it returns false'. Refute it at one input. -/
def frameEncodesWrong : ChangeSpec := { name := "frameEncodes", fn := fun _ => fun
  | [d1, d2, d3] => { results := [.lit (.bool false)], args := [d1, d2, d3] }
  | _ => none }
def FrameEncodesWrongFalsely : Prop := frameEncodesRow.holds Try.pinned (OpenSpec.ofChange frameEncodesWrong)

/-- 'revetmentlaw03.FrameBound': WHATEVER THE INPUT: true; the input reads as it did. -/
def frameBoundSpec : ChangeSpec := { name := "frameBound", fn := fun _ => fun
  | [d1, d2, d3] => { results := [.lit (.bool true)], args := [d1, d2, d3] }
  | _ => none }
def frameBoundRow : OpenClaim := { program := "ytfcadbeamojdpaa", sum := "8885df71e90a193a672b5a2342632dc5b3aca448c0553cfcbeee9c83f07ae65f", func := "revetment/revetmentlaw03.FrameBound", spec := "frameBound", apart := false }
def FrameBoundSaid : Prop := frameBoundRow.holds Try.pinned (OpenSpec.ofChange frameBoundSpec)

/-- ITS FALSE NEIGHBOUR: 'it returns false'. Refute it at one input. -/
def frameBoundWrong : ChangeSpec := { name := "frameBound", fn := fun _ => fun
  | [d1, d2, d3] => { results := [.lit (.bool false)], args := [d1, d2, d3] }
  | _ => none }
def FrameBoundWrongFalsely : Prop := frameBoundRow.holds Try.pinned (OpenSpec.ofChange frameBoundWrong)

/-- 'revetmentlaw04.EntryUnlike': WHATEVER THE INPUT: true; the input reads as it did. -/
def entryUnlikeSpec : ChangeSpec := { name := "entryUnlike", fn := fun _ => fun
  | [d1, d2] => { results := [.lit (.bool true)], args := [d1, d2] }
  | _ => none }
def entryUnlikeRow : OpenClaim := { program := "ytfcadbeamojdpaa", sum := "8885df71e90a193a672b5a2342632dc5b3aca448c0553cfcbeee9c83f07ae65f", func := "revetment/revetmentlaw04.EntryUnlike", spec := "entryUnlike", apart := false }
def EntryUnlikeSaid : Prop := entryUnlikeRow.holds Try.pinned (OpenSpec.ofChange entryUnlikeSpec)

/-- ITS FALSE NEIGHBOUR: 'it returns false'. Refute it at one input. -/
def entryUnlikeWrong : ChangeSpec := { name := "entryUnlike", fn := fun _ => fun
  | [d1, d2] => { results := [.lit (.bool false)], args := [d1, d2] }
  | _ => none }
def EntryUnlikeWrongFalsely : Prop := entryUnlikeRow.holds Try.pinned (OpenSpec.ofChange entryUnlikeWrong)

/-- 'revetmentlaw04.EntryGroups': WHATEVER THE INPUT: true; the input reads as it did. -/
def entryGroupsSpec : ChangeSpec := { name := "entryGroups", fn := fun _ => fun
  | [d1, d2] => { results := [.lit (.bool true)], args := [d1, d2] }
  | _ => none }
def entryGroupsRow : OpenClaim := { program := "ytfcadbeamojdpaa", sum := "8885df71e90a193a672b5a2342632dc5b3aca448c0553cfcbeee9c83f07ae65f", func := "revetment/revetmentlaw04.EntryGroups", spec := "entryGroups", apart := false }
def EntryGroupsSaid : Prop := entryGroupsRow.holds Try.pinned (OpenSpec.ofChange entryGroupsSpec)

/-- ITS FALSE NEIGHBOUR: 'it returns false'. Refute it at one input. -/
def entryGroupsWrong : ChangeSpec := { name := "entryGroups", fn := fun _ => fun
  | [d1, d2] => { results := [.lit (.bool false)], args := [d1, d2] }
  | _ => none }
def EntryGroupsWrongFalsely : Prop := entryGroupsRow.holds Try.pinned (OpenSpec.ofChange entryGroupsWrong)

/-- 'revetmentlaw04.EntryFills': WHATEVER THE INPUT: true; the input reads as it did. -/
def entryFillsSpec : ChangeSpec := { name := "entryFills", fn := fun _ => fun
  | [d1, d2, d3] => { results := [.lit (.bool true)], args := [d1, d2, d3] }
  | _ => none }
def entryFillsRow : OpenClaim := { program := "ytfcadbeamojdpaa", sum := "8885df71e90a193a672b5a2342632dc5b3aca448c0553cfcbeee9c83f07ae65f", func := "revetment/revetmentlaw04.EntryFills", spec := "entryFills", apart := false }
def EntryFillsSaid : Prop := entryFillsRow.holds Try.pinned (OpenSpec.ofChange entryFillsSpec)

/-- ITS FALSE NEIGHBOUR: 'it returns false'. Refute it at one input. -/
def entryFillsWrong : ChangeSpec := { name := "entryFills", fn := fun _ => fun
  | [d1, d2, d3] => { results := [.lit (.bool false)], args := [d1, d2, d3] }
  | _ => none }
def EntryFillsWrongFalsely : Prop := entryFillsRow.holds Try.pinned (OpenSpec.ofChange entryFillsWrong)

/-- 'revetmentlaw04.EntryBodies': WHATEVER THE INPUT: true; the input reads as it did. -/
def entryBodiesSpec : ChangeSpec := { name := "entryBodies", fn := fun _ => fun
  | [d1, d2, d3] => { results := [.lit (.bool true)], args := [d1, d2, d3] }
  | _ => none }
def entryBodiesRow : OpenClaim := { program := "ytfcadbeamojdpaa", sum := "8885df71e90a193a672b5a2342632dc5b3aca448c0553cfcbeee9c83f07ae65f", func := "revetment/revetmentlaw04.EntryBodies", spec := "entryBodies", apart := false }
def EntryBodiesSaid : Prop := entryBodiesRow.holds Try.pinned (OpenSpec.ofChange entryBodiesSpec)

/-- ITS FALSE NEIGHBOUR: 'it returns false'. Refute it at one input. -/
def entryBodiesWrong : ChangeSpec := { name := "entryBodies", fn := fun _ => fun
  | [d1, d2, d3] => { results := [.lit (.bool false)], args := [d1, d2, d3] }
  | _ => none }
def EntryBodiesWrongFalsely : Prop := entryBodiesRow.holds Try.pinned (OpenSpec.ofChange entryBodiesWrong)

/-- 'revetmentlaw04.EntryFrames': WHATEVER THE INPUT: true; the input reads as it did. -/
def entryFramesSpec : ChangeSpec := { name := "entryFrames", fn := fun _ => fun
  | [d1, d2, d3, d4, d5] => { results := [.lit (.bool true)], args := [d1, d2, d3, d4, d5] }
  | _ => none }
def entryFramesRow : OpenClaim := { program := "ytfcadbeamojdpaa", sum := "8885df71e90a193a672b5a2342632dc5b3aca448c0553cfcbeee9c83f07ae65f", func := "revetment/revetmentlaw04.EntryFrames", spec := "entryFrames", apart := false }
def EntryFramesSaid : Prop := entryFramesRow.holds Try.pinned (OpenSpec.ofChange entryFramesSpec)

/-- ITS FALSE NEIGHBOUR: 'it returns false'. Refute it at one input. -/
def entryFramesWrong : ChangeSpec := { name := "entryFrames", fn := fun _ => fun
  | [d1, d2, d3, d4, d5] => { results := [.lit (.bool false)], args := [d1, d2, d3, d4, d5] }
  | _ => none }
def EntryFramesWrongFalsely : Prop := entryFramesRow.holds Try.pinned (OpenSpec.ofChange entryFramesWrong)

/-- 'revetmentlaw04.EntryReads': WHATEVER THE INPUT: true; the input reads as it did. -/
def entryReadsSpec : ChangeSpec := { name := "entryReads", fn := fun _ => fun
  | [d] => { results := [.lit (.bool true)], args := [d] }
  | _ => none }
def entryReadsRow : OpenClaim := { program := "ytfcadbeamojdpaa", sum := "8885df71e90a193a672b5a2342632dc5b3aca448c0553cfcbeee9c83f07ae65f", func := "revetment/revetmentlaw04.EntryReads", spec := "entryReads", apart := false }
def EntryReadsSaid : Prop := entryReadsRow.holds Try.pinned (OpenSpec.ofChange entryReadsSpec)

/-- ITS FALSE NEIGHBOUR: 'it returns false'. Refute it at one input. -/
def entryReadsWrong : ChangeSpec := { name := "entryReads", fn := fun _ => fun
  | [d] => { results := [.lit (.bool false)], args := [d] }
  | _ => none }
def EntryReadsWrongFalsely : Prop := entryReadsRow.holds Try.pinned (OpenSpec.ofChange entryReadsWrong)

/- THE SECOND FORM. 'bulk': how many values and letters a reading holds, each counted each time it is reached (what is shared counts as often as it is met; a slice's spare places count too). A statement '..UptoSaid' is the law's where the arguments, and the package variables that the reading takes, are together of bulk at most 1048576: NARROWER than '..Said'. Prove '..Said' where nothing that the law and all that it calls make is longer than what came in: it says more and counts as full. Else prove '..UptoSaid'. A law counts once. -/
mutual
def uptoBulk {H : Type} : DataW H → Nat
  | .lit (.string bytes) => bytes.length + 1
  | .lit _ => 1
  | .nil => 1
  | .ptr d => uptoBulk d + 1
  | .slice elems spare => uptoBulkAll elems + uptoBulkAll spare + 1
  | .agg parts => uptoBulkAll parts + 1
  | .iface _ d => uptoBulk d + 1
  | .map entries => uptoBulkEntries entries + 1
  | .held _ => 1
def uptoBulkAll {H : Type} : List (DataW H) → Nat
  | [] => 0
  | d :: r => uptoBulk d + uptoBulkAll r
def uptoBulkEntries {H : Type} : List (Lit × DataW H) → Nat
  | [] => 0
  | x :: r => uptoBulkEntry x + uptoBulkEntries r
def uptoBulkEntry {H : Type} : Lit × DataW H → Nat
  | (.string bytes, d) => bytes.length + uptoBulk d + 1
  | (_, d) => uptoBulk d + 1
 end
def uptoSmall : (H : Type) → List (DataW H) → Bool := fun _ ds => decide (uptoBulkAll ds ≤ 1048576)
def OpenSpec.upto (s : _root_.Go.ChangeSpec) : _root_.Go.OpenSpec := { _root_.Go.OpenSpec.ofChange s with cond := some uptoSmall }

/-- 'revetmentlaw03.FrameUnlike', WHERE WHAT IT READS IS OF BULK AT MOST 1048576: true; the input reads as it did. -/
def frameUnlikeUptoRow : OpenClaim := { program := "ytfcadbeamojdpaa", sum := "8885df71e90a193a672b5a2342632dc5b3aca448c0553cfcbeee9c83f07ae65f", func := "revetment/revetmentlaw03.FrameUnlike", spec := "frameUnlike", apart := false, narrowed := true }
def FrameUnlikeUptoSaid : Prop := frameUnlikeUptoRow.holds Try.pinned (OpenSpec.upto frameUnlikeSpec)

/-- 'revetmentlaw03.FrameFlips', WHERE WHAT IT READS IS OF BULK AT MOST 1048576: true; the input reads as it did. -/
def frameFlipsUptoRow : OpenClaim := { program := "ytfcadbeamojdpaa", sum := "8885df71e90a193a672b5a2342632dc5b3aca448c0553cfcbeee9c83f07ae65f", func := "revetment/revetmentlaw03.FrameFlips", spec := "frameFlips", apart := false, narrowed := true }
def FrameFlipsUptoSaid : Prop := frameFlipsUptoRow.holds Try.pinned (OpenSpec.upto frameFlipsSpec)

/-- 'revetmentlaw03.FrameDecodes', WHERE WHAT IT READS IS OF BULK AT MOST 1048576: true; the input reads as it did. -/
def frameDecodesUptoRow : OpenClaim := { program := "ytfcadbeamojdpaa", sum := "8885df71e90a193a672b5a2342632dc5b3aca448c0553cfcbeee9c83f07ae65f", func := "revetment/revetmentlaw03.FrameDecodes", spec := "frameDecodes", apart := false, narrowed := true }
def FrameDecodesUptoSaid : Prop := frameDecodesUptoRow.holds Try.pinned (OpenSpec.upto frameDecodesSpec)

/-- 'revetmentlaw03.FrameSpoilt', WHERE WHAT IT READS IS OF BULK AT MOST 1048576: true; the input reads as it did. -/
def frameSpoiltUptoRow : OpenClaim := { program := "ytfcadbeamojdpaa", sum := "8885df71e90a193a672b5a2342632dc5b3aca448c0553cfcbeee9c83f07ae65f", func := "revetment/revetmentlaw03.FrameSpoilt", spec := "frameSpoilt", apart := false, narrowed := true }
def FrameSpoiltUptoSaid : Prop := frameSpoiltUptoRow.holds Try.pinned (OpenSpec.upto frameSpoiltSpec)

/-- 'revetmentlaw03.FrameEncodes', WHERE WHAT IT READS IS OF BULK AT MOST 1048576: true; the input reads as it did. -/
def frameEncodesUptoRow : OpenClaim := { program := "ytfcadbeamojdpaa", sum := "8885df71e90a193a672b5a2342632dc5b3aca448c0553cfcbeee9c83f07ae65f", func := "revetment/revetmentlaw03.FrameEncodes", spec := "frameEncodes", apart := false, narrowed := true }
def FrameEncodesUptoSaid : Prop := frameEncodesUptoRow.holds Try.pinned (OpenSpec.upto frameEncodesSpec)

/-- 'revetmentlaw03.FrameBound', WHERE WHAT IT READS IS OF BULK AT MOST 1048576: true; the input reads as it did. -/
def frameBoundUptoRow : OpenClaim := { program := "ytfcadbeamojdpaa", sum := "8885df71e90a193a672b5a2342632dc5b3aca448c0553cfcbeee9c83f07ae65f", func := "revetment/revetmentlaw03.FrameBound", spec := "frameBound", apart := false, narrowed := true }
def FrameBoundUptoSaid : Prop := frameBoundUptoRow.holds Try.pinned (OpenSpec.upto frameBoundSpec)

/-- 'revetmentlaw04.EntryUnlike', WHERE WHAT IT READS IS OF BULK AT MOST 1048576: true; the input reads as it did. -/
def entryUnlikeUptoRow : OpenClaim := { program := "ytfcadbeamojdpaa", sum := "8885df71e90a193a672b5a2342632dc5b3aca448c0553cfcbeee9c83f07ae65f", func := "revetment/revetmentlaw04.EntryUnlike", spec := "entryUnlike", apart := false, narrowed := true }
def EntryUnlikeUptoSaid : Prop := entryUnlikeUptoRow.holds Try.pinned (OpenSpec.upto entryUnlikeSpec)

/-- 'revetmentlaw04.EntryGroups', WHERE WHAT IT READS IS OF BULK AT MOST 1048576: true; the input reads as it did. -/
def entryGroupsUptoRow : OpenClaim := { program := "ytfcadbeamojdpaa", sum := "8885df71e90a193a672b5a2342632dc5b3aca448c0553cfcbeee9c83f07ae65f", func := "revetment/revetmentlaw04.EntryGroups", spec := "entryGroups", apart := false, narrowed := true }
def EntryGroupsUptoSaid : Prop := entryGroupsUptoRow.holds Try.pinned (OpenSpec.upto entryGroupsSpec)

/-- 'revetmentlaw04.EntryFills', WHERE WHAT IT READS IS OF BULK AT MOST 1048576: true; the input reads as it did. -/
def entryFillsUptoRow : OpenClaim := { program := "ytfcadbeamojdpaa", sum := "8885df71e90a193a672b5a2342632dc5b3aca448c0553cfcbeee9c83f07ae65f", func := "revetment/revetmentlaw04.EntryFills", spec := "entryFills", apart := false, narrowed := true }
def EntryFillsUptoSaid : Prop := entryFillsUptoRow.holds Try.pinned (OpenSpec.upto entryFillsSpec)

/-- 'revetmentlaw04.EntryBodies', WHERE WHAT IT READS IS OF BULK AT MOST 1048576: true; the input reads as it did. -/
def entryBodiesUptoRow : OpenClaim := { program := "ytfcadbeamojdpaa", sum := "8885df71e90a193a672b5a2342632dc5b3aca448c0553cfcbeee9c83f07ae65f", func := "revetment/revetmentlaw04.EntryBodies", spec := "entryBodies", apart := false, narrowed := true }
def EntryBodiesUptoSaid : Prop := entryBodiesUptoRow.holds Try.pinned (OpenSpec.upto entryBodiesSpec)

/-- 'revetmentlaw04.EntryFrames', WHERE WHAT IT READS IS OF BULK AT MOST 1048576: true; the input reads as it did. -/
def entryFramesUptoRow : OpenClaim := { program := "ytfcadbeamojdpaa", sum := "8885df71e90a193a672b5a2342632dc5b3aca448c0553cfcbeee9c83f07ae65f", func := "revetment/revetmentlaw04.EntryFrames", spec := "entryFrames", apart := false, narrowed := true }
def EntryFramesUptoSaid : Prop := entryFramesUptoRow.holds Try.pinned (OpenSpec.upto entryFramesSpec)

/-- 'revetmentlaw04.EntryReads', WHERE WHAT IT READS IS OF BULK AT MOST 1048576: true; the input reads as it did. -/
def entryReadsUptoRow : OpenClaim := { program := "ytfcadbeamojdpaa", sum := "8885df71e90a193a672b5a2342632dc5b3aca448c0553cfcbeee9c83f07ae65f", func := "revetment/revetmentlaw04.EntryReads", spec := "entryReads", apart := false, narrowed := true }
def EntryReadsUptoSaid : Prop := entryReadsUptoRow.holds Try.pinned (OpenSpec.upto entryReadsSpec)

end Rows
end Go.Proofs.Ytfcadbeamojdpaa
