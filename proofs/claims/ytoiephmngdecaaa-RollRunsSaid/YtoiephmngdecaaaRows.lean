/-
  No cell of these rows narrows 'for every input' (looked for: loops, veiled, ifaces, maps, wideKeys, modest, calm, conditions, laid).
  DERIVED. THE GIVEN ROWS OF THIS SEAT. 6 by the template 'for every input the law returns true; each argument reads behind the call as it read before'; 0 by the template 'total and deterministic' (their statements: YtoiephmngdecaaaTotals.lean).
  GIVEN WITH THE SEED: the statements are not yours to turn. If you find one false, say at which input.
  Laid BY PROGRAM, IN A SANDBOX (cutbox-rows.mjs): the forced cells as the released guide's own fill.sh prints them over the translation b62f969219dd888c… (all of the seat's roots in one cut). By AI agents, Wed Nov 11 2026. No macro, syntax, notation, axiom, sorry.
-/
import Derived.Test.YtoiephmngdecaaaChecked
import GoSem.Claim
import GoSem.ClaimJoined
import GoSem.ClaimMapViews
import Derived.JoinedTies
import Derived.KernelRfl
namespace Go.Proofs.Ytoiephmngdecaaa
/- THE CELL 'sum', in the pinned program and in every row, IS THE sha256 OF THE DUMP (.gsa) THAT YtoiephmngdecaaaProg.lean LOADS. Nothing in Lean hashes anything: it is a label: what it is worth is what the hold of that sum in a sandbox is worth. -/
noncomputable def Try.pinned : Pinned := { name := "ytoiephmngdecaaa", sum := "b62f969219dd888c190ee4243cb8e2ab78c004b529b04ad743280d63cb0d0fe6", checked := Try.checked }
namespace Rows
def none {H : Type} : Left H := { results := [], args := [] }

/-- 'revetmentlaw17.RollRuns': WHATEVER THE INPUT: true; the input reads as it did. -/
def rollRunsSpec : ChangeSpec := { name := "rollRuns", fn := fun _ => fun
  | [d1, d2, d3, d4, d5] => { results := [.lit (.bool true)], args := [d1, d2, d3, d4, d5] }
  | _ => none }
def rollRunsRow : OpenClaim := { program := "ytoiephmngdecaaa", sum := "b62f969219dd888c190ee4243cb8e2ab78c004b529b04ad743280d63cb0d0fe6", func := "revetment/revetmentlaw17.RollRuns", spec := "rollRuns", unfollowed := true, recurses := true, apart := false }
def RollRunsSaid : Prop := rollRunsRow.holds Try.pinned (OpenSpec.ofChange rollRunsSpec)

/-- ITS FALSE NEIGHBOUR: 'it returns false'. Refute it at one input. -/
def rollRunsWrong : ChangeSpec := { name := "rollRuns", fn := fun _ => fun
  | [d1, d2, d3, d4, d5] => { results := [.lit (.bool false)], args := [d1, d2, d3, d4, d5] }
  | _ => none }
def RollRunsWrongFalsely : Prop := rollRunsRow.holds Try.pinned (OpenSpec.ofChange rollRunsWrong)

/-- 'revetmentlaw17.RollRecords': WHATEVER THE INPUT: true; the input reads as it did. -/
def rollRecordsSpec : ChangeSpec := { name := "rollRecords", fn := fun _ => fun
  | [d1, d2, d3, d4] => { results := [.lit (.bool true)], args := [d1, d2, d3, d4] }
  | _ => none }
def rollRecordsRow : OpenClaim := { program := "ytoiephmngdecaaa", sum := "b62f969219dd888c190ee4243cb8e2ab78c004b529b04ad743280d63cb0d0fe6", func := "revetment/revetmentlaw17.RollRecords", spec := "rollRecords", unfollowed := true, recurses := true, apart := false }
def RollRecordsSaid : Prop := rollRecordsRow.holds Try.pinned (OpenSpec.ofChange rollRecordsSpec)

/-- ITS FALSE NEIGHBOUR: 'it returns false'. Refute it at one input. -/
def rollRecordsWrong : ChangeSpec := { name := "rollRecords", fn := fun _ => fun
  | [d1, d2, d3, d4] => { results := [.lit (.bool false)], args := [d1, d2, d3, d4] }
  | _ => none }
def RollRecordsWrongFalsely : Prop := rollRecordsRow.holds Try.pinned (OpenSpec.ofChange rollRecordsWrong)

/-- 'revetmentlaw17.RollBeside': WHATEVER THE INPUT: true; the input reads as it did. -/
def rollBesideSpec : ChangeSpec := { name := "rollBeside", fn := fun _ => fun
  | [d1, d2, d3, d4, d5, d6, d7] => { results := [.lit (.bool true)], args := [d1, d2, d3, d4, d5, d6, d7] }
  | _ => none }
def rollBesideRow : OpenClaim := { program := "ytoiephmngdecaaa", sum := "b62f969219dd888c190ee4243cb8e2ab78c004b529b04ad743280d63cb0d0fe6", func := "revetment/revetmentlaw17.RollBeside", spec := "rollBeside", unfollowed := true, recurses := true, apart := false }
def RollBesideSaid : Prop := rollBesideRow.holds Try.pinned (OpenSpec.ofChange rollBesideSpec)

/-- ITS FALSE NEIGHBOUR: 'it returns false'. Refute it at one input. -/
def rollBesideWrong : ChangeSpec := { name := "rollBeside", fn := fun _ => fun
  | [d1, d2, d3, d4, d5, d6, d7] => { results := [.lit (.bool false)], args := [d1, d2, d3, d4, d5, d6, d7] }
  | _ => none }
def RollBesideWrongFalsely : Prop := rollBesideRow.holds Try.pinned (OpenSpec.ofChange rollBesideWrong)

/-- 'revetmentlaw17.RollCuts': WHATEVER THE INPUT: true; the input reads as it did. -/
def rollCutsSpec : ChangeSpec := { name := "rollCuts", fn := fun _ => fun
  | [d1, d2, d3, d4, d5, d6] => { results := [.lit (.bool true)], args := [d1, d2, d3, d4, d5, d6] }
  | _ => none }
def rollCutsRow : OpenClaim := { program := "ytoiephmngdecaaa", sum := "b62f969219dd888c190ee4243cb8e2ab78c004b529b04ad743280d63cb0d0fe6", func := "revetment/revetmentlaw17.RollCuts", spec := "rollCuts", unfollowed := true, recurses := true, apart := false }
def RollCutsSaid : Prop := rollCutsRow.holds Try.pinned (OpenSpec.ofChange rollCutsSpec)

/-- ITS FALSE NEIGHBOUR: 'it returns false'. Refute it at one input. -/
def rollCutsWrong : ChangeSpec := { name := "rollCuts", fn := fun _ => fun
  | [d1, d2, d3, d4, d5, d6] => { results := [.lit (.bool false)], args := [d1, d2, d3, d4, d5, d6] }
  | _ => none }
def RollCutsWrongFalsely : Prop := rollCutsRow.holds Try.pinned (OpenSpec.ofChange rollCutsWrong)

/-- 'revetmentlaw17.RollOrder': WHATEVER THE INPUT: true; the input reads as it did. -/
def rollOrderSpec : ChangeSpec := { name := "rollOrder", fn := fun _ => fun
  | [d1, d2, d3, d4, d5] => { results := [.lit (.bool true)], args := [d1, d2, d3, d4, d5] }
  | _ => none }
def rollOrderRow : OpenClaim := { program := "ytoiephmngdecaaa", sum := "b62f969219dd888c190ee4243cb8e2ab78c004b529b04ad743280d63cb0d0fe6", func := "revetment/revetmentlaw17.RollOrder", spec := "rollOrder", unfollowed := true, recurses := true, apart := false }
def RollOrderSaid : Prop := rollOrderRow.holds Try.pinned (OpenSpec.ofChange rollOrderSpec)

/-- ITS FALSE NEIGHBOUR: 'it returns false'. Refute it at one input. -/
def rollOrderWrong : ChangeSpec := { name := "rollOrder", fn := fun _ => fun
  | [d1, d2, d3, d4, d5] => { results := [.lit (.bool false)], args := [d1, d2, d3, d4, d5] }
  | _ => none }
def RollOrderWrongFalsely : Prop := rollOrderRow.holds Try.pinned (OpenSpec.ofChange rollOrderWrong)

/-- 'revetmentlaw17.RollNothing': WHATEVER THE INPUT: true; the input reads as it did. -/
def rollNothingSpec : ChangeSpec := { name := "rollNothing", fn := fun _ => fun
  | [d1, d2, d3, d4, d5] => { results := [.lit (.bool true)], args := [d1, d2, d3, d4, d5] }
  | _ => none }
def rollNothingRow : OpenClaim := { program := "ytoiephmngdecaaa", sum := "b62f969219dd888c190ee4243cb8e2ab78c004b529b04ad743280d63cb0d0fe6", func := "revetment/revetmentlaw17.RollNothing", spec := "rollNothing", unfollowed := true, recurses := true, apart := false }
def RollNothingSaid : Prop := rollNothingRow.holds Try.pinned (OpenSpec.ofChange rollNothingSpec)

/-- ITS FALSE NEIGHBOUR: 'it returns false'. Refute it at one input. -/
def rollNothingWrong : ChangeSpec := { name := "rollNothing", fn := fun _ => fun
  | [d1, d2, d3, d4, d5] => { results := [.lit (.bool false)], args := [d1, d2, d3, d4, d5] }
  | _ => none }
def RollNothingWrongFalsely : Prop := rollNothingRow.holds Try.pinned (OpenSpec.ofChange rollNothingWrong)

/- THE SECOND FORM. 'bulk': how many values and letters a reading holds, each counted each time it is reached (what is shared counts as often as it is met; a slice's spare places count too). A statement '..UptoSaid' is the law's where the arguments, and the package variables that the reading takes, are together of bulk at most 1048576: NARROWER than '..Said'. Prove '..Said' where nothing that the law and all that it calls make is longer than what came in: it says more and counts as full. Else prove '..UptoSaid'. A law counts once. -/
mutual
def uptoBulk {H : Type} : DataW H → Nat
  | .lit (.string bytes) => bytes.length + 1
  | .lit _ => 1
  | .nil => 1
  | .ptr d => uptoBulk d + 1
  | .slice elems spare => uptoBulkAll elems + uptoBulkAll spare + 1
  | .agg parts => uptoBulkAll parts + 1
  | .iface _ d => uptoBulk d + 1
  | .map entries => uptoBulkEntries entries + 1
  | .held _ => 1
def uptoBulkAll {H : Type} : List (DataW H) → Nat
  | [] => 0
  | d :: r => uptoBulk d + uptoBulkAll r
def uptoBulkEntries {H : Type} : List (Lit × DataW H) → Nat
  | [] => 0
  | x :: r => uptoBulkEntry x + uptoBulkEntries r
def uptoBulkEntry {H : Type} : Lit × DataW H → Nat
  | (.string bytes, d) => bytes.length + uptoBulk d + 1
  | (_, d) => uptoBulk d + 1
 end
def uptoSmall : (H : Type) → List (DataW H) → Bool := fun _ ds => decide (uptoBulkAll ds ≤ 1048576)
def OpenSpec.upto (s : _root_.Go.ChangeSpec) : _root_.Go.OpenSpec := { _root_.Go.OpenSpec.ofChange s with cond := some uptoSmall }

/-- 'revetmentlaw17.RollRuns', WHERE WHAT IT READS IS OF BULK AT MOST 1048576: true; the input reads as it did. -/
def rollRunsUptoRow : OpenClaim := { program := "ytoiephmngdecaaa", sum := "b62f969219dd888c190ee4243cb8e2ab78c004b529b04ad743280d63cb0d0fe6", func := "revetment/revetmentlaw17.RollRuns", spec := "rollRuns", unfollowed := true, recurses := true, apart := false, narrowed := true }
def RollRunsUptoSaid : Prop := rollRunsUptoRow.holds Try.pinned (OpenSpec.upto rollRunsSpec)

/-- 'revetmentlaw17.RollRecords', WHERE WHAT IT READS IS OF BULK AT MOST 1048576: true; the input reads as it did. -/
def rollRecordsUptoRow : OpenClaim := { program := "ytoiephmngdecaaa", sum := "b62f969219dd888c190ee4243cb8e2ab78c004b529b04ad743280d63cb0d0fe6", func := "revetment/revetmentlaw17.RollRecords", spec := "rollRecords", unfollowed := true, recurses := true, apart := false, narrowed := true }
def RollRecordsUptoSaid : Prop := rollRecordsUptoRow.holds Try.pinned (OpenSpec.upto rollRecordsSpec)

/-- 'revetmentlaw17.RollBeside', WHERE WHAT IT READS IS OF BULK AT MOST 1048576: true; the input reads as it did. -/
def rollBesideUptoRow : OpenClaim := { program := "ytoiephmngdecaaa", sum := "b62f969219dd888c190ee4243cb8e2ab78c004b529b04ad743280d63cb0d0fe6", func := "revetment/revetmentlaw17.RollBeside", spec := "rollBeside", unfollowed := true, recurses := true, apart := false, narrowed := true }
def RollBesideUptoSaid : Prop := rollBesideUptoRow.holds Try.pinned (OpenSpec.upto rollBesideSpec)

/-- 'revetmentlaw17.RollCuts', WHERE WHAT IT READS IS OF BULK AT MOST 1048576: true; the input reads as it did. -/
def rollCutsUptoRow : OpenClaim := { program := "ytoiephmngdecaaa", sum := "b62f969219dd888c190ee4243cb8e2ab78c004b529b04ad743280d63cb0d0fe6", func := "revetment/revetmentlaw17.RollCuts", spec := "rollCuts", unfollowed := true, recurses := true, apart := false, narrowed := true }
def RollCutsUptoSaid : Prop := rollCutsUptoRow.holds Try.pinned (OpenSpec.upto rollCutsSpec)

/-- 'revetmentlaw17.RollOrder', WHERE WHAT IT READS IS OF BULK AT MOST 1048576: true; the input reads as it did. -/
def rollOrderUptoRow : OpenClaim := { program := "ytoiephmngdecaaa", sum := "b62f969219dd888c190ee4243cb8e2ab78c004b529b04ad743280d63cb0d0fe6", func := "revetment/revetmentlaw17.RollOrder", spec := "rollOrder", unfollowed := true, recurses := true, apart := false, narrowed := true }
def RollOrderUptoSaid : Prop := rollOrderUptoRow.holds Try.pinned (OpenSpec.upto rollOrderSpec)

/-- 'revetmentlaw17.RollNothing', WHERE WHAT IT READS IS OF BULK AT MOST 1048576: true; the input reads as it did. -/
def rollNothingUptoRow : OpenClaim := { program := "ytoiephmngdecaaa", sum := "b62f969219dd888c190ee4243cb8e2ab78c004b529b04ad743280d63cb0d0fe6", func := "revetment/revetmentlaw17.RollNothing", spec := "rollNothing", unfollowed := true, recurses := true, apart := false, narrowed := true }
def RollNothingUptoSaid : Prop := rollNothingUptoRow.holds Try.pinned (OpenSpec.upto rollNothingSpec)

end Rows
end Go.Proofs.Ytoiephmngdecaaa
