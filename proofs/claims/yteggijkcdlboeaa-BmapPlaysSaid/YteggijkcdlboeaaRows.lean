/-
  No cell of these rows narrows 'for every input' (looked for: loops, veiled, ifaces, maps, wideKeys, modest, calm, conditions, laid).
  DERIVED. THE GIVEN ROWS OF THIS SEAT. 7 by the template 'for every input the law returns true; each argument reads behind the call as it read before'; 0 by the template 'total and deterministic' (their statements: YteggijkcdlboeaaTotals.lean).
  GIVEN WITH THE SEED: the statements are not yours to turn. If you find one false, say at which input.
  Laid BY PROGRAM, IN A SANDBOX (cutbox-rows.mjs): the forced cells as the released guide's own fill.sh prints them over the translation e44c20003eea1568… (all of the seat's roots in one cut). By AI agents, Wed Nov 11 2026. No macro, syntax, notation, axiom, sorry.
-/
import Derived.Test.YteggijkcdlboeaaChecked
import GoSem.Claim
import GoSem.ClaimJoined
import GoSem.ClaimMapViews
import Derived.JoinedTies
import Derived.KernelRfl
namespace Go.Proofs.Yteggijkcdlboeaa
/- THE CELL 'sum', in the pinned program and in every row, IS THE sha256 OF THE DUMP (.gsa) THAT YteggijkcdlboeaaProg.lean LOADS. Nothing in Lean hashes anything: it is a label: what it is worth is what the hold of that sum in a sandbox is worth. -/
noncomputable def Try.pinned : Pinned := { name := "yteggijkcdlboeaa", sum := "e44c20003eea156807eea1f72c5aeb9fbc55546c7deb4f2e5b9010b58dfa0fc9", checked := Try.checked }
namespace Rows
def none {H : Type} : Left H := { results := [], args := [] }

/-- 'revetmentlaw05.GeomMore': WHATEVER THE INPUT: true; the input reads as it did. -/
def geomMoreSpec : ChangeSpec := { name := "geomMore", fn := fun _ => fun
  | [d1, d2, d3] => { results := [.lit (.bool true)], args := [d1, d2, d3] }
  | _ => none }
def geomMoreRow : OpenClaim := { program := "yteggijkcdlboeaa", sum := "e44c20003eea156807eea1f72c5aeb9fbc55546c7deb4f2e5b9010b58dfa0fc9", func := "revetment/revetmentlaw05.GeomMore", spec := "geomMore", unfollowed := true, recurses := true, apart := false }
def GeomMoreSaid : Prop := geomMoreRow.holds Try.pinned (OpenSpec.ofChange geomMoreSpec)

/-- ITS FALSE NEIGHBOUR: 'it returns false'. Refute it at one input. -/
def geomMoreWrong : ChangeSpec := { name := "geomMore", fn := fun _ => fun
  | [d1, d2, d3] => { results := [.lit (.bool false)], args := [d1, d2, d3] }
  | _ => none }
def GeomMoreWrongFalsely : Prop := geomMoreRow.holds Try.pinned (OpenSpec.ofChange geomMoreWrong)

/-- 'revetmentlaw05.GeomRight': WHATEVER THE INPUT: true; the input reads as it did. -/
def geomRightSpec : ChangeSpec := { name := "geomRight", fn := fun _ => fun
  | [d] => { results := [.lit (.bool true)], args := [d] }
  | _ => none }
def geomRightRow : OpenClaim := { program := "yteggijkcdlboeaa", sum := "e44c20003eea156807eea1f72c5aeb9fbc55546c7deb4f2e5b9010b58dfa0fc9", func := "revetment/revetmentlaw05.GeomRight", spec := "geomRight", unfollowed := true, recurses := true, apart := false }
def GeomRightSaid : Prop := geomRightRow.holds Try.pinned (OpenSpec.ofChange geomRightSpec)

/-- ITS FALSE NEIGHBOUR: 'it returns false'. Refute it at one input. -/
def geomRightWrong : ChangeSpec := { name := "geomRight", fn := fun _ => fun
  | [d] => { results := [.lit (.bool false)], args := [d] }
  | _ => none }
def GeomRightWrongFalsely : Prop := geomRightRow.holds Try.pinned (OpenSpec.ofChange geomRightWrong)

/-- 'revetmentlaw05.GeomRooms': WHATEVER THE INPUT: true; the input reads as it did. -/
def geomRoomsSpec : ChangeSpec := { name := "geomRooms", fn := fun _ => fun
  | [d] => { results := [.lit (.bool true)], args := [d] }
  | _ => none }
def geomRoomsRow : OpenClaim := { program := "yteggijkcdlboeaa", sum := "e44c20003eea156807eea1f72c5aeb9fbc55546c7deb4f2e5b9010b58dfa0fc9", func := "revetment/revetmentlaw05.GeomRooms", spec := "geomRooms", unfollowed := true, recurses := true, apart := false }
def GeomRoomsSaid : Prop := geomRoomsRow.holds Try.pinned (OpenSpec.ofChange geomRoomsSpec)

/-- ITS FALSE NEIGHBOUR: 'it returns false'. Refute it at one input. -/
def geomRoomsWrong : ChangeSpec := { name := "geomRooms", fn := fun _ => fun
  | [d] => { results := [.lit (.bool false)], args := [d] }
  | _ => none }
def GeomRoomsWrongFalsely : Prop := geomRoomsRow.holds Try.pinned (OpenSpec.ofChange geomRoomsWrong)

/-- 'revetmentlaw05.GeomZones': WHATEVER THE INPUT: true; the input reads as it did. -/
def geomZonesSpec : ChangeSpec := { name := "geomZones", fn := fun _ => fun
  | [d1, d2, d3, d4] => { results := [.lit (.bool true)], args := [d1, d2, d3, d4] }
  | _ => none }
def geomZonesRow : OpenClaim := { program := "yteggijkcdlboeaa", sum := "e44c20003eea156807eea1f72c5aeb9fbc55546c7deb4f2e5b9010b58dfa0fc9", func := "revetment/revetmentlaw05.GeomZones", spec := "geomZones", unfollowed := true, recurses := true, apart := false }
def GeomZonesSaid : Prop := geomZonesRow.holds Try.pinned (OpenSpec.ofChange geomZonesSpec)

/-- ITS FALSE NEIGHBOUR: 'it returns false'. Refute it at one input. -/
def geomZonesWrong : ChangeSpec := { name := "geomZones", fn := fun _ => fun
  | [d1, d2, d3, d4] => { results := [.lit (.bool false)], args := [d1, d2, d3, d4] }
  | _ => none }
def GeomZonesWrongFalsely : Prop := geomZonesRow.holds Try.pinned (OpenSpec.ofChange geomZonesWrong)

/-- 'revetmentlaw11.BmapSums': WHATEVER THE INPUT: true; the input reads as it did. -/
def bmapSumsSpec : ChangeSpec := { name := "bmapSums", fn := fun _ => fun
  | [d1, d2] => { results := [.lit (.bool true)], args := [d1, d2] }
  | _ => none }
def bmapSumsRow : OpenClaim := { program := "yteggijkcdlboeaa", sum := "e44c20003eea156807eea1f72c5aeb9fbc55546c7deb4f2e5b9010b58dfa0fc9", func := "revetment/revetmentlaw11.BmapSums", spec := "bmapSums", apart := false }
def BmapSumsSaid : Prop := bmapSumsRow.holds Try.pinned (OpenSpec.ofChange bmapSumsSpec)

/-- ITS FALSE NEIGHBOUR: 'it returns false'. Refute it at one input. -/
def bmapSumsWrong : ChangeSpec := { name := "bmapSums", fn := fun _ => fun
  | [d1, d2] => { results := [.lit (.bool false)], args := [d1, d2] }
  | _ => none }
def BmapSumsWrongFalsely : Prop := bmapSumsRow.holds Try.pinned (OpenSpec.ofChange bmapSumsWrong)

/-- 'revetmentlaw11.BmapOver': WHATEVER THE INPUT: true; the input reads as it did. -/
def bmapOverSpec : ChangeSpec := { name := "bmapOver", fn := fun _ => fun
  | [d1, d2, d3] => { results := [.lit (.bool true)], args := [d1, d2, d3] }
  | _ => none }
def bmapOverRow : OpenClaim := { program := "yteggijkcdlboeaa", sum := "e44c20003eea156807eea1f72c5aeb9fbc55546c7deb4f2e5b9010b58dfa0fc9", func := "revetment/revetmentlaw11.BmapOver", spec := "bmapOver", apart := false }
def BmapOverSaid : Prop := bmapOverRow.holds Try.pinned (OpenSpec.ofChange bmapOverSpec)

/-- ITS FALSE NEIGHBOUR: 'it returns false'. Refute it at one input. -/
def bmapOverWrong : ChangeSpec := { name := "bmapOver", fn := fun _ => fun
  | [d1, d2, d3] => { results := [.lit (.bool false)], args := [d1, d2, d3] }
  | _ => none }
def BmapOverWrongFalsely : Prop := bmapOverRow.holds Try.pinned (OpenSpec.ofChange bmapOverWrong)

/-- 'revetmentlaw11.BmapPlays': WHATEVER THE INPUT: true; the input reads as it did. -/
def bmapPlaysSpec : ChangeSpec := { name := "bmapPlays", fn := fun _ => fun
  | [d1, d2, d3, d4] => { results := [.lit (.bool true)], args := [d1, d2, d3, d4] }
  | _ => none }
def bmapPlaysRow : OpenClaim := { program := "yteggijkcdlboeaa", sum := "e44c20003eea156807eea1f72c5aeb9fbc55546c7deb4f2e5b9010b58dfa0fc9", func := "revetment/revetmentlaw11.BmapPlays", spec := "bmapPlays", unfollowed := true, recurses := true, apart := false }
def BmapPlaysSaid : Prop := bmapPlaysRow.holds Try.pinned (OpenSpec.ofChange bmapPlaysSpec)

/-- ITS FALSE NEIGHBOUR: 'it returns false'. Refute it at one input. -/
def bmapPlaysWrong : ChangeSpec := { name := "bmapPlays", fn := fun _ => fun
  | [d1, d2, d3, d4] => { results := [.lit (.bool false)], args := [d1, d2, d3, d4] }
  | _ => none }
def BmapPlaysWrongFalsely : Prop := bmapPlaysRow.holds Try.pinned (OpenSpec.ofChange bmapPlaysWrong)

/- THE SECOND FORM. 'bulk': how many values and letters a reading holds, each counted each time it is reached (what is shared counts as often as it is met; a slice's spare places count too). A statement '..UptoSaid' is the law's where the arguments, and the package variables that the reading takes, are together of bulk at most 1048576: NARROWER than '..Said'. Prove '..Said' where nothing that the law and all that it calls make is longer than what came in: it says more and counts as full. Else prove '..UptoSaid'. A law counts once. -/
mutual
def uptoBulk {H : Type} : DataW H → Nat
  | .lit (.string bytes) => bytes.length + 1
  | .lit _ => 1
  | .nil => 1
  | .ptr d => uptoBulk d + 1
  | .slice elems spare => uptoBulkAll elems + uptoBulkAll spare + 1
  | .agg parts => uptoBulkAll parts + 1
  | .iface _ d => uptoBulk d + 1
  | .map entries => uptoBulkEntries entries + 1
  | .held _ => 1
def uptoBulkAll {H : Type} : List (DataW H) → Nat
  | [] => 0
  | d :: r => uptoBulk d + uptoBulkAll r
def uptoBulkEntries {H : Type} : List (Lit × DataW H) → Nat
  | [] => 0
  | x :: r => uptoBulkEntry x + uptoBulkEntries r
def uptoBulkEntry {H : Type} : Lit × DataW H → Nat
  | (.string bytes, d) => bytes.length + uptoBulk d + 1
  | (_, d) => uptoBulk d + 1
 end
def uptoSmall : (H : Type) → List (DataW H) → Bool := fun _ ds => decide (uptoBulkAll ds ≤ 1048576)
def OpenSpec.upto (s : _root_.Go.ChangeSpec) : _root_.Go.OpenSpec := { _root_.Go.OpenSpec.ofChange s with cond := some uptoSmall }

/-- 'revetmentlaw05.GeomMore', WHERE WHAT IT READS IS OF BULK AT MOST 1048576: true; the input reads as it did. -/
def geomMoreUptoRow : OpenClaim := { program := "yteggijkcdlboeaa", sum := "e44c20003eea156807eea1f72c5aeb9fbc55546c7deb4f2e5b9010b58dfa0fc9", func := "revetment/revetmentlaw05.GeomMore", spec := "geomMore", unfollowed := true, recurses := true, apart := false, narrowed := true }
def GeomMoreUptoSaid : Prop := geomMoreUptoRow.holds Try.pinned (OpenSpec.upto geomMoreSpec)

/-- 'revetmentlaw05.GeomRight', WHERE WHAT IT READS IS OF BULK AT MOST 1048576: true; the input reads as it did. -/
def geomRightUptoRow : OpenClaim := { program := "yteggijkcdlboeaa", sum := "e44c20003eea156807eea1f72c5aeb9fbc55546c7deb4f2e5b9010b58dfa0fc9", func := "revetment/revetmentlaw05.GeomRight", spec := "geomRight", unfollowed := true, recurses := true, apart := false, narrowed := true }
def GeomRightUptoSaid : Prop := geomRightUptoRow.holds Try.pinned (OpenSpec.upto geomRightSpec)

/-- 'revetmentlaw05.GeomRooms', WHERE WHAT IT READS IS OF BULK AT MOST 1048576: true; the input reads as it did. -/
def geomRoomsUptoRow : OpenClaim := { program := "yteggijkcdlboeaa", sum := "e44c20003eea156807eea1f72c5aeb9fbc55546c7deb4f2e5b9010b58dfa0fc9", func := "revetment/revetmentlaw05.GeomRooms", spec := "geomRooms", unfollowed := true, recurses := true, apart := false, narrowed := true }
def GeomRoomsUptoSaid : Prop := geomRoomsUptoRow.holds Try.pinned (OpenSpec.upto geomRoomsSpec)

/-- 'revetmentlaw05.GeomZones', WHERE WHAT IT READS IS OF BULK AT MOST 1048576: true; the input reads as it did. -/
def geomZonesUptoRow : OpenClaim := { program := "yteggijkcdlboeaa", sum := "e44c20003eea156807eea1f72c5aeb9fbc55546c7deb4f2e5b9010b58dfa0fc9", func := "revetment/revetmentlaw05.GeomZones", spec := "geomZones", unfollowed := true, recurses := true, apart := false, narrowed := true }
def GeomZonesUptoSaid : Prop := geomZonesUptoRow.holds Try.pinned (OpenSpec.upto geomZonesSpec)

/-- 'revetmentlaw11.BmapSums', WHERE WHAT IT READS IS OF BULK AT MOST 1048576: true; the input reads as it did. -/
def bmapSumsUptoRow : OpenClaim := { program := "yteggijkcdlboeaa", sum := "e44c20003eea156807eea1f72c5aeb9fbc55546c7deb4f2e5b9010b58dfa0fc9", func := "revetment/revetmentlaw11.BmapSums", spec := "bmapSums", apart := false, narrowed := true }
def BmapSumsUptoSaid : Prop := bmapSumsUptoRow.holds Try.pinned (OpenSpec.upto bmapSumsSpec)

/-- 'revetmentlaw11.BmapOver', WHERE WHAT IT READS IS OF BULK AT MOST 1048576: true; the input reads as it did. -/
def bmapOverUptoRow : OpenClaim := { program := "yteggijkcdlboeaa", sum := "e44c20003eea156807eea1f72c5aeb9fbc55546c7deb4f2e5b9010b58dfa0fc9", func := "revetment/revetmentlaw11.BmapOver", spec := "bmapOver", apart := false, narrowed := true }
def BmapOverUptoSaid : Prop := bmapOverUptoRow.holds Try.pinned (OpenSpec.upto bmapOverSpec)

/-- 'revetmentlaw11.BmapPlays', WHERE WHAT IT READS IS OF BULK AT MOST 1048576: true; the input reads as it did. -/
def bmapPlaysUptoRow : OpenClaim := { program := "yteggijkcdlboeaa", sum := "e44c20003eea156807eea1f72c5aeb9fbc55546c7deb4f2e5b9010b58dfa0fc9", func := "revetment/revetmentlaw11.BmapPlays", spec := "bmapPlays", unfollowed := true, recurses := true, apart := false, narrowed := true }
def BmapPlaysUptoSaid : Prop := bmapPlaysUptoRow.holds Try.pinned (OpenSpec.upto bmapPlaysSpec)

end Rows
end Go.Proofs.Yteggijkcdlboeaa
