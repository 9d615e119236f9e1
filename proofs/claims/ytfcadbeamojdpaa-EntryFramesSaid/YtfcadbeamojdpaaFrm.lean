/- Small laws for the frame's seat: a frame and a sector as cells; whole rows loaded, stored, handed back. -/
import Derived.Test.YtfcadbeamojdpaaProg
import Derived.Test.YtfcadbeamojdpaaCodNum
import Derived.Test.YtfcadbeamojdpaaFrMath
import Derived.WalkLawsBesides
import Derived.Deep.WholeRow
import Derived.Laws.Rows
import Derived.Laws.CopyOwn
namespace Go.Rv
open Go.RowKit
theorem results_row_tmp {P : Program} {fn : Func} {p q : Tmp} {ty : TypeId} (h : fn.results = #[.cell p ty, .tmp q]) (tmps : Array Value) (w : World) (g : Nat) (t : TypeId) (cs : Array Value) (fr : Nat × Nat) (d : TypeDesc)
    (hp : tmps.getD p undef = .pointer (some ⟨g, 0, none⟩)) (hg : w.heap[g]? = some (.cells cs t fr))
    (hu : P.underlying ty = some d) (hd : (match d with | .struct _ | .array _ _ => true | _ => false) = true) (hi : (P.info? ty).map (·.size) = some cs.size) :
    (results fn tmps).run P w = .ok (.tuple #[.agg cs, tmps.getD q undef]) w := by
  have hp' : tmps[p]?.getD undef = .pointer (some ⟨g, 0, none⟩) := by simpa using hp
  simp [results, h, hp', asAddr, run_loadVar_row w g t ty cs fr d hg hu hd hi]
end Go.Rv
namespace Go.Proofs.Ytfcadbeamojdpaa
open Go.RowKit Go.Rv Frm
set_option linter.unusedVariables false
/-- a frame's cells -/
def FC (f : Fr) : Array Value := #[.int .i64 f.kind, .int .i64 f.zone, .int .i64 f.off, .int .i64 f.epoch, .int .i64 f.seq] ++ byteCells f.body
theorem FC_size (f : Fr) : (FC f).size = 5 + f.body.length := by simp [FC, byteCells]; omega
theorem FC_num (f : Fr) : (FC f)[0]? = some (.int .i64 f.kind) ∧ (FC f)[1]? = some (.int .i64 f.zone) ∧ (FC f)[2]? = some (.int .i64 f.off) ∧ (FC f)[3]? = some (.int .i64 f.epoch) ∧ (FC f)[4]? = some (.int .i64 f.seq) := by
  refine ⟨?_, ?_, ?_, ?_, ?_⟩ <;> (unfold FC; rw [Array.getElem?_append_left (by simp)]; rfl)
theorem FC_body (f : Fr) (i : Nat) (h : i < f.body.length) : (FC f)[5 + i]? = some (.int .u8 (f.body.getD i 0 : Nat)) := by
  unfold FC
  rw [Array.getElem?_append_right (by simp)]
  simp only [List.size_toArray, List.length_cons, List.length_nil]
  rw [show 5 + i - (0 + 1 + 1 + 1 + 1 + 1) = i by omega]
  exact byteCells_at _ _ h
theorem FC_one (f : Fr) : (FC f).all (·.oneCell') = true := by
  have h := one_byteCells f.body
  simp [FC, Value.oneCell'] at h ⊢
  exact h
theorem Try.infoFrame : (Try.prog.info? 24).map (fun i => (i.zero, i.size)) = some (some (.agg (FC Fr.zero)), 49) := by kernel_rfl
theorem Try.infoSector : (Try.prog.info? 31).map (fun i => (i.zero, i.size)) = some (some (.agg (byteCells (List.replicate 64 0))), 64) := by kernel_rfl
/-- a frame in memory: its cells, one by one -/
theorem frame_cells {w : World} {g : Nat} {f : Fr} {t : TypeId} (h : w.heap[g]? = some (.cells (FC f) t (0, 0))) : w.cell? ⟨g, 0, none⟩ = some (.int .i64 f.kind) ∧ w.cell? ⟨g, 1, none⟩ = some (.int .i64 f.zone) ∧ w.cell? ⟨g, 2, none⟩ = some (.int .i64 f.off) ∧ w.cell? ⟨g, 3, none⟩ = some (.int .i64 f.epoch) ∧ w.cell? ⟨g, 4, none⟩ = some (.int .i64 f.seq) := by
  obtain ⟨h0, h1, h2, h3, h4⟩ := FC_num f
  exact ⟨(cell_of_row _ _ _ _ _ _ h).trans h0, (cell_of_row _ _ _ _ _ _ h).trans h1, (cell_of_row _ _ _ _ _ _ h).trans h2, (cell_of_row _ _ _ _ _ _ h).trans h3, (cell_of_row _ _ _ _ _ _ h).trans h4⟩
/-- its body reads as a slice's bytes -/
theorem frame_body {w : World} {g : Nat} {f : Fr} {t : TypeId} (h : w.heap[g]? = some (.cells (FC f) t (0, 0))) (hf : ∀ c ∈ f.body, c < 256) : Bytes w (some ⟨g, 5, none⟩) f.body :=
  ⟨hf, .inr ⟨g, 5, rfl, (Array.getElem?_eq_some_iff.1 h).1, fun i hi => (cell_of_row _ _ _ _ _ _ h).trans (FC_body f i hi)⟩⟩
end Go.Proofs.Ytfcadbeamojdpaa
