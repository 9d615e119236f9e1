/- Proved here: the steps of the laws on maps, as they come in. -/
import Derived.Test.YteggijkcdlboeaaBmOps
namespace Go.Proofs.Yteggijkcdlboeaa
open Go.RowKit Go.Rv
set_option linter.unusedVariables false
theorem op_of_fits {d : Nat} {w : World} {cs : List Value} (h : Fits Try.prog w (d + 3) 43 cs) : ∃ x : Int × BE, cs = (opC x).toList ∧ Op64 x := by
  obtain ⟨hl, hx⟩ := fits_struct (d := d + 2) Try.underlying43 h
  have k1 : Try.prog.cellsOf 3 = 1 := by kernel_rfl
  have k6 : Try.prog.cellsOf 41 = 6 := by kernel_rfl
  have k7 : Try.prog.cellsOf 43 = 7 := by kernel_rfl
  rw [k7] at hl
  simp only [List.forall_mem_cons, k1, k6] at hx
  obtain ⟨f0, f1, -⟩ := hx
  obtain ⟨n0, c0, w0⟩ := fits_int Try.underlying3 f0
  obtain ⟨e, c1, w1⟩ := ent_of_fits6 f1
  refine ⟨(n0, e), ?_, w0, w1⟩
  match cs, hl with
  | v :: r, hl =>
    simp at c0 c1 hl
    rw [List.take_of_length_le (by omega)] at c1
    rw [c0, c1]
    rfl
theorem steps7_of_fits {w : World} {a : Option Addr} {len cap : Nat} (h : Fits Try.prog w 6 35 [.slice a len cap]) : ∃ xs : List (Int × BE), xs.length = len ∧ RowOf w 7 opC Op64 a xs ∧ len ≤ cap ∧ cap ≤ 9223372036854775807 ∧ (a = none → cap = 0) :=
  rowOf_of_fits (d := 5) 7 opC Op64 Try.underlying35 (by kernel_rfl) (by omega) (fun cs _ hf => op_of_fits (d := 2) hf) h
theorem steps6_of_fits {w : World} {a : Option Addr} {len cap : Nat} (h : Fits Try.prog w 6 46 [.slice a len cap]) : ∃ xs : List BE, xs.length = len ∧ RowOf w 6 BEC E64 a xs ∧ len ≤ cap ∧ cap ≤ 9223372036854775807 ∧ (a = none → cap = 0) :=
  rowOf_of_fits (d := 5) 6 BEC E64 Try.underlying46 (by kernel_rfl) (by omega) (fun cs _ hf => ent_of_fits6 (d := 3) hf) h
end Go.Proofs.Yteggijkcdlboeaa
