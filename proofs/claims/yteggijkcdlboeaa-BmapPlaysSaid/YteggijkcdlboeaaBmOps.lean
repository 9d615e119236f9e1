/- Proved here: what an argument of entries, or of steps, has in its cells. -/
import Derived.Test.YteggijkcdlboeaaBmRightAny
import Derived.Test.YteggijkcdlboeaaGeoFits
import Derived.Test.YteggijkcdlboeaaMany
namespace Go.Proofs.Yteggijkcdlboeaa
open Go.RowKit Go.Rv
set_option linter.unusedVariables false
theorem ent_of_fits6 {d : Nat} {w : World} {cs : List Value} (h : Fits Try.prog w (d + 2) 41 cs) : ∃ e : BE, cs = (BEC e).toList ∧ E64 e := by
  obtain ⟨hl, hx⟩ := fits_struct (d := d + 1) Try.underlying41 h
  have k1 : Try.prog.cellsOf 3 = 1 := by kernel_rfl
  have k6 : Try.prog.cellsOf 41 = 6 := by kernel_rfl
  rw [k6] at hl
  simp only [List.forall_mem_cons, k1] at hx
  obtain ⟨f0, f1, f2, f3, f4, f5, -⟩ := hx
  obtain ⟨n0, c0, w0⟩ := fits_int Try.underlying3 f0
  obtain ⟨n1, c1, w1⟩ := fits_int Try.underlying3 f1
  obtain ⟨n2, c2, w2⟩ := fits_int Try.underlying3 f2
  obtain ⟨n3, c3, w3⟩ := fits_int Try.underlying3 f3
  obtain ⟨n4, c4, w4⟩ := fits_int Try.underlying3 f4
  obtain ⟨n5, c5, w5⟩ := fits_int Try.underlying3 f5
  exact ⟨⟨n0, n1, n2, n3, n4, n5⟩, six_vals hl c0 c1 c2 c3 c4 c5, w0, w1, w2, w3, w4, w5⟩
/-- a step: a block, and its entry -/
def opC (x : Int × BE) : Array Value := #[.int .i64 x.1, .int .i64 x.2.st, .int .i64 x.2.z, .int .i64 x.2.m, .int .i64 x.2.o, .int .i64 x.2.q, .int .i64 x.2.s]
theorem opC_one (x : Int × BE) : (opC x).all (·.oneCell') = true := by simp [opC, Value.oneCell']
def Op64 (x : Int × BE) : Prop := (Lit.int .i64 x.1).wf = true ∧ E64 x.2
end Go.Proofs.Yteggijkcdlboeaa
