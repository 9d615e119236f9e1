/- Arguments that are geometries, by their cells. -/
import Derived.Test.YtogijlpclceanaaGeo
import Derived.Test.YtogijlpclceanaaFit
import Derived.OpenShut
namespace Go.Proofs.Ytogijlpclceanaa
open Go.RowKit Go.Rv
set_option linter.unusedVariables false
theorem chunk1 {cs : List Value} {i : Nat} {v : Value} (h : (cs.drop i).take 1 = [v]) : cs[i]? = some v := by
  have : ((cs.drop i).take 1)[0]? = some v := by rw [h]; rfl
  rw [List.getElem?_take] at this
  simpa using this
theorem agg6 {v : Value} (h : v.cells.toList.length = 6) : ∃ xs : Array Value, v = .agg xs := by
  cases v
  case agg xs => exact ⟨xs, rfl⟩
  all_goals (exfalso; exact (show (1 : Nat) ≠ 6 by omega) h)
theorem six_vals {L : List Value} {a b c d e f : Value} (hl : L.length = 6) (h0 : (L.drop 0).take 1 = [a]) (h1 : (L.drop 1).take 1 = [b]) (h2 : (L.drop 2).take 1 = [c]) (h3 : (L.drop 3).take 1 = [d]) (h4 : (L.drop 4).take 1 = [e]) (h5 : (L.drop 5).take 1 = [f]) : L = [a, b, c, d, e, f] := by
  match L, hl with
  | [x0, x1, x2, x3, x4, x5], _ =>
    simp at h0 h1 h2 h3 h4 h5
    subst h0 h1 h2 h3 h4 h5
    rfl
set_option maxRecDepth 100000 in
def Num6 (g : Geo.G) : Prop := (Lit.int .i64 g.d).wf = true ∧ (Lit.int .i64 g.z).wf = true ∧ (Lit.int .i64 g.s).wf = true ∧ (Lit.int .i64 g.b).wf = true ∧ (Lit.int .i64 g.p).wf = true ∧ (Lit.int .i64 g.o).wf = true
set_option maxRecDepth 100000 in
theorem geo_of_fits {d : Nat} {w : World} {v : Value} (h : Fits Try.prog w (d + 2) 58 v.cells.toList) : ∃ g : Geo.G, v = .agg (GC g) ∧ Num6 g := by
  obtain ⟨hl, hx⟩ := fits_struct (d := d + 1) Try.underlying58 h
  have k1 : Try.prog.cellsOf 3 = 1 := by kernel_rfl
  have k6 : Try.prog.cellsOf 58 = 6 := by kernel_rfl
  rw [k6] at hl
  obtain ⟨xs, rfl⟩ := agg6 hl
  simp only [List.forall_mem_cons, k1] at hx
  obtain ⟨f0, f1, f2, f3, f4, f5, -⟩ := hx
  obtain ⟨n0, c0, w0⟩ := fits_int Try.underlying3 f0
  obtain ⟨n1, c1, w1⟩ := fits_int Try.underlying3 f1
  obtain ⟨n2, c2, w2⟩ := fits_int Try.underlying3 f2
  obtain ⟨n3, c3, w3⟩ := fits_int Try.underlying3 f3
  obtain ⟨n4, c4, w4⟩ := fits_int Try.underlying3 f4
  obtain ⟨n5, c5, w5⟩ := fits_int Try.underlying3 f5
  have he := six_vals hl c0 c1 c2 c3 c4 c5
  refine ⟨⟨n0, n1, n2, n3, n4, n5⟩, ?_, w0, w1, w2, w3, w4, w5⟩
  have : xs = GC ⟨n0, n1, n2, n3, n4, n5⟩ := Array.toList_inj.1 he
  rw [this]
end Go.Proofs.Ytogijlpclceanaa
