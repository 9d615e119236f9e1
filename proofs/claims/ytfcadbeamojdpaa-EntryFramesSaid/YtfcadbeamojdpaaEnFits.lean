/- Arguments that are entries, by their cells. -/
import Derived.Test.YtfcadbeamojdpaaEn
import Derived.Test.YtfcadbeamojdpaaFrFits
namespace Go.Proofs.Ytfcadbeamojdpaa
open Go.RowKit Go.Rv Frm
set_option linter.unusedVariables false
theorem seven_parts (L : List Value) (a b c d e f : Value) (m : List Value) (hl : L.length = 38) (h0 : (L.drop 0).take 1 = [a]) (h1 : (L.drop 1).take 1 = [b]) (h2 : (L.drop 2).take 1 = [c]) (h3 : (L.drop 3).take 1 = [d]) (h4 : (L.drop 4).take 1 = [e]) (h5 : (L.drop 5).take 1 = [f]) (h6 : (L.drop 6).take 32 = m) : L = a :: b :: c :: d :: e :: f :: m := by
  match L, hl with
  | x0 :: x1 :: x2 :: x3 :: x4 :: x5 :: r, hl =>
    simp at h0 h1 h2 h3 h4 h5 h6 hl
    subst h0 h1 h2 h3 h4 h5
    rw [List.take_of_length_le (by omega)] at h6
    rw [h6]
theorem ent_of_fits {w : World} {v : Value} (h : Fits Try.prog w 6 55 v.cells.toList) : ∃ f : En.E, v = .agg (EC f) ∧ EBody f ∧ Num38 f := by
  obtain ⟨hl, hx⟩ := fits_struct (d := 5) Try.underlying55 h
  have k1 : Try.prog.cellsOf 3 = 1 := by kernel_rfl
  have k32 : Try.prog.cellsOf 53 = 32 := by kernel_rfl
  have k38 : Try.prog.cellsOf 55 = 38 := by kernel_rfl
  rw [k38] at hl
  obtain ⟨xs, rfl⟩ := agg_of_cells hl (by omega)
  simp only [List.forall_mem_cons, k1, k32] at hx
  obtain ⟨f0, f1, f2, f3, f4, f5, f6, -⟩ := hx
  obtain ⟨n0, c0, w0⟩ := fits_int Try.underlying3 f0
  obtain ⟨n1, c1, w1⟩ := fits_int Try.underlying3 f1
  obtain ⟨n2, c2, w2⟩ := fits_int Try.underlying3 f2
  obtain ⟨n3, c3, w3⟩ := fits_int Try.underlying3 f3
  obtain ⟨n4, c4, w4⟩ := fits_int Try.underlying3 f4
  obtain ⟨n5, c5, w5⟩ := fits_int Try.underlying3 f5
  obtain ⟨l, hn, hb, c6⟩ := arr_of_fits (d := 3) Try.underlying53 Try.underlying5 (by kernel_rfl) k32 f6
  have he := seven_parts _ _ _ _ _ _ _ _ hl c0 c1 c2 c3 c4 c5 c6
  refine ⟨⟨n0, n1, n2, n3, n4, n5, l⟩, ?_, ⟨hn, hb⟩, w0, w1, w2, w3, w4, w5⟩
  have : xs = EC ⟨n0, n1, n2, n3, n4, n5, l⟩ := by
    apply Array.toList_inj.1
    rw [show (EC ⟨n0, n1, n2, n3, n4, n5, l⟩).toList = .int .i64 n0 :: .int .i64 n1 :: .int .i64 n2 :: .int .i64 n3 :: .int .i64 n4 :: .int .i64 n5 :: (byteCells l).toList from by simp [EC]]
    exact he
  rw [this]
end Go.Proofs.Ytfcadbeamojdpaa
