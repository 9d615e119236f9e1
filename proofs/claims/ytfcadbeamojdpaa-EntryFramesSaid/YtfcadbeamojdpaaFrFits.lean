/- Arguments that are frames or sectors, by their cells. -/
import Derived.Test.YtfcadbeamojdpaaEq
import Derived.Test.YtfcadbeamojdpaaFit
import Derived.OpenShut
namespace Go.Rv
open Go.RowKit
set_option linter.unusedVariables false
theorem chunk_one {cs : List Value} {i : Nat} {v : Value} (h : (cs.drop i).take 1 = [v]) : cs[i]? = some v := by
  have : ((cs.drop i).take 1)[0]? = some v := by rw [h]; rfl
  rw [List.getElem?_take] at this
  simpa using this
theorem u8_nat {n : Int} (h : (Lit.int .u8 n).wf = true) : ∃ m : Nat, n = (m : Nat) ∧ m < 256 := by
  obtain ⟨h0, h1⟩ := bounds_u8 h
  exact ⟨n.toNat, by omega, by omega⟩
theorem arr_of_fits {P : Program} {w : World} {d : Nat} {t e : TypeId} {n : Nat} {cs : List Value} (hu : P.underlying t = some (.array n e)) (he : P.underlying e = some (.int .u8)) (hc : P.cellsOf e = 1) (ht : P.cellsOf t = n) (h : Fits P w (d + 2) t cs) :
    ∃ l : List Nat, l.length = n ∧ (∀ c ∈ l, c < 256) ∧ cs = (byteCells l).toList := by
  obtain ⟨hl, hi⟩ := fits_array hu h
  rw [ht] at hl
  obtain ⟨l, hn, hx⟩ := list_of_forall (Q := fun i (x : Nat) => cs[i]? = some (.int .u8 (x : Nat)) ∧ x < 256) n (fun i hin => by
    have h1 := hi i hin
    rw [hc, Nat.mul_one] at h1
    obtain ⟨m, h2, h3⟩ := fits_int he h1
    obtain ⟨x, rfl, hx⟩ := u8_nat h3
    exact ⟨x, chunk_one h2, hx⟩)
  refine ⟨l, hn, fun c hc => ?_, ?_⟩
  · obtain ⟨i, hi⟩ := List.getElem?_of_mem hc
    exact (hx i c hi).2
  · apply List.ext_getElem?
    intro i
    by_cases h : i < n
    · have h1 : l[i]? = some l[i] := List.getElem?_eq_getElem (by omega)
      rw [(hx i _ h1).1]
      have h2 := byteCells_at l i (by omega)
      rw [Array.getElem?_toList, h2, List.getD_eq_getElem?_getD, h1]
      rfl
    · rw [List.getElem?_eq_none (by omega), List.getElem?_eq_none (by rw [Array.length_toList, size_byteCells]; omega)]
theorem agg_of_cells {v : Value} {n : Nat} (h : v.cells.toList.length = n) (h1 : n ≠ 1) : ∃ xs : Array Value, v = .agg xs := by
  cases v
  case agg xs => exact ⟨xs, rfl⟩
  all_goals (exfalso; exact h1 (h.symm.trans rfl))
end Go.Rv
namespace Go.Proofs.Ytfcadbeamojdpaa
open Go.RowKit Go.Rv Frm
theorem sec_of_fits {w : World} {v : Value} (h : Fits Try.prog w 6 31 v.cells.toList) : ∃ l : List Nat, v = .agg (byteCells l) ∧ l.length = 64 ∧ ∀ c ∈ l, c < 256 := by
  obtain ⟨l, hl, hb, hc⟩ := arr_of_fits (d := 4) Try.underlying31 Try.underlying5 (by kernel_rfl) (by kernel_rfl) h
  obtain ⟨xs, rfl⟩ := agg_of_cells (v := v) (n := 64) (by rw [hc, Array.length_toList, size_byteCells, hl]) (by omega)
  have : xs = byteCells l := Array.toList_inj.1 hc
  exact ⟨l, by rw [this], hl, hb⟩
theorem six_parts (L : List Value) (a b c d e : Value) (m : List Value) (hl : L.length = 49) (h0 : (L.drop 0).take 1 = [a]) (h1 : (L.drop 1).take 1 = [b]) (h2 : (L.drop 2).take 1 = [c]) (h3 : (L.drop 3).take 1 = [d]) (h4 : (L.drop 4).take 1 = [e]) (h5 : (L.drop 5).take 44 = m) : L = a :: b :: c :: d :: e :: m := by
  match L, hl with
  | x0 :: x1 :: x2 :: x3 :: x4 :: r, hl =>
    simp at h0 h1 h2 h3 h4 h5 hl
    subst h0 h1 h2 h3 h4
    rw [List.take_of_length_le (by omega)] at h5
    rw [h5]
theorem frame_of_fits {w : World} {v : Value} (h : Fits Try.prog w 6 24 v.cells.toList) : ∃ f : Fr, v = .agg (FC f) ∧ Body f.body ∧ Num64 f := by
  obtain ⟨hl, hx⟩ := fits_struct (d := 5) Try.underlying24 h
  have k1 : Try.prog.cellsOf 3 = 1 := by kernel_rfl
  have k44 : Try.prog.cellsOf 22 = 44 := by kernel_rfl
  have k49 : Try.prog.cellsOf 24 = 49 := by kernel_rfl
  rw [k49] at hl
  obtain ⟨xs, rfl⟩ := agg_of_cells hl (by omega)
  simp only [List.forall_mem_cons, k1, k44] at hx
  obtain ⟨f0, f1, f2, f3, f4, f5, -⟩ := hx
  obtain ⟨n0, c0, w0⟩ := fits_int Try.underlying3 f0
  obtain ⟨n1, c1, w1⟩ := fits_int Try.underlying3 f1
  obtain ⟨n2, c2, w2⟩ := fits_int Try.underlying3 f2
  obtain ⟨n3, c3, w3⟩ := fits_int Try.underlying3 f3
  obtain ⟨n4, c4, w4⟩ := fits_int Try.underlying3 f4
  obtain ⟨l, hn, hb, c5⟩ := arr_of_fits (d := 3) Try.underlying22 Try.underlying5 (by kernel_rfl) k44 f5
  have he := six_parts _ _ _ _ _ _ _ hl c0 c1 c2 c3 c4 c5
  refine ⟨⟨n0, n1, n2, n3, n4, l⟩, ?_, ⟨hn, hb⟩, w0, w1, w2, w3, w4⟩
  have : xs = FC ⟨n0, n1, n2, n3, n4, l⟩ := by
    apply Array.toList_inj.1
    rw [show (FC ⟨n0, n1, n2, n3, n4, l⟩).toList = .int .i64 n0 :: .int .i64 n1 :: .int .i64 n2 :: .int .i64 n3 :: .int .i64 n4 :: (byteCells l).toList from by simp [FC]]
    exact he
  rw [this]
end Go.Proofs.Ytfcadbeamojdpaa
