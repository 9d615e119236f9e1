/- Proved here: the document's example of a map. -/
import Derived.Test.YteggijkcdlboeaaBmNew
namespace Go.Proofs.Yteggijkcdlboeaa
open Go.RowKit Go.Rv
set_option linter.unusedVariables false
def ga : Geo.G := ⟨3, 8, 8, 4, 0, 4⟩
def ea : BE := ⟨1, 0, 8, 0, 1, 0⟩
theorem ga_right : Geo.right ga = true := by decide
theorem ea_set : setErr ga (List.replicate 4 BE.zero) 2 ea = 0 := by decide +kernel
theorem ea_es : setEs ga (List.replicate 4 BE.zero) 2 ea = [BE.zero, BE.zero, ea, BE.zero] := by decide +kernel
theorem ea_live : (liveL 24 [BE.zero, BE.zero, ea, BE.zero])[0]? = some 1 ∧ (liveL 24 [BE.zero, BE.zero, ea, BE.zero])[8]? = some 1 ∧ (liveL 24 [BE.zero, BE.zero, ea, BE.zero])[1]? = some 0 := by decide +kernel
set_option maxRecDepth 100000 in
set_option maxHeartbeats 2000000 in
theorem bm_anchor (w : World) : Calls Try.prog 24 #[] w fun e w' => e = .returned (.bool true) ∧ Below w.heap.size w w' := by
  have HN := Lib.hid (fun W => bnew_any ga ga_right W)
  go_enter Try.func24, Try.ntmps24
  go_wp2_with fail
  refine (HN.out _).mono ?_
  rintro e w1 ⟨p, le, ll, rfl, hb1, g1, g2, g3, hB1⟩
  have hM := mapOk_new ga ga_right
  have hS := bset_any w1 p le ll _ _ ga _ ga_right hM hb1 2 ea ⟨rfl, rfl, rfl, rfl, rfl, rfl⟩
  rw [show ga.b.toNat = 4 from rfl, ea_set, ea_es] at hS
  have HS := Lib.hid hS
  clear hb1 hM hS HN
  go_wp2_with fail
  refine HS.out.mono ?_
  rintro e w2 ⟨rfl, hb2, hO2⟩
  rw [show nz ga = 24 from rfl] at hb2
  have L0 := Lib.hid (blive_in w2 p le ll _ _ ga _ _ hb2 0 1 ea_live.1 (by rw [liveL_length]; omega))
  have L8 := Lib.hid (blive_in w2 p le ll _ _ ga _ _ hb2 8 1 ea_live.2.1 (by rw [liveL_length]; omega))
  have L1 := Lib.hid (blive_in w2 p le ll _ _ ga _ _ hb2 1 0 ea_live.2.2 (by rw [liveL_length]; omega))
  have hBB := hB1.trans (hO2.below (B := w.heap.size) (by simp; omega) hB1.size)
  clear hb2 hO2 HS hB1
  go_wp2_with fail
  refine L0.out.mono ?_
  rintro e w3 ⟨rfl, rfl⟩
  go_wp2_with fail
  refine L8.out.mono ?_
  rintro e w3 ⟨rfl, rfl⟩
  go_wp2_with fail
  refine L1.out.mono ?_
  rintro e w3 ⟨rfl, rfl⟩
  go_wp2
  go_ret
  exact ⟨rfl, hBB⟩
end Go.Proofs.Yteggijkcdlboeaa
