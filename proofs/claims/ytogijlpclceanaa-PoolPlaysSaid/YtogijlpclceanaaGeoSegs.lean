/- Proved here: the contract of the geometry's Segments. -/
import Derived.Test.YtogijlpclceanaaGeo
import Derived.IntWalk
namespace Go.Proofs.Ytogijlpclceanaa
open Go.RowKit Go.Rv
set_option linter.unusedVariables false
theorem ret_i64 {a b : Int} (h : a = b) : Ending.returned (.int .i64 a) = .returned (.int .i64 b) := by rw [h]
set_option maxRecDepth 100000 in
set_option maxHeartbeats 2000000 in
theorem gsegs_any (g : Geo.G) (w : World) (h : Geo.Small g) :
    Calls Try.prog 47 #[.agg (GC g)] w fun e w' => e = .returned (.int .i64 (Geo.segs g)) ∧ Below w.heap.size w w' := by
  have hg := heap_alloc_new w (.cells (GC g) 58)
  obtain ⟨c0, c1, c2, c3, c4, c5⟩ := geo_cells hg
  have hB : Below w.heap.size w (w.alloc (.cells (GC g) 58)) := (Below.refl _ _).alloc (Nat.le_refl _) _
  have HRES := Lib.hid (fun W => greserve_any g W h)
  have hu := Geo.u_bd h
  have hdp := Geo.dp_bd h
  have hdu := Geo.du_bd h
  have heu := Geo.eu_bd h
  have hfew := Geo.few_bd h
  have hsg := Geo.segs_bd h
  obtain ⟨⟨h1, h1'⟩, ⟨h2, h2'⟩, ⟨h3, h3'⟩, ⟨h4, h4'⟩, ⟨h5, h5'⟩, ⟨h6, h6'⟩⟩ := h
  have HS : Hid (Geo.segs g = min (Geo.fewA g) (Geo.fewB g) / 2 - 1 - g.d * g.p) := Lib.hid rfl
  have z0 : (w.alloc (.cells (GC g) 58)).heap.size = w.heap.size + 1 := by simp
  go_enter Try.func47, Try.ntmps47
  go_wp2_with fail
  have q1 : IntKind.i64.wrap (g.z - g.p) = g.z - g.p := IntWalk.i64_in _ (by omega)
  have q2 : IntKind.i64.wrap (g.z - g.p - 2) = g.z - g.p - 2 := IntWalk.i64_in _ (by omega)
  obtain ⟨W0, hW0⟩ : ∃ W0, w.alloc (.cells (GC g) 58) = W0 := ⟨_, rfl⟩
  rw [hW0] at c0 c1 c2 c3 c4 c5 hB z0 ⊢
  have HW0 := Lib.hid hW0
  clear hW0
  go_region_held3 (fun W => W.cell? ⟨w.heap.size, 0, none⟩ = some (.int .i64 g.d) ∧ W.cell? ⟨w.heap.size, 1, none⟩ = some (.int .i64 g.z) ∧ W.cell? ⟨w.heap.size, 2, none⟩ = some (.int .i64 g.s) ∧ W.cell? ⟨w.heap.size, 3, none⟩ = some (.int .i64 g.b) ∧ W.cell? ⟨w.heap.size, 4, none⟩ = some (.int .i64 g.p) ∧ W.cell? ⟨w.heap.size, 5, none⟩ = some (.int .i64 g.o)) (first | (refine ⟨?_, ?_, ?_, ?_, ?_, ?_⟩ <;> assumption) | go_keep) (first | (go_at_call 62; refine (HRES.out _).mono ?_; rintro e w1 ⟨rfl, hB1⟩; have k0 := (hB1.cell (p := ⟨w.heap.size, 0, none⟩) (by simp; omega)).trans c0; have k1 := (hB1.cell (p := ⟨w.heap.size, 1, none⟩) (by simp; omega)).trans c1; have k2 := (hB1.cell (p := ⟨w.heap.size, 2, none⟩) (by simp; omega)).trans c2; have k3 := (hB1.cell (p := ⟨w.heap.size, 3, none⟩) (by simp; omega)).trans c3; have k4 := (hB1.cell (p := ⟨w.heap.size, 4, none⟩) (by simp; omega)).trans c4; have k5 := (hB1.cell (p := ⟨w.heap.size, 5, none⟩) (by simp; omega)).trans c5; have hC1 : Below W0.heap.size W0 w1 := (Below.refl W0.heap.size W0).drew.trans hB1))
  clear q1 q2 HRES hB1 c0 c1 c2 c3 c4 c5
  obtain ⟨uu, huu⟩ : ∃ uu, g.z - g.p - 2 = uu := ⟨_, rfl⟩
  obtain ⟨rr, hrr⟩ : ∃ rr, Geo.reserve g = rr := ⟨_, rfl⟩
  have e1 : Geo.fewA g = (g.d - 1) * uu - rr + 1 := by rw [← huu, ← hrr]; rfl
  have e2 : Geo.fewB g = g.d * uu - 2 * rr + 1 := by rw [← huu, ← hrr]; rfl
  have e3 : Geo.u g = uu := huu
  have e4 : rr = g.d * g.p + 4 := hrr.symm
  rw [e3] at hu hdu heu
  rw [e1, e2] at hfew
  have HS2 : Hid (Geo.segs g = min ((g.d - 1) * uu - rr + 1) (g.d * uu - 2 * rr + 1) / 2 - 1 - g.d * g.p) := Lib.hid (by rw [HS.out, e1, e2])
  have hr1 : 4 ≤ rr := by omega
  have hr2 : rr ≤ 36 := by omega
  rw [hrr, huu]
  clear huu hrr e1 e2 e3 e4 HS HW0
  go_wp2
  all_goals
    go_ret
    exact ⟨ret_i64 (by rw [HS2.out]; omega), hB.trans (hC1.mono hB.size)⟩
end Go.Proofs.Ytogijlpclceanaa
