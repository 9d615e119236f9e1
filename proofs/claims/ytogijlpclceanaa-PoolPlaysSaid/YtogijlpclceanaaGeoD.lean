/- Proved here: the contract of the geometry's Domain. -/
import Derived.Test.YtogijlpclceanaaGeoRight
import Derived.Test.YtogijlpclceanaaAsk
namespace Go.Proofs.Ytogijlpclceanaa
open Go.RowKit Go.Rv
set_option linter.unusedVariables false
/-- a zone's domain -/
def domOf (g : Geo.G) (zone : Int) : Int := if 0 ≤ zone ∧ zone < g.d * g.z then zone / g.z else -1
theorem gsize {g : Geo.G} : (Try.prog.info? 58).map (·.size) = some (GC g).size := by rw [GC_size]; exact Try.infoGeom
set_option maxRecDepth 100000 in
set_option maxHeartbeats 1000000 in
theorem gdomain_any (g : Geo.G) (zone : Int) (w : World) (h : Geo.Small g) :
    Calls Try.prog 31 #[.agg (GC g), .int .i64 zone] w fun e w' => e = .returned (.int .i64 (domOf g zone)) ∧ Below w.heap.size w w' := by
  have HA := Lib.hid (fun W => gall_any g W h)
  have hg := heap_alloc_new w (.cells (GC g) 58)
  have hB : Below w.heap.size w (w.alloc (.cells (GC g) 58)) := (Below.refl _ _).alloc (Nat.le_refl _) _
  have hcs := fun (W : World) (hh : W.heap[w.heap.size]? = some (.cells (GC g) 58 (0, 0))) => geo_cells hh
  have HCS := Lib.hid hcs
  have HS := Lib.hid (gsize (g := g))
  have hzl := h.2.1.1
  clear hcs
  by_cases h1 : zone < 0
  · have t1 : decide (zone < 0) = true := decide_eq_true h1
    have HR : Hid (domOf g zone = -1) := Lib.hid (if_neg (by omega))
    rw [HR.out]
    generalize GC g = C at *
    clear hg h HR
    go_enter Try.func31, Try.ntmps31
    go_wp2
    go_ret
    exact ⟨rfl, hB⟩
  · have t1 : decide (zone < 0) = false := decide_eq_false h1
    by_cases h2 : zone < g.d * g.z
    · have t2 : decide (g.d * g.z ≤ zone) = false := decide_eq_false (by omega)
      have HR : Hid (domOf g zone = zone / g.z) := Lib.hid (if_pos ⟨by omega, h2⟩)
      rw [HR.out]
      have hz0 : 0 ≤ zone := by omega
      have hz1 : zone ≤ 512 := by have := (Geo.dz_bd h).2; omega
      have hz2 := h.2.1.2
      generalize GC g = C at *
      clear h h1 HR h2
      go_enter Try.func31, Try.ntmps31
      go_wp2_with (refine wpList_row_on (by rfl) 58 _ rfl w.heap.size rfl 58 _ _ _ hg Try.underlying58 rfl HS.out ?_)
      refine (HA.out _).mono ?_
      rintro e w1 ⟨rfl, hB1⟩
      have hg1 := (hB1.block w.heap.size (by simp)).trans hg
      have hB2 := hB.trans (hB1.mono hB.size)
      obtain ⟨c0, c1, c2, c3, c4, c5⟩ := HCS.out _ hg1
      clear hg hg1 hB hB1
      go_wp2
      go_ret
      exact ⟨rfl, hB2⟩
    · have t2 : decide (g.d * g.z ≤ zone) = true := decide_eq_true (by omega)
      have HR : Hid (domOf g zone = -1) := Lib.hid (if_neg (by omega))
      rw [HR.out]
      generalize GC g = C at *
      clear h h1 HR h2
      go_enter Try.func31, Try.ntmps31
      go_wp2_with (refine wpList_row_on (by rfl) 58 _ rfl w.heap.size rfl 58 _ _ _ hg Try.underlying58 rfl HS.out ?_)
      refine (HA.out _).mono ?_
      rintro e w1 ⟨rfl, hB1⟩
      have hB2 := hB.trans (hB1.mono hB.size)
      clear hg hB hB1
      go_wp2
      go_ret
      exact ⟨rfl, hB2⟩
end Go.Proofs.Ytogijlpclceanaa
