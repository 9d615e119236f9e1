/- Proved here: contracts of the geometry's small numbers: within, small, Parts, Reserve, All. -/
import Derived.Test.YtogijlpclceanaaKit
import Derived.Test.YtogijlpclceanaaKit2
import Derived.Test.YtogijlpclceanaaGeoMath
import Derived.Test.YtogijlpclceanaaProg
import Derived.Below
import Derived.Deep.RegionHeld3
namespace Go.Proofs.Ytogijlpclceanaa
open Go.RowKit Go.Rv
set_option linter.unusedVariables false
/-- a geometry's cells -/
def GC (g : Geo.G) : Array Value := #[.int .i64 g.d, .int .i64 g.z, .int .i64 g.s, .int .i64 g.b, .int .i64 g.p, .int .i64 g.o]
theorem GC_one (g : Geo.G) : (GC g).all (·.oneCell') = true := by simp [GC, Value.oneCell']
theorem GC_size (g : Geo.G) : (GC g).size = 6 := rfl
theorem Try.infoGeom : (Try.prog.info? 58).map (·.size) = some 6 := by kernel_rfl
theorem geo_cells {w : World} {b : Nat} {g : Geo.G} {t : TypeId} (h : w.heap[b]? = some (.cells (GC g) t (0, 0))) : w.cell? ⟨b, 0, none⟩ = some (.int .i64 g.d) ∧ w.cell? ⟨b, 1, none⟩ = some (.int .i64 g.z) ∧ w.cell? ⟨b, 2, none⟩ = some (.int .i64 g.s) ∧ w.cell? ⟨b, 3, none⟩ = some (.int .i64 g.b) ∧ w.cell? ⟨b, 4, none⟩ = some (.int .i64 g.p) ∧ w.cell? ⟨b, 5, none⟩ = some (.int .i64 g.o) :=
  ⟨(cell_of_row _ _ _ _ _ _ h).trans rfl, (cell_of_row _ _ _ _ _ _ h).trans rfl, (cell_of_row _ _ _ _ _ _ h).trans rfl, (cell_of_row _ _ _ _ _ _ h).trans rfl, (cell_of_row _ _ _ _ _ _ h).trans rfl, (cell_of_row _ _ _ _ _ _ h).trans rfl⟩
set_option maxRecDepth 100000 in
set_option maxHeartbeats 400000 in
theorem gwithin_any (n a b : Int) (w : World) :
    Calls Try.prog 61 #[.int .i64 n, .int .i64 a, .int .i64 b] w fun e w' => e = .returned (.bool (Geo.inB n a b)) ∧ w = w' := by
  unfold Geo.inB
  cases h1 : decide (a ≤ n)
  · go_enter Try.func61, Try.ntmps61
    go_wp2
    go_ret
    exact ⟨rfl, rfl⟩
  · go_enter Try.func61, Try.ntmps61
    go_wp2
    go_ret
    exact ⟨rfl, rfl⟩
set_option maxRecDepth 100000 in
set_option maxHeartbeats 2000000 in
theorem gsmall_any (g : Geo.G) (w : World) :
    Calls Try.prog 45 #[.agg (GC g)] w fun e w' => e = .returned (.bool (Geo.small g)) ∧ Below w.heap.size w w' := by
  have hg := heap_alloc_new w (.cells (GC g) 58)
  obtain ⟨c0, c1, c2, c3, c4, c5⟩ := geo_cells hg
  have hB : Below w.heap.size w (w.alloc (.cells (GC g) 58)) := (Below.refl _ _).alloc (Nat.le_refl _) _
  have HR := Lib.hid (show Geo.small g = _ from rfl)
  unfold Geo.small at HR
  have H0 := Lib.hid (fun W => gwithin_any g.d 3 8 W)
  have H1 := Lib.hid (fun W => gwithin_any g.z 1 64 W)
  have H2 := Lib.hid (fun W => gwithin_any g.s 4 64 W)
  have H3 := Lib.hid (fun W => gwithin_any g.b 1 256 W)
  have H4 := Lib.hid (fun W => gwithin_any g.p 0 4 W)
  have H5 := Lib.hid (fun W => gwithin_any g.o 4 64 W)
  have HRR : Hid (Geo.small g = (Geo.inB g.d 3 8 && Geo.inB g.z 1 64 && Geo.inB g.s 4 64 && Geo.inB g.b 1 256 && Geo.inB g.p 0 4 && Geo.inB g.o 4 64)) := Lib.hid rfl
  clear HR
  generalize Geo.inB g.d 3 8 = b0 at *
  generalize Geo.inB g.z 1 64 = b1 at *
  generalize Geo.inB g.s 4 64 = b2 at *
  generalize Geo.inB g.b 1 256 = b3 at *
  generalize Geo.inB g.p 0 4 = b4 at *
  generalize Geo.inB g.o 4 64 = b5 at *
  generalize GC g = C at *
  clear hg
  go_enter Try.func45, Try.ntmps45
  go_wp2_with fail
  refine (H0.out _).mono ?_
  rintro e w' ⟨rfl, rfl⟩
  cases b0
  case false =>
    go_wp2
    go_ret
    exact ⟨by rw [HRR.out]; rfl, hB⟩
  go_wp2_with fail
  refine (H1.out _).mono ?_
  rintro e w' ⟨rfl, rfl⟩
  cases b1
  case false =>
    go_wp2
    go_ret
    exact ⟨by rw [HRR.out]; rfl, hB⟩
  go_wp2_with fail
  refine (H2.out _).mono ?_
  rintro e w' ⟨rfl, rfl⟩
  cases b2
  case false =>
    go_wp2
    go_ret
    exact ⟨by rw [HRR.out]; rfl, hB⟩
  go_wp2_with fail
  refine (H3.out _).mono ?_
  rintro e w' ⟨rfl, rfl⟩
  cases b3
  case false =>
    go_wp2
    go_ret
    exact ⟨by rw [HRR.out]; rfl, hB⟩
  go_wp2_with fail
  refine (H4.out _).mono ?_
  rintro e w' ⟨rfl, rfl⟩
  cases b4
  case false =>
    go_wp2
    go_ret
    exact ⟨by rw [HRR.out]; rfl, hB⟩
  go_wp2_with fail
  refine (H5.out _).mono ?_
  rintro e w' ⟨rfl, rfl⟩
  go_wp2
  go_ret
  exact ⟨by rw [HRR.out]; rfl, hB⟩
set_option maxRecDepth 100000 in
set_option maxHeartbeats 1000000 in
theorem gparts_any (g : Geo.G) (w : World) (h : Geo.Small g) :
    Calls Try.prog 46 #[.agg (GC g)] w fun e w' => e = .returned (.int .i64 (Geo.parts g)) ∧ Below w.heap.size w w' := by
  have hg := heap_alloc_new w (.cells (GC g) 58)
  obtain ⟨c0, c1, c2, c3, c4, c5⟩ := geo_cells hg
  have hB : Below w.heap.size w (w.alloc (.cells (GC g) 58)) := (Below.refl _ _).alloc (Nat.le_refl _) _
  obtain ⟨-, -, -, hb, -, -⟩ := h
  have HP : Hid (Geo.parts g = 1 + (g.b + 2 - 1) / 2) := Lib.hid rfl
  generalize GC g = C at *
  clear hg
  go_enter Try.func46, Try.ntmps46
  go_wp2
  go_ret
  exact ⟨rfl, hB⟩
set_option maxRecDepth 100000 in
set_option maxHeartbeats 1000000 in
theorem greserve_any (g : Geo.G) (w : World) (h : Geo.Small g) :
    Calls Try.prog 62 #[.agg (GC g)] w fun e w' => e = .returned (.int .i64 (Geo.reserve g)) ∧ Below w.heap.size w w' := by
  have hg := heap_alloc_new w (.cells (GC g) 58)
  obtain ⟨c0, c1, c2, c3, c4, c5⟩ := geo_cells hg
  have hB : Below w.heap.size w (w.alloc (.cells (GC g) 58)) := (Below.refl _ _).alloc (Nat.le_refl _) _
  have hd := Geo.dp_bd h
  generalize GC g = C at *
  clear hg
  go_enter Try.func62, Try.ntmps62
  go_wp2
  go_ret
  exact ⟨rfl, hB⟩
set_option maxRecDepth 100000 in
set_option maxHeartbeats 1000000 in
theorem gall_any (g : Geo.G) (w : World) (h : Geo.Small g) :
    Calls Try.prog 48 #[.agg (GC g)] w fun e w' => e = .returned (.int .i64 (g.d * g.z)) ∧ Below w.heap.size w w' := by
  have hg := heap_alloc_new w (.cells (GC g) 58)
  obtain ⟨c0, c1, c2, c3, c4, c5⟩ := geo_cells hg
  have hB : Below w.heap.size w (w.alloc (.cells (GC g) 58)) := (Below.refl _ _).alloc (Nat.le_refl _) _
  have hd := Geo.dz_bd h
  generalize GC g = C at *
  clear hg
  go_enter Try.func48, Try.ntmps48
  go_wp2
  go_ret
  exact ⟨rfl, hB⟩
end Go.Proofs.Ytogijlpclceanaa
