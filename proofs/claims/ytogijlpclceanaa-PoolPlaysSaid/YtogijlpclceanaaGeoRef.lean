/- Proved here: contracts of the document's geometry: half, Parts, Segments, Right. -/
import Derived.Test.YtogijlpclceanaaGeoRight
import Derived.LoopTactic
import Derived.Deep.QuietTactic
import Derived.BigQuiet
namespace Go.Proofs.Ytogijlpclceanaa
open Go.RowKit Go.Rv
set_option linter.unusedVariables false
set_option maxRecDepth 100000 in
set_option maxHeartbeats 400000 in
theorem rhalf_any (n : Int) (w : World) (h : -100000 ≤ n) (h' : n ≤ 100000) :
    Calls Try.prog 63 #[.int .i64 n] w fun e w' => e = .returned (.int .i64 (n / 2)) ∧ w = w' := by
  by_cases h0 : n < 0
  · go_enter Try.func63, Try.ntmps63
    go_wp2
    go_ret
    exact ⟨ret_i64 (by omega), rfl⟩
  · go_enter Try.func63, Try.ntmps63
    go_wp2
    go_ret
    exact ⟨rfl, rfl⟩
set_option maxRecDepth 100000 in
set_option maxHeartbeats 1000000 in
theorem rparts_any (g : Geo.G) (w : World) (h : Geo.Small g) :
    Calls Try.prog 51 #[.agg (GC g)] w fun e w' => e = .returned (.int .i64 (Geo.parts g)) ∧ Below w.heap.size w w' := by
  have hg := heap_alloc_new w (.cells (GC g) 73)
  obtain ⟨c0, c1, c2, c3, c4, c5⟩ := geo_cells hg
  have hB : Below w.heap.size w (w.alloc (.cells (GC g) 73)) := (Below.refl _ _).alloc (Nat.le_refl _) _
  obtain ⟨-, -, -, ⟨hb, hb'⟩, -, -⟩ := h
  have HP : Hid (Geo.parts g = 1 + (g.b + 2 - 1) / 2) := Lib.hid rfl
  clear hg c0 c1 c2 c4 c5
  go_enter Try.func51, Try.ntmps51
  go_wp2
  go_loop [3, 4] (fun n b => ∃ k : Nat, (k : Int) ≤ (g.b + 2 - 1) / 2 ∧ b = .int .i64 (2 * k) ∧ n = .int .i64 (1 + k)) (fun _ b => (g.b + 2 - intOf b).toNat)
  case atStart => exact ⟨0, by omega, rfl, rfl⟩
  case round =>
    obtain ⟨k, hk, rfl, rfl⟩ := hrel
    by_cases hlt : 2 * (k : Int) < g.b
    · go_wp2
      go_round
      case rel => exact ⟨k + 1, by omega, by go_num, by go_num⟩
      case measure => simp [intOf]; omega
    · go_wp2
      go_ret
      exact ⟨ret_i64 (by rw [HP.out]; omega), hB⟩

set_option maxRecDepth 100000 in
set_option maxHeartbeats 2000000 in
theorem rsegs_any (g : Geo.G) (w : World) (h : Geo.Small g) :
    Calls Try.prog 52 #[.agg (GC g)] w fun e w' => e = .returned (.int .i64 (Geo.segs g)) ∧ Below w.heap.size w w' := by
  have hg := heap_alloc_new w (.cells (GC g) 73)
  obtain ⟨c0, c1, c2, c3, c4, c5⟩ := geo_cells hg
  have hB : Below w.heap.size w (w.alloc (.cells (GC g) 73)) := (Below.refl _ _).alloc (Nat.le_refl _) _
  have hu := Geo.u_bd h
  have hdp := Geo.dp_bd h
  have hdu := Geo.du_bd h
  have heu := Geo.eu_bd h
  have hfew := Geo.few_bd h
  have hsg := Geo.segs_bd h
  have HS : Hid (Geo.segs g = min (Geo.fewA g) (Geo.fewB g) / 2 - 1 - g.d * g.p) := Lib.hid rfl
  obtain ⟨⟨h1, h1'⟩, ⟨h2, h2'⟩, ⟨h3, h3'⟩, ⟨h4, h4'⟩, ⟨h5, h5'⟩, ⟨h6, h6'⟩⟩ := h
  have e1 : Geo.fewA g = (g.d - 1) * (g.z - g.p - 2) - (g.d * g.p + 4) + 1 := rfl
  have e2 : Geo.fewB g = g.d * (g.z - g.p - 2) - 2 * (g.d * g.p + 4) + 1 := rfl
  have e3 : Geo.u g = g.z - g.p - 2 := rfl
  rw [e3] at hu hdu heu
  rw [e1, e2] at hfew
  have HS2 : Hid (Geo.segs g = min ((g.d - 1) * (g.z - g.p - 2) - (g.d * g.p + 4) + 1) (g.d * (g.z - g.p - 2) - 2 * (g.d * g.p + 4) + 1) / 2 - 1 - g.d * g.p) := Lib.hid HS.out
  clear e1 e2 e3 HS hg
  by_cases hlt : g.d * (g.z - g.p - 2) - 2 * (g.d * g.p + 4) + 1 < (g.d - 1) * (g.z - g.p - 2) - (g.d * g.p + 4) + 1
  · have HV : Hid (Geo.segs g = (g.d * (g.z - g.p - 2) - 2 * (g.d * g.p + 4) + 1) / 2 - 1 - g.d * g.p) := Lib.hid (by rw [HS2.out]; omega)
    have HH := Lib.hid (fun (W : World) => (rhalf_any (g.d * (g.z - g.p - 2) - 2 * (g.d * g.p + 4) + 1) W (by omega) (by omega)).mono (R' := fun e w' => e = .returned (.int .i64 ((g.d * (g.z - g.p - 2) - 2 * (g.d * g.p + 4) + 1) / 2)) ∧ w' = W) (fun e w' h => ⟨h.1, h.2.symm⟩))
    have q1 := IntWalk.i64_in ((g.d * (g.z - g.p - 2) - 2 * (g.d * g.p + 4) + 1) / 2 - 1) (by omega)
    have q2 := IntWalk.i64_in (g.d * g.p) (by omega)
    have q3 := IntWalk.i64_in ((g.d * (g.z - g.p - 2) - 2 * (g.d * g.p + 4) + 1) / 2 - 1 - g.d * g.p) (by omega)
    have Q1 := Lib.hid q1
    have Q2 := Lib.hid q2
    have Q3 := Lib.hid q3
    clear q1 q2 q3
    go_enter Try.func52, Try.ntmps52
    go_wp2_with fail
    have q1 := Q1.out
    have q2 := Q2.out
    have q3 := Q3.out
    go_quiet ((go_at_call 63; exact Calls.quiet_of_same (HH.out _)))
    go_wp2
    go_ret
    exact ⟨by rw [HV.out]; rfl, below_drewN hB _⟩
  · have HV : Hid (Geo.segs g = ((g.d - 1) * (g.z - g.p - 2) - (g.d * g.p + 4) + 1) / 2 - 1 - g.d * g.p) := Lib.hid (by rw [HS2.out]; omega)
    have HH := Lib.hid (fun (W : World) => (rhalf_any ((g.d - 1) * (g.z - g.p - 2) - (g.d * g.p + 4) + 1) W (by omega) (by omega)).mono (R' := fun e w' => e = .returned (.int .i64 (((g.d - 1) * (g.z - g.p - 2) - (g.d * g.p + 4) + 1) / 2)) ∧ w' = W) (fun e w' h => ⟨h.1, h.2.symm⟩))
    have q1 := IntWalk.i64_in (((g.d - 1) * (g.z - g.p - 2) - (g.d * g.p + 4) + 1) / 2 - 1) (by omega)
    have q2 := IntWalk.i64_in (g.d * g.p) (by omega)
    have q3 := IntWalk.i64_in (((g.d - 1) * (g.z - g.p - 2) - (g.d * g.p + 4) + 1) / 2 - 1 - g.d * g.p) (by omega)
    have Q1 := Lib.hid q1
    have Q2 := Lib.hid q2
    have Q3 := Lib.hid q3
    clear q1 q2 q3
    go_enter Try.func52, Try.ntmps52
    go_wp2_with fail
    have q1 := Q1.out
    have q2 := Q2.out
    have q3 := Q3.out
    go_quiet ((go_at_call 63; exact Calls.quiet_of_same (HH.out _)))
    go_wp2
    go_ret
    exact ⟨by rw [HV.out]; rfl, below_drewN hB _⟩
end Go.Proofs.Ytogijlpclceanaa
