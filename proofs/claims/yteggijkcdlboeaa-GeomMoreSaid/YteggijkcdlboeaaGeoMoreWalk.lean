/- Proved here: the walk of the law on more zones and fewer blocks. -/
import Derived.Test.YteggijkcdlboeaaGeoAnchor
namespace Go.Proofs.Yteggijkcdlboeaa
open Go.RowKit Go.Rv
set_option linter.unusedVariables false
theorem free_row {w : World} {b : Nat} {C : Array Value} {t : TypeId} (h : w.heap[b]? = some (.cells C t (0, 0))) (o : Nat) : w.frozen? ⟨b, o, none⟩ = false := by simp [World.frozen?, h]
set_option maxRecDepth 100000 in
set_option maxHeartbeats 4000000 in
theorem geo_more_core (g : Geo.G) (z b : Int) (r r2 : Bool) (w : World)
    (HR' : ∀ W, Calls Try.prog 11 #[.agg (GC g)] W fun e w' => e = .returned (.bool r) ∧ Below W.heap.size W w')
    (HR2' : r2 = true → ∀ W, Calls Try.prog 11 #[.agg (GC { g with z := z, b := b })] W fun e w' => e = .returned (.bool true) ∧ Below W.heap.size W w')
    (hr : r = false ∨ (r = true ∧ decide (z < g.z) = true) ∨ (r = true ∧ decide (z < g.z) = false ∧ decide (64 < z) = true) ∨ (r = true ∧ decide (z < g.z) = false ∧ decide (64 < z) = false ∧ decide (b < 1) = true) ∨ (r = true ∧ decide (z < g.z) = false ∧ decide (64 < z) = false ∧ decide (b < 1) = false ∧ decide (g.b < b) = true) ∨ (r = true ∧ decide (z < g.z) = false ∧ decide (64 < z) = false ∧ decide (b < 1) = false ∧ decide (g.b < b) = false ∧ r2 = true)) :
    Calls Try.prog 3 #[.agg (GC g), .int .i64 z, .int .i64 b] w fun e w' => e = .returned (.bool true) ∧ Below w.heap.size w w' := by
  have HR := Lib.hid HR'
  have HR2 := Lib.hid HR2'
  have HC := Lib.hid hr
  have HA := Lib.hid (fun W => geo_anchor W)
  have hB0 := (Below.refl w.heap.size w).alloc (Nat.le_refl _) (.cells (GC g) 23)
  have hG0 := heap_alloc_new w (.cells (GC g) 23)
  clear HR' HR2' hr
  go_enter Try.func3, Try.ntmps3
  go_wp2_with fail
  refine (HA.out _).mono ?_
  rintro e w1 ⟨rfl, hB1⟩
  have hG1 := Lib.hid ((hB1.block w.heap.size (by simp)).trans hG0)
  have hBB1 := hB0.trans (hB1.mono hB0.size)
  have z1 := hB1.size
  rw [World.size_alloc] at z1
  clear hG0 hB1 hB0
  obtain ⟨c0, c1, c2, c3, c4, c5⟩ := geo_cells hG1.out
  go_wp2_with fail
  refine (HR.out _).mono ?_
  rintro e w2 ⟨rfl, hB2⟩
  have hG2 := Lib.hid ((hB2.block w.heap.size (by omega)).trans hG1.out)
  have hBB2 := hBB1.trans (hB2.mono hBB1.size)
  have z2 := hB2.size
  clear c0 c1 c2 c3 c4 c5
  obtain ⟨c0, c1, c2, c3, c4, c5⟩ := geo_cells hG2.out
  rcases HC.out with rfl | ⟨rfl, t1⟩ | ⟨rfl, t1, t2⟩ | ⟨rfl, t1, t2, t3⟩ | ⟨rfl, t1, t2, t3, t4⟩ | ⟨rfl, t1, t2, t3, t4, h5⟩
  · clear HC
    go_wp2
    go_ret
    exact ⟨rfl, hBB2⟩
  · clear HC
    go_wp2
    go_ret
    exact ⟨rfl, hBB2⟩
  · clear HC
    go_wp2
    go_ret
    exact ⟨rfl, hBB2⟩
  · clear HC
    go_wp2
    go_ret
    exact ⟨rfl, hBB2⟩
  · clear HC
    go_wp2
    go_ret
    exact ⟨rfl, hBB2⟩
  · clear HC
    have HR3 := Lib.hid (HR2.out h5)
    have f1 := free_row hG2.out 1
    have f3 := free_row hG2.out 3
    clear h5 HR2
    go_wp2_with fail
    refine (HR3.out _).mono ?_
    rintro e w3 ⟨rfl, hB3⟩
    have hBs := (hBB2.setCell (p := ⟨w.heap.size, 1, none⟩) (Nat.le_refl _) (.int .i64 z)).setCell (p := ⟨w.heap.size, 3, none⟩) (Nat.le_refl _) (.int .i64 b)
    go_wp2
    go_ret
    exact ⟨rfl, hBs.trans (hB3.mono hBs.size)⟩
theorem geo_more_walk (g : Geo.G) (z b : Int) (w : World) :
    Calls Try.prog 3 #[.agg (GC g), .int .i64 z, .int .i64 b] w fun e w' => e = .returned (.bool true) ∧ Below w.heap.size w w' := by
  refine geo_more_core g z b (Geo.right g) (Geo.right { g with z := z, b := b }) w (fun W => gright_any g W) (fun h W => by have := gright_any { g with z := z, b := b } W; rwa [h] at this) ?_
  cases hr : Geo.right g
  · exact .inl rfl
  · by_cases h1 : z < g.z
    · exact .inr (.inl ⟨rfl, decide_eq_true h1⟩)
    · by_cases h2 : 64 < z
      · exact .inr (.inr (.inl ⟨rfl, decide_eq_false h1, decide_eq_true h2⟩))
      · by_cases h3 : b < 1
        · exact .inr (.inr (.inr (.inl ⟨rfl, decide_eq_false h1, decide_eq_false h2, decide_eq_true h3⟩)))
        · by_cases h4 : g.b < b
          · exact .inr (.inr (.inr (.inr (.inl ⟨rfl, decide_eq_false h1, decide_eq_false h2, decide_eq_false h3, decide_eq_true h4⟩))))
          · exact .inr (.inr (.inr (.inr (.inr ⟨rfl, decide_eq_false h1, decide_eq_false h2, decide_eq_false h3, decide_eq_false h4, Geo.more hr z b (by omega) (by omega) (by omega) (by omega)⟩))))
end Go.Proofs.Yteggijkcdlboeaa
