/- Proved here: contracts of the document's holds and Right of an entry. -/
import Derived.Test.YteggijkcdlboeaaBmRightAny
import Derived.Test.YteggijkcdlboeaaGeoRef
namespace Go.Proofs.Yteggijkcdlboeaa
open Go.RowKit Go.Rv
set_option linter.unusedVariables false
theorem rgsize {g : Geo.G} : (Try.prog.info? 26).map (·.size) = some (GC g).size := by rw [GC_size]; kernel_rfl
theorem resize (e : BE) : (Try.prog.info? 53).map (·.size) = some (BEC e).size := by rw [BEC_size]; kernel_rfl
set_option maxRecDepth 100000 in
set_option maxHeartbeats 1000000 in
theorem rholds_any (g : Geo.G) (zone off : Int) (w : World) (h : Geo.Small g) (hr : Geo.right g = true) :
    Calls Try.prog 42 #[.agg (GC g), .int .i64 zone, .int .i64 off] w fun e w' => e = .returned (.bool (holdsG g zone off)) ∧ Below w.heap.size w w' := by
  have hg := heap_alloc_new w (.cells (GC g) 26)
  obtain ⟨c0, c1, c2, c3, c4, c5⟩ := geo_cells hg
  have hB : Below w.heap.size w (w.alloc (.cells (GC g) 26)) := (Below.refl _ _).alloc (Nat.le_refl _) _
  have hd := Geo.dz_bd h
  have HR : Hid (holdsG g zone off = (decide (0 ≤ zone) && (decide (zone < g.d * g.z) && (decide (0 ≤ off) && decide (off < g.s))))) := Lib.hid (by
    have h1 := h.2.2.1
    unfold holdsG
    rw [hr, Bool.eq_iff_iff]
    simp only [Bool.and_eq_true, Bool.true_and, decide_eq_true_eq, Geo.inB_iff]
    constructor
    · rintro ⟨⟨a1, a2⟩, b1, b2⟩; omega
    · rintro ⟨a1, a2, b1, b2⟩; omega)
  rw [HR.out]
  generalize GC g = C at *
  clear hg h hr HR

  cases t1 : decide (0 ≤ zone)
  · go_enter Try.func42, Try.ntmps42
    go_wp2
    go_ret
    exact ⟨rfl, hB⟩
  · skip
    cases t2 : decide (zone < g.d * g.z)
    · go_enter Try.func42, Try.ntmps42
      go_wp2
      go_ret
      exact ⟨rfl, hB⟩
    · skip
      cases t3 : decide (0 ≤ off)
      · go_enter Try.func42, Try.ntmps42
        go_wp2
        go_ret
        exact ⟨rfl, hB⟩
      · skip
        cases t4 : decide (off < g.s)
        · go_enter Try.func42, Try.ntmps42
          go_wp2
          go_ret
          exact ⟨rfl, hB⟩
        · go_enter Try.func42, Try.ntmps42
          go_wp2
          go_ret
          exact ⟨rfl, hB⟩
set_option maxRecDepth 100000 in
set_option maxHeartbeats 2000000 in
theorem rE_none (g : Geo.G) (e : BE) (w : World) (hc : (e.st == 0) = true ∨ ((e.st == 0) = false ∧ (e.st == 2) = true)) :
    Calls Try.prog 32 #[.agg (BEC e), .agg (GC g)] w fun x w' => x = .returned (.bool ((e.z == 0) && ((e.m == 0) && ((e.o == 0) && ((e.q == 0) && (e.s == 0)))))) ∧ Below w.heap.size w w' := by
  obtain ⟨W0, hW0⟩ : ∃ W0, (w.alloc (.cells (BEC e) 53)).alloc (.cells (GC g) 26) = W0 := ⟨_, rfl⟩
  have hB0 : Below w.heap.size w W0 := by rw [← hW0]; exact ((Below.refl _ w).alloc (Nat.le_refl _) _).alloc (by simp) _
  have hE : W0.heap[w.heap.size]? = some (.cells (BEC e) 53 (0, 0)) := by rw [← hW0]; exact (alloc_old _ _ (by simp)).trans (alloc_new _ _ rfl)
  have hG : W0.heap[w.heap.size + 1]? = some (.cells (GC g) 26 (0, 0)) := by rw [← hW0]; exact alloc_new _ _ (by simp)
  have k0 : W0.cell? ⟨w.heap.size, 0, none⟩ = some (.int .i64 e.st) := (cell_of_row _ _ _ _ _ _ hE).trans rfl
  have k1 : W0.cell? ⟨w.heap.size, 1, none⟩ = some (.int .i64 e.z) := (cell_of_row _ _ _ _ _ _ hE).trans rfl
  have k2 : W0.cell? ⟨w.heap.size, 2, none⟩ = some (.int .i64 e.m) := (cell_of_row _ _ _ _ _ _ hE).trans rfl
  have k3 : W0.cell? ⟨w.heap.size, 3, none⟩ = some (.int .i64 e.o) := (cell_of_row _ _ _ _ _ _ hE).trans rfl
  have k4 : W0.cell? ⟨w.heap.size, 4, none⟩ = some (.int .i64 e.q) := (cell_of_row _ _ _ _ _ _ hE).trans rfl
  have k5 : W0.cell? ⟨w.heap.size, 5, none⟩ = some (.int .i64 e.s) := (cell_of_row _ _ _ _ _ _ hE).trans rfl
  have HW0 := Lib.hid hW0
  have HGI := Lib.hid (rgsize (g := g))
  clear hW0 hE hG
  generalize BEC e = C at *
  generalize GC g = D at *
  rcases hc with a1 | ⟨a1, a2⟩
  · cases t1 : e.z == 0
    · go_enter Try.func32, Try.ntmps32
      go_upto_region 1 with (fail)
      rw [HW0.out]
      go_wp2
      go_ret
      exact ⟨rfl, hB0⟩
    · skip
      cases t2 : e.m == 0
      · go_enter Try.func32, Try.ntmps32
        go_upto_region 1 with (fail)
        rw [HW0.out]
        go_wp2
        go_ret
        exact ⟨rfl, hB0⟩
      · skip
        cases t3 : e.o == 0
        · go_enter Try.func32, Try.ntmps32
          go_upto_region 1 with (fail)
          rw [HW0.out]
          go_wp2
          go_ret
          exact ⟨rfl, hB0⟩
        · skip
          cases t4 : e.q == 0
          · go_enter Try.func32, Try.ntmps32
            go_upto_region 1 with (fail)
            rw [HW0.out]
            go_wp2
            go_ret
            exact ⟨rfl, hB0⟩
          · skip
            cases t5 : e.s == 0
            · go_enter Try.func32, Try.ntmps32
              go_upto_region 1 with (fail)
              rw [HW0.out]
              go_wp2
              go_ret
              exact ⟨rfl, hB0⟩
            · go_enter Try.func32, Try.ntmps32
              go_upto_region 1 with (fail)
              rw [HW0.out]
              go_wp2
              go_ret
              exact ⟨rfl, hB0⟩
  · cases t1 : e.z == 0
    · go_enter Try.func32, Try.ntmps32
      go_upto_region 1 with (fail)
      rw [HW0.out]
      go_wp2
      go_ret
      exact ⟨rfl, hB0⟩
    · skip
      cases t2 : e.m == 0
      · go_enter Try.func32, Try.ntmps32
        go_upto_region 1 with (fail)
        rw [HW0.out]
        go_wp2
        go_ret
        exact ⟨rfl, hB0⟩
      · skip
        cases t3 : e.o == 0
        · go_enter Try.func32, Try.ntmps32
          go_upto_region 1 with (fail)
          rw [HW0.out]
          go_wp2
          go_ret
          exact ⟨rfl, hB0⟩
        · skip
          cases t4 : e.q == 0
          · go_enter Try.func32, Try.ntmps32
            go_upto_region 1 with (fail)
            rw [HW0.out]
            go_wp2
            go_ret
            exact ⟨rfl, hB0⟩
          · skip
            cases t5 : e.s == 0
            · go_enter Try.func32, Try.ntmps32
              go_upto_region 1 with (fail)
              rw [HW0.out]
              go_wp2
              go_ret
              exact ⟨rfl, hB0⟩
            · go_enter Try.func32, Try.ntmps32
              go_upto_region 1 with (fail)
              rw [HW0.out]
              go_wp2
              go_ret
              exact ⟨rfl, hB0⟩
set_option maxRecDepth 100000 in
set_option maxHeartbeats 2000000 in
theorem rE_other (g : Geo.G) (e : BE) (w : World) (a1 : (e.st == 0) = false) (a2 : (e.st == 2) = false) (a3 : (e.st != 1) = true) :
    Calls Try.prog 32 #[.agg (BEC e), .agg (GC g)] w fun x w' => x = .returned (.bool false) ∧ Below w.heap.size w w' := by
  obtain ⟨W0, hW0⟩ : ∃ W0, (w.alloc (.cells (BEC e) 53)).alloc (.cells (GC g) 26) = W0 := ⟨_, rfl⟩
  have hB0 : Below w.heap.size w W0 := by rw [← hW0]; exact ((Below.refl _ w).alloc (Nat.le_refl _) _).alloc (by simp) _
  have hE : W0.heap[w.heap.size]? = some (.cells (BEC e) 53 (0, 0)) := by rw [← hW0]; exact (alloc_old _ _ (by simp)).trans (alloc_new _ _ rfl)
  have hG : W0.heap[w.heap.size + 1]? = some (.cells (GC g) 26 (0, 0)) := by rw [← hW0]; exact alloc_new _ _ (by simp)
  have k0 : W0.cell? ⟨w.heap.size, 0, none⟩ = some (.int .i64 e.st) := (cell_of_row _ _ _ _ _ _ hE).trans rfl
  have k1 : W0.cell? ⟨w.heap.size, 1, none⟩ = some (.int .i64 e.z) := (cell_of_row _ _ _ _ _ _ hE).trans rfl
  have k2 : W0.cell? ⟨w.heap.size, 2, none⟩ = some (.int .i64 e.m) := (cell_of_row _ _ _ _ _ _ hE).trans rfl
  have k3 : W0.cell? ⟨w.heap.size, 3, none⟩ = some (.int .i64 e.o) := (cell_of_row _ _ _ _ _ _ hE).trans rfl
  have k4 : W0.cell? ⟨w.heap.size, 4, none⟩ = some (.int .i64 e.q) := (cell_of_row _ _ _ _ _ _ hE).trans rfl
  have k5 : W0.cell? ⟨w.heap.size, 5, none⟩ = some (.int .i64 e.s) := (cell_of_row _ _ _ _ _ _ hE).trans rfl
  have HW0 := Lib.hid hW0
  have HGI := Lib.hid (rgsize (g := g))
  clear hW0 hE hG
  generalize BEC e = C at *
  generalize GC g = D at *
  go_enter Try.func32, Try.ntmps32
  go_upto_region 1 with (fail)
  rw [HW0.out]
  go_wp2
  go_ret
  exact ⟨rfl, hB0⟩
set_option maxRecDepth 100000 in
set_option maxHeartbeats 4000000 in
theorem rE_live (g : Geo.G) (e : BE) (b1 b2 : Bool) (w : World) (hs : Geo.Small g) (a1 : (e.st == 0) = false) (a2 : (e.st == 2) = false) (a3 : (e.st != 1) = false)
    (h1 : ∀ W, Calls Try.prog 42 #[.agg (GC g), .int .i64 e.z, .int .i64 e.o] W fun x w' => x = .returned (.bool b1) ∧ Below W.heap.size W w')
    (h2 : ∀ W, Calls Try.prog 42 #[.agg (GC g), .int .i64 e.m, .int .i64 e.o] W fun x w' => x = .returned (.bool b2) ∧ Below W.heap.size W w')
    (hz : b1 = true → 0 ≤ e.z ∧ e.z ≤ 512) (hm : b2 = true → 0 ≤ e.m ∧ e.m ≤ 512) :
    Calls Try.prog 32 #[.agg (BEC e), .agg (GC g)] w fun x w' => x = .returned (.bool (b1 && (b2 && ((e.z / g.z != e.m / g.z) && (decide (1 ≤ e.q) && (decide (e.q ≤ 281474976710655) && (decide (0 ≤ e.s) && decide (e.s ≤ 4294967295)))))))) ∧ Below w.heap.size w w' := by
  obtain ⟨W0, hW0⟩ : ∃ W0, (w.alloc (.cells (BEC e) 53)).alloc (.cells (GC g) 26) = W0 := ⟨_, rfl⟩
  have hB0 : Below w.heap.size w W0 := by rw [← hW0]; exact ((Below.refl _ w).alloc (Nat.le_refl _) _).alloc (by simp) _
  have hE : W0.heap[w.heap.size]? = some (.cells (BEC e) 53 (0, 0)) := by rw [← hW0]; exact (alloc_old _ _ (by simp)).trans (alloc_new _ _ rfl)
  have hG : W0.heap[w.heap.size + 1]? = some (.cells (GC g) 26 (0, 0)) := by rw [← hW0]; exact alloc_new _ _ (by simp)
  have k0 : W0.cell? ⟨w.heap.size, 0, none⟩ = some (.int .i64 e.st) := (cell_of_row _ _ _ _ _ _ hE).trans rfl
  have k1 : W0.cell? ⟨w.heap.size, 1, none⟩ = some (.int .i64 e.z) := (cell_of_row _ _ _ _ _ _ hE).trans rfl
  have k2 : W0.cell? ⟨w.heap.size, 2, none⟩ = some (.int .i64 e.m) := (cell_of_row _ _ _ _ _ _ hE).trans rfl
  have k3 : W0.cell? ⟨w.heap.size, 3, none⟩ = some (.int .i64 e.o) := (cell_of_row _ _ _ _ _ _ hE).trans rfl
  have k4 : W0.cell? ⟨w.heap.size, 4, none⟩ = some (.int .i64 e.q) := (cell_of_row _ _ _ _ _ _ hE).trans rfl
  have k5 : W0.cell? ⟨w.heap.size, 5, none⟩ = some (.int .i64 e.s) := (cell_of_row _ _ _ _ _ _ hE).trans rfl
  have HW0 := Lib.hid hW0
  have HGI := Lib.hid (rgsize (g := g))
  have H1 := Lib.hid h1
  have H2 := Lib.hid h2
  have HGR := Lib.hid hG
  have HER := Lib.hid hE
  have hz1 := hs.2.1.1
  have hz2 := hs.2.1.2
  have HCE : Hid (∀ (W : World) (b : Nat), W.heap[b]? = some (.cells (BEC e) 53 (0, 0)) → W.cell? ⟨b, 1, none⟩ = some (.int .i64 e.z) ∧ W.cell? ⟨b, 2, none⟩ = some (.int .i64 e.m) ∧ W.cell? ⟨b, 3, none⟩ = some (.int .i64 e.o) ∧ W.cell? ⟨b, 4, none⟩ = some (.int .i64 e.q) ∧ W.cell? ⟨b, 5, none⟩ = some (.int .i64 e.s)) := Lib.hid (fun W b hh => ⟨(cell_of_row _ _ _ _ _ _ hh).trans rfl, (cell_of_row _ _ _ _ _ _ hh).trans rfl, (cell_of_row _ _ _ _ _ _ hh).trans rfl, (cell_of_row _ _ _ _ _ _ hh).trans rfl, (cell_of_row _ _ _ _ _ _ hh).trans rfl⟩)
  have HCG : Hid (∀ (W : World) (b : Nat), W.heap[b]? = some (.cells (GC g) 26 (0, 0)) → W.cell? ⟨b, 1, none⟩ = some (.int .i64 g.z)) := Lib.hid (fun W b hh => (cell_of_row _ _ _ _ _ _ hh).trans rfl)
  have zz : w.heap.size + 1 < W0.heap.size := (Array.getElem?_eq_some_iff.1 hG).1
  clear hW0 h1 h2 hs
  generalize BEC e = C at *
  generalize GC g = D at *
  cases b1
  · go_enter Try.func32, Try.ntmps32
    go_upto_region 1 with (fail)
    rw [HW0.out]
    go_wp2_with (refine wpList_row_on (by rfl) 26 _ rfl (w.heap.size + 1) rfl 26 _ _ _ hG Try.underlying26 rfl HGI.out ?_)
    refine (H1.out _).mono ?_
    rintro x w1 ⟨rfl, hB1⟩
    have hBW := hB0.trans (hB1.mono hB0.size)
    go_wp2
    go_ret
    exact ⟨rfl, hBW⟩
  · have hz := hz rfl
    cases b2
    · go_enter Try.func32, Try.ntmps32
      go_upto_region 1 with (fail)
      rw [HW0.out]
      go_wp2_with (refine wpList_row_on (by rfl) 26 _ rfl (w.heap.size + 1) rfl 26 _ _ _ hG Try.underlying26 rfl HGI.out ?_)
      refine (H1.out _).mono ?_
      rintro x w1 ⟨rfl, hB1⟩
      have hG1 := (hB1.block (w.heap.size + 1) zz).trans HGR.out
      have hBW := hB0.trans (hB1.mono hB0.size)
      obtain ⟨q1, q2, q3, q4, q5⟩ := HCE.out _ _ ((hB1.block w.heap.size (by omega)).trans HER.out)
      go_wp2_with (refine wpList_row_on (by rfl) 26 _ rfl (w.heap.size + 1) rfl 26 _ _ _ hG1 Try.underlying26 rfl HGI.out ?_)
      refine (H2.out _).mono ?_
      rintro x w2 ⟨rfl, hB2⟩
      have hBW2 := hBW.trans (hB2.mono hBW.size)
      go_wp2
      go_ret
      exact ⟨rfl, hBW2⟩
    · have hm := hm rfl
      obtain ⟨dq, hdq⟩ : ∃ dq, (e.z / g.z != e.m / g.z) = dq := ⟨_, rfl⟩
      rw [hdq]
      cases dq
      · go_enter Try.func32, Try.ntmps32
        go_upto_region 1 with (fail)
        rw [HW0.out]
        go_wp2_with (refine wpList_row_on (by rfl) 26 _ rfl (w.heap.size + 1) rfl 26 _ _ _ hG Try.underlying26 rfl HGI.out ?_)
        refine (H1.out _).mono ?_
        rintro x w1 ⟨rfl, hB1⟩
        have hG1 := (hB1.block (w.heap.size + 1) zz).trans HGR.out
        have hE1 := (hB1.block w.heap.size (by omega)).trans HER.out
        have hBW := hB0.trans (hB1.mono hB0.size)
        obtain ⟨q1, q2, q3, q4, q5⟩ := HCE.out _ _ hE1
        go_wp2_with (refine wpList_row_on (by rfl) 26 _ rfl (w.heap.size + 1) rfl 26 _ _ _ hG1 Try.underlying26 rfl HGI.out ?_)
        refine (H2.out _).mono ?_
        rintro x w2 ⟨rfl, hB2⟩
        have z1 := hB1.size
        have hBW2 := hBW.trans (hB2.mono hBW.size)
        obtain ⟨r1, r2, r3, r4, r5⟩ := HCE.out _ _ ((hB2.block w.heap.size (by omega)).trans hE1)
        have s1 := HCG.out _ _ ((hB2.block (w.heap.size + 1) (by omega)).trans hG1)
        clear k0 k1 k2 k3 k4 k5 q1 q2 q3 q4 q5 hG1 hE1 hB1 hB2
        go_wp2_with fail
        go_quiet (fail)
        go_wp2
        go_ret
        exact ⟨rfl, below_drewN hBW2 _⟩
      · skip
        cases t4 : decide (1 ≤ e.q)
        · go_enter Try.func32, Try.ntmps32
          go_upto_region 1 with (fail)
          rw [HW0.out]
          go_wp2_with (refine wpList_row_on (by rfl) 26 _ rfl (w.heap.size + 1) rfl 26 _ _ _ hG Try.underlying26 rfl HGI.out ?_)
          refine (H1.out _).mono ?_
          rintro x w1 ⟨rfl, hB1⟩
          have hG1 := (hB1.block (w.heap.size + 1) zz).trans HGR.out
          have hE1 := (hB1.block w.heap.size (by omega)).trans HER.out
          have hBW := hB0.trans (hB1.mono hB0.size)
          obtain ⟨q1, q2, q3, q4, q5⟩ := HCE.out _ _ hE1
          go_wp2_with (refine wpList_row_on (by rfl) 26 _ rfl (w.heap.size + 1) rfl 26 _ _ _ hG1 Try.underlying26 rfl HGI.out ?_)
          refine (H2.out _).mono ?_
          rintro x w2 ⟨rfl, hB2⟩
          have z1 := hB1.size
          have hBW2 := hBW.trans (hB2.mono hBW.size)
          obtain ⟨r1, r2, r3, r4, r5⟩ := HCE.out _ _ ((hB2.block w.heap.size (by omega)).trans hE1)
          have s1 := HCG.out _ _ ((hB2.block (w.heap.size + 1) (by omega)).trans hG1)
          clear k0 k1 k2 k3 k4 k5 q1 q2 q3 q4 q5 hG1 hE1 hB1 hB2
          go_wp2_with fail
          go_quiet (fail)
          go_wp2
          go_ret
          exact ⟨rfl, below_drewN hBW2 _⟩
        · skip
          cases t5 : decide (e.q ≤ 281474976710655)
          · go_enter Try.func32, Try.ntmps32
            go_upto_region 1 with (fail)
            rw [HW0.out]
            go_wp2_with (refine wpList_row_on (by rfl) 26 _ rfl (w.heap.size + 1) rfl 26 _ _ _ hG Try.underlying26 rfl HGI.out ?_)
            refine (H1.out _).mono ?_
            rintro x w1 ⟨rfl, hB1⟩
            have hG1 := (hB1.block (w.heap.size + 1) zz).trans HGR.out
            have hE1 := (hB1.block w.heap.size (by omega)).trans HER.out
            have hBW := hB0.trans (hB1.mono hB0.size)
            obtain ⟨q1, q2, q3, q4, q5⟩ := HCE.out _ _ hE1
            go_wp2_with (refine wpList_row_on (by rfl) 26 _ rfl (w.heap.size + 1) rfl 26 _ _ _ hG1 Try.underlying26 rfl HGI.out ?_)
            refine (H2.out _).mono ?_
            rintro x w2 ⟨rfl, hB2⟩
            have z1 := hB1.size
            have hBW2 := hBW.trans (hB2.mono hBW.size)
            obtain ⟨r1, r2, r3, r4, r5⟩ := HCE.out _ _ ((hB2.block w.heap.size (by omega)).trans hE1)
            have s1 := HCG.out _ _ ((hB2.block (w.heap.size + 1) (by omega)).trans hG1)
            clear k0 k1 k2 k3 k4 k5 q1 q2 q3 q4 q5 hG1 hE1 hB1 hB2
            go_wp2_with fail
            go_quiet (fail)
            go_wp2
            go_ret
            exact ⟨rfl, below_drewN hBW2 _⟩
          · skip
            cases t6 : decide (0 ≤ e.s)
            · go_enter Try.func32, Try.ntmps32
              go_upto_region 1 with (fail)
              rw [HW0.out]
              go_wp2_with (refine wpList_row_on (by rfl) 26 _ rfl (w.heap.size + 1) rfl 26 _ _ _ hG Try.underlying26 rfl HGI.out ?_)
              refine (H1.out _).mono ?_
              rintro x w1 ⟨rfl, hB1⟩
              have hG1 := (hB1.block (w.heap.size + 1) zz).trans HGR.out
              have hE1 := (hB1.block w.heap.size (by omega)).trans HER.out
              have hBW := hB0.trans (hB1.mono hB0.size)
              obtain ⟨q1, q2, q3, q4, q5⟩ := HCE.out _ _ hE1
              go_wp2_with (refine wpList_row_on (by rfl) 26 _ rfl (w.heap.size + 1) rfl 26 _ _ _ hG1 Try.underlying26 rfl HGI.out ?_)
              refine (H2.out _).mono ?_
              rintro x w2 ⟨rfl, hB2⟩
              have z1 := hB1.size
              have hBW2 := hBW.trans (hB2.mono hBW.size)
              obtain ⟨r1, r2, r3, r4, r5⟩ := HCE.out _ _ ((hB2.block w.heap.size (by omega)).trans hE1)
              have s1 := HCG.out _ _ ((hB2.block (w.heap.size + 1) (by omega)).trans hG1)
              clear k0 k1 k2 k3 k4 k5 q1 q2 q3 q4 q5 hG1 hE1 hB1 hB2
              go_wp2_with fail
              go_quiet (fail)
              go_wp2
              go_ret
              exact ⟨rfl, below_drewN hBW2 _⟩
            · skip
              cases t7 : decide (e.s ≤ 4294967295)
              · go_enter Try.func32, Try.ntmps32
                go_upto_region 1 with (fail)
                rw [HW0.out]
                go_wp2_with (refine wpList_row_on (by rfl) 26 _ rfl (w.heap.size + 1) rfl 26 _ _ _ hG Try.underlying26 rfl HGI.out ?_)
                refine (H1.out _).mono ?_
                rintro x w1 ⟨rfl, hB1⟩
                have hG1 := (hB1.block (w.heap.size + 1) zz).trans HGR.out
                have hE1 := (hB1.block w.heap.size (by omega)).trans HER.out
                have hBW := hB0.trans (hB1.mono hB0.size)
                obtain ⟨q1, q2, q3, q4, q5⟩ := HCE.out _ _ hE1
                go_wp2_with (refine wpList_row_on (by rfl) 26 _ rfl (w.heap.size + 1) rfl 26 _ _ _ hG1 Try.underlying26 rfl HGI.out ?_)
                refine (H2.out _).mono ?_
                rintro x w2 ⟨rfl, hB2⟩
                have z1 := hB1.size
                have hBW2 := hBW.trans (hB2.mono hBW.size)
                obtain ⟨r1, r2, r3, r4, r5⟩ := HCE.out _ _ ((hB2.block w.heap.size (by omega)).trans hE1)
                have s1 := HCG.out _ _ ((hB2.block (w.heap.size + 1) (by omega)).trans hG1)
                clear k0 k1 k2 k3 k4 k5 q1 q2 q3 q4 q5 hG1 hE1 hB1 hB2
                go_wp2_with fail
                go_quiet (fail)
                go_wp2
                go_ret
                exact ⟨rfl, below_drewN hBW2 _⟩
              · go_enter Try.func32, Try.ntmps32
                go_upto_region 1 with (fail)
                rw [HW0.out]
                go_wp2_with (refine wpList_row_on (by rfl) 26 _ rfl (w.heap.size + 1) rfl 26 _ _ _ hG Try.underlying26 rfl HGI.out ?_)
                refine (H1.out _).mono ?_
                rintro x w1 ⟨rfl, hB1⟩
                have hG1 := (hB1.block (w.heap.size + 1) zz).trans HGR.out
                have hE1 := (hB1.block w.heap.size (by omega)).trans HER.out
                have hBW := hB0.trans (hB1.mono hB0.size)
                obtain ⟨q1, q2, q3, q4, q5⟩ := HCE.out _ _ hE1
                go_wp2_with (refine wpList_row_on (by rfl) 26 _ rfl (w.heap.size + 1) rfl 26 _ _ _ hG1 Try.underlying26 rfl HGI.out ?_)
                refine (H2.out _).mono ?_
                rintro x w2 ⟨rfl, hB2⟩
                have z1 := hB1.size
                have hBW2 := hBW.trans (hB2.mono hBW.size)
                obtain ⟨r1, r2, r3, r4, r5⟩ := HCE.out _ _ ((hB2.block w.heap.size (by omega)).trans hE1)
                have s1 := HCG.out _ _ ((hB2.block (w.heap.size + 1) (by omega)).trans hG1)
                clear k0 k1 k2 k3 k4 k5 q1 q2 q3 q4 q5 hG1 hE1 hB1 hB2
                go_wp2_with fail
                go_quiet (fail)
                go_wp2
                go_ret
                exact ⟨rfl, below_drewN hBW2 _⟩
theorem rE_any (g : Geo.G) (e : BE) (w : World) (hr : Geo.right g = true) :
    Calls Try.prog 32 #[.agg (BEC e), .agg (GC g)] w fun x w' => x = .returned (.bool (beRight g e)) ∧ Below w.heap.size w w' := by
  have hs := ((Geo.right_iff g).1 hr).1
  unfold beRight
  by_cases h0 : e.st = 0 ∨ e.st = 2
  · rw [if_pos h0]
    have := rE_none g e w (by
      rcases h0 with h | h
      · exact .inl (by simp [h])
      · exact .inr ⟨by simp [h], by simp [h]⟩)
    rwa [show ((e.z == 0) && ((e.m == 0) && ((e.o == 0) && ((e.q == 0) && (e.s == 0))))) = decide (e = ⟨e.st, 0, 0, 0, 0, 0⟩) by
      rw [Bool.eq_iff_iff]
      simp only [Bool.and_eq_true, beq_iff_eq, decide_eq_true_eq]
      constructor
      · rintro ⟨a, b, c, d, f⟩
        cases e
        simp_all
      · intro h
        rw [h]
        simp] at this
  · rw [if_neg h0]
    have a1 : (e.st == 0) = false := by simp only [beq_eq_false_iff_ne]; exact fun h => h0 (.inl h)
    have a2 : (e.st == 2) = false := by simp only [beq_eq_false_iff_ne]; exact fun h => h0 (.inr h)
    by_cases h1 : e.st = 1
    · rw [if_pos h1]
      have hb := Geo.dz_bd hs
      have hin : ∀ z o, holdsG g z o = true → 0 ≤ z ∧ z < g.d * g.z := fun z o h => by
        unfold holdsG at h
        simp only [Bool.and_eq_true, Geo.inB_iff] at h
        omega
      have := rE_live g e _ _ w hs a1 a2 (by simp [h1]) (fun W => rholds_any g e.z e.o W hs hr) (fun W => rholds_any g e.m e.o W hs hr) (fun h => by have := hin _ _ h; omega) (fun h => by have := hin _ _ h; omega)
      rwa [show (holdsG g e.z e.o && (holdsG g e.m e.o && ((e.z / g.z != e.m / g.z) && (decide (1 ≤ e.q) && (decide (e.q ≤ 281474976710655) && (decide (0 ≤ e.s) && decide (e.s ≤ 4294967295))))))) = beLive g e by
        unfold beLive
        cases c1 : holdsG g e.z e.o
        · simp
        · cases c2 : holdsG g e.m e.o
          · simp
          · have d1 : domOf g e.z = e.z / g.z := if_pos (hin _ _ c1)
            have d2 : domOf g e.m = e.m / g.z := if_pos (hin _ _ c2)
            rw [d1, d2]
            congr 3
            rw [Bool.eq_iff_iff]
            simp] at this
    · rw [if_neg h1]
      exact rE_other g e w a1 a2 (by simp [h1])
end Go.Proofs.Yteggijkcdlboeaa
