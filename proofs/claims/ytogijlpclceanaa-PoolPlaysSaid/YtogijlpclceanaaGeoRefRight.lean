/- Proved here: the contract of the document's Right of a geometry. -/
import Derived.Test.YtogijlpclceanaaGeoRef
namespace Go.Proofs.Ytogijlpclceanaa
open Go.RowKit Go.Rv
set_option linter.unusedVariables false
set_option maxRecDepth 100000 in
set_option maxHeartbeats 4000000 in
theorem grefright_any (g : Geo.G) (w : World) :
    Calls Try.prog 39 #[.agg (GC g)] w fun e w' => e = .returned (.bool (Geo.right g)) ∧ Below w.heap.size w w' := by
  have hg := heap_alloc_new w (.cells (GC g) 73)
  obtain ⟨c0, c1, c2, c3, c4, c5⟩ := geo_cells hg
  have hB : Below w.heap.size w (w.alloc (.cells (GC g) 73)) := (Below.refl _ _).alloc (Nat.le_refl _) _
  have z0 : w.heap.size < (w.alloc (.cells (GC g) 73)).heap.size := by simp
  have HN : Hid (¬ Geo.Small g → Geo.right g = false) := Lib.hid (fun h => by rw [← Bool.not_eq_true]; exact fun h' => h ((Geo.right_iff g).1 h').1)
  have H : Hid (¬ (g.d < 3 ∨ 8 < g.d ∨ g.z < 1 ∨ 64 < g.z ∨ g.s < 4 ∨ 64 < g.s ∨ g.b < 1 ∨ 256 < g.b ∨ g.p < 0 ∨ 4 < g.p ∨ g.o < 4 ∨ 64 < g.o) → Geo.Small g) := Lib.hid (fun h => by unfold Geo.Small; omega)
  clear hg
  by_cases h0 : g.d < 3
  case pos =>
    have HD : Hid (Geo.right g = false) := Lib.hid (HN.out (by unfold Geo.Small; omega))
    have t0 : decide (g.d < 3) = true := decide_eq_true h0
    clear h0
    go_enter Try.func39, Try.ntmps39
    go_wp2
    go_ret
    exact ⟨by rw [HD.out]; rfl, hB⟩
  by_cases h1 : 8 < g.d
  case pos =>
    have HD : Hid (Geo.right g = false) := Lib.hid (HN.out (by unfold Geo.Small; omega))
    have t0 : decide (g.d < 3) = false := decide_eq_false h0
    have t1 : decide (8 < g.d) = true := decide_eq_true h1
    clear h0 h1
    go_enter Try.func39, Try.ntmps39
    go_wp2
    go_ret
    exact ⟨by rw [HD.out]; rfl, hB⟩
  by_cases h2 : g.z < 1
  case pos =>
    have HD : Hid (Geo.right g = false) := Lib.hid (HN.out (by unfold Geo.Small; omega))
    have t0 : decide (g.d < 3) = false := decide_eq_false h0
    have t1 : decide (8 < g.d) = false := decide_eq_false h1
    have t2 : decide (g.z < 1) = true := decide_eq_true h2
    clear h0 h1 h2
    go_enter Try.func39, Try.ntmps39
    go_wp2
    go_ret
    exact ⟨by rw [HD.out]; rfl, hB⟩
  by_cases h3 : 64 < g.z
  case pos =>
    have HD : Hid (Geo.right g = false) := Lib.hid (HN.out (by unfold Geo.Small; omega))
    have t0 : decide (g.d < 3) = false := decide_eq_false h0
    have t1 : decide (8 < g.d) = false := decide_eq_false h1
    have t2 : decide (g.z < 1) = false := decide_eq_false h2
    have t3 : decide (64 < g.z) = true := decide_eq_true h3
    clear h0 h1 h2 h3
    go_enter Try.func39, Try.ntmps39
    go_wp2
    go_ret
    exact ⟨by rw [HD.out]; rfl, hB⟩
  by_cases h4 : g.s < 4
  case pos =>
    have HD : Hid (Geo.right g = false) := Lib.hid (HN.out (by unfold Geo.Small; omega))
    have t0 : decide (g.d < 3) = false := decide_eq_false h0
    have t1 : decide (8 < g.d) = false := decide_eq_false h1
    have t2 : decide (g.z < 1) = false := decide_eq_false h2
    have t3 : decide (64 < g.z) = false := decide_eq_false h3
    have t4 : decide (g.s < 4) = true := decide_eq_true h4
    clear h0 h1 h2 h3 h4
    go_enter Try.func39, Try.ntmps39
    go_wp2
    go_ret
    exact ⟨by rw [HD.out]; rfl, hB⟩
  by_cases h5 : 64 < g.s
  case pos =>
    have HD : Hid (Geo.right g = false) := Lib.hid (HN.out (by unfold Geo.Small; omega))
    have t0 : decide (g.d < 3) = false := decide_eq_false h0
    have t1 : decide (8 < g.d) = false := decide_eq_false h1
    have t2 : decide (g.z < 1) = false := decide_eq_false h2
    have t3 : decide (64 < g.z) = false := decide_eq_false h3
    have t4 : decide (g.s < 4) = false := decide_eq_false h4
    have t5 : decide (64 < g.s) = true := decide_eq_true h5
    clear h0 h1 h2 h3 h4 h5
    go_enter Try.func39, Try.ntmps39
    go_wp2
    go_ret
    exact ⟨by rw [HD.out]; rfl, hB⟩
  by_cases h6 : g.b < 1
  case pos =>
    have HD : Hid (Geo.right g = false) := Lib.hid (HN.out (by unfold Geo.Small; omega))
    have t0 : decide (g.d < 3) = false := decide_eq_false h0
    have t1 : decide (8 < g.d) = false := decide_eq_false h1
    have t2 : decide (g.z < 1) = false := decide_eq_false h2
    have t3 : decide (64 < g.z) = false := decide_eq_false h3
    have t4 : decide (g.s < 4) = false := decide_eq_false h4
    have t5 : decide (64 < g.s) = false := decide_eq_false h5
    have t6 : decide (g.b < 1) = true := decide_eq_true h6
    clear h0 h1 h2 h3 h4 h5 h6
    go_enter Try.func39, Try.ntmps39
    go_wp2
    go_ret
    exact ⟨by rw [HD.out]; rfl, hB⟩
  by_cases h7 : 256 < g.b
  case pos =>
    have HD : Hid (Geo.right g = false) := Lib.hid (HN.out (by unfold Geo.Small; omega))
    have t0 : decide (g.d < 3) = false := decide_eq_false h0
    have t1 : decide (8 < g.d) = false := decide_eq_false h1
    have t2 : decide (g.z < 1) = false := decide_eq_false h2
    have t3 : decide (64 < g.z) = false := decide_eq_false h3
    have t4 : decide (g.s < 4) = false := decide_eq_false h4
    have t5 : decide (64 < g.s) = false := decide_eq_false h5
    have t6 : decide (g.b < 1) = false := decide_eq_false h6
    have t7 : decide (256 < g.b) = true := decide_eq_true h7
    clear h0 h1 h2 h3 h4 h5 h6 h7
    go_enter Try.func39, Try.ntmps39
    go_wp2
    go_ret
    exact ⟨by rw [HD.out]; rfl, hB⟩
  by_cases h8 : g.p < 0
  case pos =>
    have HD : Hid (Geo.right g = false) := Lib.hid (HN.out (by unfold Geo.Small; omega))
    have t0 : decide (g.d < 3) = false := decide_eq_false h0
    have t1 : decide (8 < g.d) = false := decide_eq_false h1
    have t2 : decide (g.z < 1) = false := decide_eq_false h2
    have t3 : decide (64 < g.z) = false := decide_eq_false h3
    have t4 : decide (g.s < 4) = false := decide_eq_false h4
    have t5 : decide (64 < g.s) = false := decide_eq_false h5
    have t6 : decide (g.b < 1) = false := decide_eq_false h6
    have t7 : decide (256 < g.b) = false := decide_eq_false h7
    have t8 : decide (g.p < 0) = true := decide_eq_true h8
    clear h0 h1 h2 h3 h4 h5 h6 h7 h8
    go_enter Try.func39, Try.ntmps39
    go_wp2
    go_ret
    exact ⟨by rw [HD.out]; rfl, hB⟩
  by_cases h9 : 4 < g.p
  case pos =>
    have HD : Hid (Geo.right g = false) := Lib.hid (HN.out (by unfold Geo.Small; omega))
    have t0 : decide (g.d < 3) = false := decide_eq_false h0
    have t1 : decide (8 < g.d) = false := decide_eq_false h1
    have t2 : decide (g.z < 1) = false := decide_eq_false h2
    have t3 : decide (64 < g.z) = false := decide_eq_false h3
    have t4 : decide (g.s < 4) = false := decide_eq_false h4
    have t5 : decide (64 < g.s) = false := decide_eq_false h5
    have t6 : decide (g.b < 1) = false := decide_eq_false h6
    have t7 : decide (256 < g.b) = false := decide_eq_false h7
    have t8 : decide (g.p < 0) = false := decide_eq_false h8
    have t9 : decide (4 < g.p) = true := decide_eq_true h9
    clear h0 h1 h2 h3 h4 h5 h6 h7 h8 h9
    go_enter Try.func39, Try.ntmps39
    go_wp2
    go_ret
    exact ⟨by rw [HD.out]; rfl, hB⟩
  by_cases h10 : g.o < 4
  case pos =>
    have HD : Hid (Geo.right g = false) := Lib.hid (HN.out (by unfold Geo.Small; omega))
    have t0 : decide (g.d < 3) = false := decide_eq_false h0
    have t1 : decide (8 < g.d) = false := decide_eq_false h1
    have t2 : decide (g.z < 1) = false := decide_eq_false h2
    have t3 : decide (64 < g.z) = false := decide_eq_false h3
    have t4 : decide (g.s < 4) = false := decide_eq_false h4
    have t5 : decide (64 < g.s) = false := decide_eq_false h5
    have t6 : decide (g.b < 1) = false := decide_eq_false h6
    have t7 : decide (256 < g.b) = false := decide_eq_false h7
    have t8 : decide (g.p < 0) = false := decide_eq_false h8
    have t9 : decide (4 < g.p) = false := decide_eq_false h9
    have t10 : decide (g.o < 4) = true := decide_eq_true h10
    clear h0 h1 h2 h3 h4 h5 h6 h7 h8 h9 h10
    go_enter Try.func39, Try.ntmps39
    go_wp2
    go_ret
    exact ⟨by rw [HD.out]; rfl, hB⟩
  by_cases h11 : 64 < g.o
  case pos =>
    have HD : Hid (Geo.right g = false) := Lib.hid (HN.out (by unfold Geo.Small; omega))
    have t0 : decide (g.d < 3) = false := decide_eq_false h0
    have t1 : decide (8 < g.d) = false := decide_eq_false h1
    have t2 : decide (g.z < 1) = false := decide_eq_false h2
    have t3 : decide (64 < g.z) = false := decide_eq_false h3
    have t4 : decide (g.s < 4) = false := decide_eq_false h4
    have t5 : decide (64 < g.s) = false := decide_eq_false h5
    have t6 : decide (g.b < 1) = false := decide_eq_false h6
    have t7 : decide (256 < g.b) = false := decide_eq_false h7
    have t8 : decide (g.p < 0) = false := decide_eq_false h8
    have t9 : decide (4 < g.p) = false := decide_eq_false h9
    have t10 : decide (g.o < 4) = false := decide_eq_false h10
    have t11 : decide (64 < g.o) = true := decide_eq_true h11
    clear h0 h1 h2 h3 h4 h5 h6 h7 h8 h9 h10 h11
    go_enter Try.func39, Try.ntmps39
    go_wp2
    go_ret
    exact ⟨by rw [HD.out]; rfl, hB⟩
  have hS : Geo.Small g := H.out (by omega)
  have t0 : decide (g.d < 3) = false := decide_eq_false h0
  have t1 : decide (8 < g.d) = false := decide_eq_false h1
  have t2 : decide (g.z < 1) = false := decide_eq_false h2
  have t3 : decide (64 < g.z) = false := decide_eq_false h3
  have t4 : decide (g.s < 4) = false := decide_eq_false h4
  have t5 : decide (64 < g.s) = false := decide_eq_false h5
  have t6 : decide (g.b < 1) = false := decide_eq_false h6
  have t7 : decide (256 < g.b) = false := decide_eq_false h7
  have t8 : decide (g.p < 0) = false := decide_eq_false h8
  have t9 : decide (4 < g.p) = false := decide_eq_false h9
  have t10 : decide (g.o < 4) = false := decide_eq_false h10
  have t11 : decide (64 < g.o) = false := decide_eq_false h11
  have hb := hS.2.2.2.1
  have hss := Geo.ss_bd hS
  have HPA := Lib.hid (fun W => rparts_any g W hS)
  have HSE := Lib.hid (fun W => rsegs_any g W hS)
  have HR : Hid (Geo.right g = (decide (Geo.parts g ≤ g.s) && decide (2 * g.b ≤ g.s * Geo.segs g))) := Lib.hid (by unfold Geo.right; rw [(Geo.small_iff g).2 hS]; rfl)
  have T1 := Lib.hid (IntWalk.i64_in (2 * g.b) (by omega))
  have T2 := Lib.hid (IntWalk.i64_in (g.s * Geo.segs g) (by omega))
  clear h0 h1 h2 h3 h4 h5 h6 h7 h8 h9 h10 h11 hS hb hss HN H
  generalize Geo.parts g = pa at *
  generalize Geo.segs g = se at *
  go_enter Try.func39, Try.ntmps39
  go_wp2_with fail
  clear t0 t1 t2 t3 t4 t5 t6 t7 t8 t9 t10 t11
  obtain ⟨W0, hW0⟩ : ∃ W0, w.alloc (.cells (GC g) 73) = W0 := ⟨_, rfl⟩
  rw [hW0] at c0 c1 c2 c3 c4 c5 hB z0 ⊢
  clear hW0
  have HC : Hid (W0.cell? ⟨w.heap.size, 0, none⟩ = some (.int .i64 g.d) ∧ W0.cell? ⟨w.heap.size, 1, none⟩ = some (.int .i64 g.z) ∧ W0.cell? ⟨w.heap.size, 2, none⟩ = some (.int .i64 g.s) ∧ W0.cell? ⟨w.heap.size, 3, none⟩ = some (.int .i64 g.b) ∧ W0.cell? ⟨w.heap.size, 4, none⟩ = some (.int .i64 g.p) ∧ W0.cell? ⟨w.heap.size, 5, none⟩ = some (.int .i64 g.o)) := Lib.hid ⟨c0, c1, c2, c3, c4, c5⟩
  clear c0 c1 c2 c3 c4 c5
  have hB0 := hB
  clear hB
  rcases Bool.eq_false_or_eq_true (decide (pa ≤ g.s)) with hp | hp
  · have HF : Hid (Geo.right g = decide (2 * g.b ≤ g.s * se)) := Lib.hid (by rw [HR.out, hp]; rfl)
    have HP := Lib.hid hp
    clear HR hp
    refine wp_region_conf 16 [Fact.eq ?rax0, Fact.eq ?rax1, Fact.eq ?rax2, Fact.eq ?rax3, Fact.eq ?rax4, Fact.eq ?rax5, Fact.eq ?rax6, Fact.eq ?rax7, Fact.eq ?rax8, Fact.eq ?rax9, Fact.eq ?rax10, Fact.eq ?rax11, Fact.eq ?rax12, Fact.eq ?rax13, Fact.eq ?rax14, Fact.eq ?rax15] ?raA (by kernel_rfl) (by kernel_rfl) ?rahA ?raho ?rahend
    case rahA =>
      intro vv
      simp only [putRules, Nat.reduceAdd]
      rfl
    case raho =>
      refine ⟨?_, ?_, ?_, ?_, ?_, ?_, ?_, ?_, ?_, ?_, ?_, ?_, ?_, ?_, ?_, ?_, trivial⟩
      · intro vv W K hB hd hK
        simp only [confRules] at hK
        have HK := Lib.hid hK
        clear hK hd
        obtain ⟨k0, k1, k2, k3, k4, k5⟩ := geo_keep hB z0 HC.out
        go_wp2
        refine HK.out _ _ (Below.refl _ _) ?_
        rfl
      · intro vv W K hB hd hK
        simp only [confRules] at hd hK
        have h0 := hd
        clear hd
        simp only [h0] at hK ⊢
        clear h0
        have HK := Lib.hid hK
        clear hK
        go_wp2_with (go_at_call 51; refine (HPA.out _).mono ?_; rintro e w9 ⟨rfl, hB9⟩)
        refine HK.out _ _ hB9 ?_
        rfl
      · intro vv W K hB hd hK
        simp only [confRules] at hK
        have HK := Lib.hid hK
        clear hK hd
        go_wp2
        refine HK.out _ _ (Below.refl _ _) ?_
        rfl
      · intro vv W K hB hd hK
        simp only [confRules] at hd hK
        have h2 := hd
        clear hd
        simp only [h2] at hK ⊢
        clear h2
        have HK := Lib.hid hK
        clear hK
        obtain ⟨k0, k1, k2, k3, k4, k5⟩ := geo_keep hB z0 HC.out
        go_wp2
        refine HK.out _ _ (Below.refl _ _) ?_
        rfl
      · intro vv W K hB hd hK
        simp only [confRules] at hd hK
        obtain ⟨h1, h3⟩ := hd
        simp only [h1, h3] at hK ⊢
        clear h1 h3
        have HK := Lib.hid hK
        clear hK
        have hp := HP.out
        go_wp2
        refine HK.out _ _ (Below.refl _ _) ?_
        rfl
      · intro vv W K hB hd hK
        simp only [confRules] at hd hK
        obtain ⟨h4, h1⟩ := hd
        simp only [h4, h1] at hK ⊢
        clear h4 h1
        have HK := Lib.hid hK
        clear hK
        go_wp2
        refine HK.out _ _ (Below.refl _ _) ?_
        rfl
      · intro vv W K hB hd hK
        simp only [confRules] at hd hK
        have h5 := hd
        clear hd
        simp only [h5] at hK ⊢
        clear h5
        have HK := Lib.hid hK
        clear hK
        refine wpList_guard_yes (by rfl) ?_
        go_wp2
        refine HK.out _ _ (Below.refl _ _) ?_
        rfl
      · intro vv W K hB hd hK
        simp only [confRules] at hd hK
        obtain ⟨h6, h5⟩ := hd
        simp only [h6, h5] at hK ⊢
        clear h6 h5
        have HK := Lib.hid hK
        clear hK
        refine wpList_guard_yes (by rfl) ?_
        obtain ⟨k0, k1, k2, k3, k4, k5⟩ := geo_keep hB z0 HC.out
        go_wp2
        refine HK.out _ _ (Below.refl _ _) ?_
        rfl
      · intro vv W K hB hd hK
        simp only [confRules] at hd hK
        obtain ⟨h7, h5⟩ := hd
        simp only [h7, h5] at hK ⊢
        clear h7 h5
        have HK := Lib.hid hK
        clear hK
        refine wpList_guard_yes (by rfl) ?_
        have t1 := T1.out
        go_wp2
        refine HK.out _ _ (Below.refl _ _) ?_
        rfl
      · intro vv W K hB hd hK
        simp only [confRules] at hd hK
        have h5 := hd
        clear hd
        simp only [h5] at hK ⊢
        clear h5
        have HK := Lib.hid hK
        clear hK
        refine wpList_guard_yes (by rfl) ?_
        go_wp2
        refine HK.out _ _ (Below.refl _ _) ?_
        rfl
      · intro vv W K hB hd hK
        simp only [confRules] at hd hK
        obtain ⟨h9, h5⟩ := hd
        simp only [h9, h5] at hK ⊢
        clear h9 h5
        have HK := Lib.hid hK
        clear hK
        refine wpList_guard_yes (by rfl) ?_
        obtain ⟨k0, k1, k2, k3, k4, k5⟩ := geo_keep hB z0 HC.out
        go_wp2
        refine HK.out _ _ (Below.refl _ _) ?_
        rfl
      · intro vv W K hB hd hK
        simp only [confRules] at hd hK
        have h5 := hd
        clear hd
        simp only [h5] at hK ⊢
        clear h5
        have HK := Lib.hid hK
        clear hK
        refine wpList_guard_yes (by rfl) ?_
        obtain ⟨k0, k1, k2, k3, k4, k5⟩ := geo_keep hB z0 HC.out
        go_wp2
        refine HK.out _ _ (Below.refl _ _) ?_
        rfl
      · intro vv W K hB hd hK
        simp only [confRules] at hd hK
        obtain ⟨h11, h5, _⟩ := hd
        simp only [h11, h5] at hK ⊢
        clear h11 h5
        have HK := Lib.hid hK
        clear hK
        refine wpList_guard_yes (by rfl) ?_
        go_wp2_with (go_at_call 52; refine (HSE.out _).mono ?_; rintro e w9 ⟨rfl, hB9⟩)
        refine HK.out _ _ hB9 ?_
        rfl
      · intro vv W K hB hd hK
        simp only [confRules] at hd hK
        obtain ⟨h10, h12, h5⟩ := hd
        simp only [h10, h12, h5] at hK ⊢
        clear h10 h12 h5
        have HK := Lib.hid hK
        clear hK
        refine wpList_guard_yes (by rfl) ?_
        have t2 := T2.out
        go_wp2
        refine HK.out _ _ (Below.refl _ _) ?_
        rfl
      · intro vv W K hB hd hK
        simp only [confRules] at hd hK
        obtain ⟨h8, h13, h5⟩ := hd
        simp only [h8, h13, h5] at hK ⊢
        clear h8 h13 h5
        have HK := Lib.hid hK
        clear hK
        refine wpList_guard_yes (by rfl) ?_
        go_wp2
        refine HK.out _ _ (Below.refl _ _) ?_
        rfl
      · intro vv W K hB hd hK
        simp only [confRules] at hd hK
        obtain ⟨h5, h14⟩ := hd
        simp only [h5, h14] at hK ⊢
        clear h5 h14
        have HK := Lib.hid hK
        clear hK
        go_wp2
        refine HK.out _ _ (Below.refl _ _) ?_
        rfl
    case rahend =>
      intro vv W hB hf
      have e15 := hf 15 (by decide)
      simp only [endRules] at e15
      simp only [e15, dropRules]
      clear hf e15
      go_wp2
      go_ret
      exact ⟨by rw [HF.out]; rfl, hB0.trans (hB.mono hB0.size)⟩
  · have HF : Hid (Geo.right g = false) := Lib.hid (by rw [HR.out, hp]; rfl)
    have HP := Lib.hid hp
    clear HR hp
    refine wp_region_conf 16 [Fact.eq ?rbx0, Fact.eq ?rbx1, Fact.eq ?rbx2, Fact.eq ?rbx3, Fact.eq ?rbx4, Fact.eq ?rbx5, Fact.eq undef, Fact.eq undef, Fact.eq undef, Fact.eq undef, Fact.eq undef, Fact.eq undef, Fact.eq undef, Fact.eq undef, Fact.eq undef, Fact.eq ?rbx15] ?rbA (by kernel_rfl) (by kernel_rfl) ?rbhA ?rbho ?rbhend
    case rbhA =>
      intro vv
      simp only [putRules, Nat.reduceAdd]
      rfl
    case rbho =>
      refine ⟨?_, ?_, ?_, ?_, ?_, ?_, ?_, ?_, ?_, ?_, ?_, ?_, ?_, ?_, ?_, ?_, trivial⟩
      · intro vv W K hB hd hK
        simp only [confRules] at hK
        have HK := Lib.hid hK
        clear hK hd
        obtain ⟨k0, k1, k2, k3, k4, k5⟩ := geo_keep hB z0 HC.out
        go_wp2
        refine HK.out _ _ (Below.refl _ _) ?_
        rfl
      · intro vv W K hB hd hK
        simp only [confRules] at hd hK
        have h0 := hd
        clear hd
        simp only [h0] at hK ⊢
        clear h0
        have HK := Lib.hid hK
        clear hK
        go_wp2_with (go_at_call 51; refine (HPA.out _).mono ?_; rintro e w9 ⟨rfl, hB9⟩)
        refine HK.out _ _ hB9 ?_
        rfl
      · intro vv W K hB hd hK
        simp only [confRules] at hK
        have HK := Lib.hid hK
        clear hK hd
        go_wp2
        refine HK.out _ _ (Below.refl _ _) ?_
        rfl
      · intro vv W K hB hd hK
        simp only [confRules] at hd hK
        have h2 := hd
        clear hd
        simp only [h2] at hK ⊢
        clear h2
        have HK := Lib.hid hK
        clear hK
        obtain ⟨k0, k1, k2, k3, k4, k5⟩ := geo_keep hB z0 HC.out
        go_wp2
        refine HK.out _ _ (Below.refl _ _) ?_
        rfl
      · intro vv W K hB hd hK
        simp only [confRules] at hd hK
        obtain ⟨h1, h3⟩ := hd
        simp only [h1, h3] at hK ⊢
        clear h1 h3
        have HK := Lib.hid hK
        clear hK
        have hp := HP.out
        go_wp2
        refine HK.out _ _ (Below.refl _ _) ?_
        rfl
      · intro vv W K hB hd hK
        simp only [confRules] at hd hK
        obtain ⟨h4, h1⟩ := hd
        simp only [h4, h1] at hK ⊢
        clear h4 h1
        have HK := Lib.hid hK
        clear hK
        go_wp2
        refine HK.out _ _ (Below.refl _ _) ?_
        rfl
      · intro vv W K hB hd hK
        simp only [confRules] at hd hK
        have h5 := hd
        clear hd
        simp only [h5] at hK ⊢
        clear h5
        have HK := Lib.hid hK
        clear hK
        refine wpList_guard_no (by rfl) ?_
        refine HK.out _ _ (Below.refl _ _) ?_
        rfl
      · intro vv W K hB hd hK
        simp only [confRules] at hd hK
        obtain ⟨h6, h5⟩ := hd
        simp only [h6, h5] at hK ⊢
        clear h6 h5
        have HK := Lib.hid hK
        clear hK
        refine wpList_guard_no (by rfl) ?_
        refine HK.out _ _ (Below.refl _ _) ?_
        rfl
      · intro vv W K hB hd hK
        simp only [confRules] at hd hK
        obtain ⟨h7, h5⟩ := hd
        simp only [h7, h5] at hK ⊢
        clear h7 h5
        have HK := Lib.hid hK
        clear hK
        refine wpList_guard_no (by rfl) ?_
        refine HK.out _ _ (Below.refl _ _) ?_
        rfl
      · intro vv W K hB hd hK
        simp only [confRules] at hd hK
        have h5 := hd
        clear hd
        simp only [h5] at hK ⊢
        clear h5
        have HK := Lib.hid hK
        clear hK
        refine wpList_guard_no (by rfl) ?_
        refine HK.out _ _ (Below.refl _ _) ?_
        rfl
      · intro vv W K hB hd hK
        simp only [confRules] at hd hK
        obtain ⟨h9, h5⟩ := hd
        simp only [h9, h5] at hK ⊢
        clear h9 h5
        have HK := Lib.hid hK
        clear hK
        refine wpList_guard_no (by rfl) ?_
        refine HK.out _ _ (Below.refl _ _) ?_
        rfl
      · intro vv W K hB hd hK
        simp only [confRules] at hd hK
        have h5 := hd
        clear hd
        simp only [h5] at hK ⊢
        clear h5
        have HK := Lib.hid hK
        clear hK
        refine wpList_guard_no (by rfl) ?_
        refine HK.out _ _ (Below.refl _ _) ?_
        rfl
      · intro vv W K hB hd hK
        simp only [confRules] at hd hK
        obtain ⟨h11, h5, _⟩ := hd
        simp only [h11, h5] at hK ⊢
        clear h11 h5
        have HK := Lib.hid hK
        clear hK
        refine wpList_guard_no (by rfl) ?_
        refine HK.out _ _ (Below.refl _ _) ?_
        rfl
      · intro vv W K hB hd hK
        simp only [confRules] at hd hK
        obtain ⟨h10, h12, h5⟩ := hd
        simp only [h10, h12, h5] at hK ⊢
        clear h10 h12 h5
        have HK := Lib.hid hK
        clear hK
        refine wpList_guard_no (by rfl) ?_
        refine HK.out _ _ (Below.refl _ _) ?_
        rfl
      · intro vv W K hB hd hK
        simp only [confRules] at hd hK
        obtain ⟨h8, h13, h5⟩ := hd
        simp only [h8, h13, h5] at hK ⊢
        clear h8 h13 h5
        have HK := Lib.hid hK
        clear hK
        refine wpList_guard_no (by rfl) ?_
        refine HK.out _ _ (Below.refl _ _) ?_
        rfl
      · intro vv W K hB hd hK
        simp only [confRules] at hd hK
        obtain ⟨h5, h14⟩ := hd
        simp only [h5, h14] at hK ⊢
        clear h5 h14
        have HK := Lib.hid hK
        clear hK
        go_wp2
        refine HK.out _ _ (Below.refl _ _) ?_
        rfl
    case rbhend =>
      intro vv W hB hf
      have e15 := hf 15 (by decide)
      simp only [endRules] at e15
      simp only [e15, dropRules]
      clear hf e15
      go_wp2
      go_ret
      exact ⟨by rw [HF.out]; rfl, hB0.trans (hB.mono hB0.size)⟩
end Go.Proofs.Ytogijlpclceanaa
