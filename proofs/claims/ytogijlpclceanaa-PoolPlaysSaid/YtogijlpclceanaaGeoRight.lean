/- Proved here: the contract of the geometry's Right. -/
import Derived.Test.YtogijlpclceanaaGeoSegs
import Derived.Test.YtogijlpclceanaaConf
namespace Go.Proofs.Ytogijlpclceanaa
open Go.RowKit Go.Rv
set_option linter.unusedVariables false
theorem geo_keep {W0 W : World} {b : Nat} {g : Geo.G} (hB : Below W0.heap.size W0 W) (hz : b < W0.heap.size) (h : W0.cell? ⟨b, 0, none⟩ = some (.int .i64 g.d) ∧ W0.cell? ⟨b, 1, none⟩ = some (.int .i64 g.z) ∧ W0.cell? ⟨b, 2, none⟩ = some (.int .i64 g.s) ∧ W0.cell? ⟨b, 3, none⟩ = some (.int .i64 g.b) ∧ W0.cell? ⟨b, 4, none⟩ = some (.int .i64 g.p) ∧ W0.cell? ⟨b, 5, none⟩ = some (.int .i64 g.o)) :
    W.cell? ⟨b, 0, none⟩ = some (.int .i64 g.d) ∧ W.cell? ⟨b, 1, none⟩ = some (.int .i64 g.z) ∧ W.cell? ⟨b, 2, none⟩ = some (.int .i64 g.s) ∧ W.cell? ⟨b, 3, none⟩ = some (.int .i64 g.b) ∧ W.cell? ⟨b, 4, none⟩ = some (.int .i64 g.p) ∧ W.cell? ⟨b, 5, none⟩ = some (.int .i64 g.o) := by
  obtain ⟨h0, h1, h2, h3, h4, h5⟩ := h
  exact ⟨(hB.cell (p := ⟨b, 0, none⟩) hz).trans h0, (hB.cell (p := ⟨b, 1, none⟩) hz).trans h1, (hB.cell (p := ⟨b, 2, none⟩) hz).trans h2, (hB.cell (p := ⟨b, 3, none⟩) hz).trans h3, (hB.cell (p := ⟨b, 4, none⟩) hz).trans h4, (hB.cell (p := ⟨b, 5, none⟩) hz).trans h5⟩
set_option maxRecDepth 100000 in
set_option maxHeartbeats 4000000 in
theorem gright_core (g : Geo.G) (sm : Bool) (pa se : Int) (r : Bool) (w : World)
    (HSM' : ∀ W, Calls Try.prog 45 #[.agg (GC g)] W fun e w' => e = .returned (.bool sm) ∧ Below W.heap.size W w')
    (HPA' : sm = true → ∀ W, Calls Try.prog 46 #[.agg (GC g)] W fun e w' => e = .returned (.int .i64 pa) ∧ Below W.heap.size W w')
    (HSE' : sm = true → ∀ W, Calls Try.prog 47 #[.agg (GC g)] W fun e w' => e = .returned (.int .i64 se) ∧ Below W.heap.size W w')
    (hr : (sm = false ∧ r = false) ∨ (sm = true ∧ decide (pa ≤ g.s) = false ∧ r = false) ∨ (sm = true ∧ decide (pa ≤ g.s) = true ∧ IntKind.i64.wrap (2 * g.b) = 2 * g.b ∧ IntKind.i64.wrap (g.s * se) = g.s * se ∧ r = decide (2 * g.b ≤ g.s * se))) :
    Calls Try.prog 29 #[.agg (GC g)] w fun e w' => e = .returned (.bool r) ∧ Below w.heap.size w w' := by
  have hg := heap_alloc_new w (.cells (GC g) 58)
  obtain ⟨c0, c1, c2, c3, c4, c5⟩ := geo_cells hg
  have hB : Below w.heap.size w (w.alloc (.cells (GC g) 58)) := (Below.refl _ _).alloc (Nat.le_refl _) _
  have HSM := Lib.hid HSM'
  have HPA := Lib.hid HPA'
  have HSE := Lib.hid HSE'
  clear HSM' HPA' HSE'
  have HR := Lib.hid hr
  have z0 : w.heap.size < (w.alloc (.cells (GC g) 58)).heap.size := by simp
  clear hr hg
  go_enter Try.func29, Try.ntmps29
  go_wp2_with fail
  obtain ⟨W0, hW0⟩ : ∃ W0, w.alloc (.cells (GC g) 58) = W0 := ⟨_, rfl⟩
  rw [hW0] at c0 c1 c2 c3 c4 c5 hB z0 ⊢
  clear hW0
  have HC : Hid (W0.cell? ⟨w.heap.size, 0, none⟩ = some (.int .i64 g.d) ∧ W0.cell? ⟨w.heap.size, 1, none⟩ = some (.int .i64 g.z) ∧ W0.cell? ⟨w.heap.size, 2, none⟩ = some (.int .i64 g.s) ∧ W0.cell? ⟨w.heap.size, 3, none⟩ = some (.int .i64 g.b) ∧ W0.cell? ⟨w.heap.size, 4, none⟩ = some (.int .i64 g.p) ∧ W0.cell? ⟨w.heap.size, 5, none⟩ = some (.int .i64 g.o)) := Lib.hid ⟨c0, c1, c2, c3, c4, c5⟩
  clear c0 c1 c2 c3 c4 c5
  have hB0 := hB
  clear hB
  rcases HR.out with ⟨rfl, rfl⟩ | ⟨rfl, t1, rfl⟩ | ⟨rfl, t1, t2, t3, HF⟩
  · clear HR HPA HSE
    refine wp_region_conf 20 [Fact.eq ?rax0, Fact.eq ?rax1, Fact.eq ?rax2, Fact.eq undef, Fact.eq undef, Fact.eq undef, Fact.eq undef, Fact.eq undef, Fact.eq ?rax8, Fact.eq ?rax9, Fact.eq undef, Fact.eq undef, Fact.eq undef, Fact.eq undef, Fact.eq undef, Fact.eq undef, Fact.eq undef, Fact.eq undef, Fact.eq undef, Fact.eq ?rax19] ?raA (by kernel_rfl) (by kernel_rfl) ?rahA ?raho ?rahend
    case rahA =>
      intro vv
      simp only [putRules, Nat.reduceAdd]
      rfl
    case raho =>
      refine ⟨?_, ?_, ?_, ?_, ?_, ?_, ?_, ?_, ?_, ?_, ?_, ?_, ?_, ?_, ?_, ?_, ?_, ?_, ?_, ?_, trivial⟩
      · intro vv W K hB hd hK
        simp only [confRules] at hK
        have HK := Lib.hid hK
        clear hK hd
        obtain ⟨k0, k1, k2, k3, k4, k5⟩ := geo_keep hB z0 HC.out
        go_wp2
        refine HK.out _ _ (Below.refl _ _) ?_
        rfl
      · intro vv W K hB hd hK
        simp only [confRules] at hd hK
        have h0 := hd
        clear hd
        simp only [h0] at hK ⊢
        clear h0
        have HK := Lib.hid hK
        clear hK
        go_wp2_with (go_at_call 45; refine (HSM.out _).mono ?_; rintro e w9 ⟨rfl, hB9⟩)
        refine HK.out _ _ hB9 ?_
        rfl
      · intro vv W K hB hd hK
        simp only [confRules] at hd hK
        obtain ⟨h1, _⟩ := hd
        simp only [h1] at hK ⊢
        clear h1
        have HK := Lib.hid hK
        clear hK
        go_wp2
        refine HK.out _ _ (Below.refl _ _) ?_
        rfl
      · intro vv W K hB hd hK
        simp only [confRules] at hd hK
        have h2 := hd
        clear hd
        simp only [h2] at hK ⊢
        clear h2
        have HK := Lib.hid hK
        clear hK
        refine wpList_guard_no (by rfl) ?_
        refine HK.out _ _ (Below.refl _ _) ?_
        rfl
      · intro vv W K hB hd hK
        simp only [confRules] at hd hK
        obtain ⟨h3, h2, _⟩ := hd
        simp only [h3, h2] at hK ⊢
        clear h3 h2
        have HK := Lib.hid hK
        clear hK
        refine wpList_guard_no (by rfl) ?_
        refine HK.out _ _ (Below.refl _ _) ?_
        rfl
      · intro vv W K hB hd hK
        simp only [confRules] at hd hK
        have h2 := hd
        clear hd
        simp only [h2] at hK ⊢
        clear h2
        have HK := Lib.hid hK
        clear hK
        refine wpList_guard_no (by rfl) ?_
        refine HK.out _ _ (Below.refl _ _) ?_
        rfl
      · intro vv W K hB hd hK
        simp only [confRules] at hd hK
        obtain ⟨h5, h2⟩ := hd
        simp only [h5, h2] at hK ⊢
        clear h5 h2
        have HK := Lib.hid hK
        clear hK
        refine wpList_guard_no (by rfl) ?_
        refine HK.out _ _ (Below.refl _ _) ?_
        rfl
      · intro vv W K hB hd hK
        simp only [confRules] at hd hK
        obtain ⟨h4, h6, h2⟩ := hd
        simp only [h4, h6, h2] at hK ⊢
        clear h4 h6 h2
        have HK := Lib.hid hK
        clear hK
        refine wpList_guard_no (by rfl) ?_
        refine HK.out _ _ (Below.refl _ _) ?_
        rfl
      · intro vv W K hB hd hK
        simp only [confRules] at hd hK
        obtain ⟨h2, h7⟩ := hd
        simp only [h2, h7] at hK ⊢
        clear h2 h7
        have HK := Lib.hid hK
        clear hK
        go_wp2
        refine HK.out _ _ (Below.refl _ _) ?_
        rfl
      · intro vv W K hB hd hK
        simp only [confRules] at hd hK
        obtain ⟨h8, h4⟩ := hd
        simp only [h8, h4] at hK ⊢
        clear h8 h4
        have HK := Lib.hid hK
        clear hK
        go_wp2
        refine HK.out _ _ (Below.refl _ _) ?_
        rfl
      · intro vv W K hB hd hK
        simp only [confRules] at hd hK
        have h9 := hd
        clear hd
        simp only [h9] at hK ⊢
        clear h9
        have HK := Lib.hid hK
        clear hK
        refine wpList_guard_no (by rfl) ?_
        refine HK.out _ _ (Below.refl _ _) ?_
        rfl
      · intro vv W K hB hd hK
        simp only [confRules] at hd hK
        obtain ⟨h10, h9⟩ := hd
        simp only [h10, h9] at hK ⊢
        clear h10 h9
        have HK := Lib.hid hK
        clear hK
        refine wpList_guard_no (by rfl) ?_
        refine HK.out _ _ (Below.refl _ _) ?_
        rfl
      · intro vv W K hB hd hK
        simp only [confRules] at hd hK
        obtain ⟨h11, h9⟩ := hd
        simp only [h11, h9] at hK ⊢
        clear h11 h9
        have HK := Lib.hid hK
        clear hK
        refine wpList_guard_no (by rfl) ?_
        refine HK.out _ _ (Below.refl _ _) ?_
        rfl
      · intro vv W K hB hd hK
        simp only [confRules] at hd hK
        have h9 := hd
        clear hd
        simp only [h9] at hK ⊢
        clear h9
        have HK := Lib.hid hK
        clear hK
        refine wpList_guard_no (by rfl) ?_
        refine HK.out _ _ (Below.refl _ _) ?_
        rfl
      · intro vv W K hB hd hK
        simp only [confRules] at hd hK
        obtain ⟨h13, h9⟩ := hd
        simp only [h13, h9] at hK ⊢
        clear h13 h9
        have HK := Lib.hid hK
        clear hK
        refine wpList_guard_no (by rfl) ?_
        refine HK.out _ _ (Below.refl _ _) ?_
        rfl
      · intro vv W K hB hd hK
        simp only [confRules] at hd hK
        have h9 := hd
        clear hd
        simp only [h9] at hK ⊢
        clear h9
        have HK := Lib.hid hK
        clear hK
        refine wpList_guard_no (by rfl) ?_
        refine HK.out _ _ (Below.refl _ _) ?_
        rfl
      · intro vv W K hB hd hK
        simp only [confRules] at hd hK
        obtain ⟨h15, h9, _⟩ := hd
        simp only [h15, h9] at hK ⊢
        clear h15 h9
        have HK := Lib.hid hK
        clear hK
        refine wpList_guard_no (by rfl) ?_
        refine HK.out _ _ (Below.refl _ _) ?_
        rfl
      · intro vv W K hB hd hK
        simp only [confRules] at hd hK
        obtain ⟨h14, h16, h9⟩ := hd
        simp only [h14, h16, h9] at hK ⊢
        clear h14 h16 h9
        have HK := Lib.hid hK
        clear hK
        refine wpList_guard_no (by rfl) ?_
        refine HK.out _ _ (Below.refl _ _) ?_
        rfl
      · intro vv W K hB hd hK
        simp only [confRules] at hd hK
        obtain ⟨h12, h17, h9⟩ := hd
        simp only [h12, h17, h9] at hK ⊢
        clear h12 h17 h9
        have HK := Lib.hid hK
        clear hK
        refine wpList_guard_no (by rfl) ?_
        refine HK.out _ _ (Below.refl _ _) ?_
        rfl
      · intro vv W K hB hd hK
        simp only [confRules] at hd hK
        obtain ⟨h9, h18⟩ := hd
        simp only [h9, h18] at hK ⊢
        clear h9 h18
        have HK := Lib.hid hK
        clear hK
        go_wp2
        refine HK.out _ _ (Below.refl _ _) ?_
        rfl
    case rahend =>
      intro vv W hB hf
      have e19 := hf 19 (by decide)
      simp only [endRules] at e19
      simp only [e19, dropRules]
      clear hf e19
      go_wp2
      go_ret
      exact ⟨rfl, hB0.trans (hB.mono hB0.size)⟩
  · clear HR HSE
    have HPB := Lib.hid (HPA.out rfl)
    have T1 := Lib.hid t1
    clear HPA t1
    refine wp_region_conf 20 [Fact.eq ?rbx0, Fact.eq ?rbx1, Fact.eq ?rbx2, Fact.eq ?rbx3, Fact.eq ?rbx4, Fact.eq ?rbx5, Fact.eq ?rbx6, Fact.eq ?rbx7, Fact.eq ?rbx8, Fact.eq ?rbx9, Fact.eq undef, Fact.eq undef, Fact.eq undef, Fact.eq undef, Fact.eq undef, Fact.eq undef, Fact.eq undef, Fact.eq undef, Fact.eq undef, Fact.eq ?rbx19] ?rbA (by kernel_rfl) (by kernel_rfl) ?rbhA ?rbho ?rbhend
    case rbhA =>
      intro vv
      simp only [putRules, Nat.reduceAdd]
      rfl
    case rbho =>
      refine ⟨?_, ?_, ?_, ?_, ?_, ?_, ?_, ?_, ?_, ?_, ?_, ?_, ?_, ?_, ?_, ?_, ?_, ?_, ?_, ?_, trivial⟩
      · intro vv W K hB hd hK
        simp only [confRules] at hK
        have HK := Lib.hid hK
        clear hK hd
        obtain ⟨k0, k1, k2, k3, k4, k5⟩ := geo_keep hB z0 HC.out
        go_wp2
        refine HK.out _ _ (Below.refl _ _) ?_
        rfl
      · intro vv W K hB hd hK
        simp only [confRules] at hd hK
        have h0 := hd
        clear hd
        simp only [h0] at hK ⊢
        clear h0
        have HK := Lib.hid hK
        clear hK
        go_wp2_with (go_at_call 45; refine (HSM.out _).mono ?_; rintro e w9 ⟨rfl, hB9⟩)
        refine HK.out _ _ hB9 ?_
        rfl
      · intro vv W K hB hd hK
        simp only [confRules] at hd hK
        obtain ⟨h1, _⟩ := hd
        simp only [h1] at hK ⊢
        clear h1
        have HK := Lib.hid hK
        clear hK
        go_wp2
        refine HK.out _ _ (Below.refl _ _) ?_
        rfl
      · intro vv W K hB hd hK
        simp only [confRules] at hd hK
        have h2 := hd
        clear hd
        simp only [h2] at hK ⊢
        clear h2
        have HK := Lib.hid hK
        clear hK
        refine wpList_guard_yes (by rfl) ?_
        obtain ⟨k0, k1, k2, k3, k4, k5⟩ := geo_keep hB z0 HC.out
        go_wp2
        refine HK.out _ _ (Below.refl _ _) ?_
        rfl
      · intro vv W K hB hd hK
        simp only [confRules] at hd hK
        obtain ⟨h3, h2, _⟩ := hd
        simp only [h3, h2] at hK ⊢
        clear h3 h2
        have HK := Lib.hid hK
        clear hK
        refine wpList_guard_yes (by rfl) ?_
        go_wp2_with (go_at_call 46; refine (HPB.out _).mono ?_; rintro e w9 ⟨rfl, hB9⟩)
        refine HK.out _ _ hB9 ?_
        rfl
      · intro vv W K hB hd hK
        simp only [confRules] at hd hK
        have h2 := hd
        clear hd
        simp only [h2] at hK ⊢
        clear h2
        have HK := Lib.hid hK
        clear hK
        refine wpList_guard_yes (by rfl) ?_
        go_wp2
        refine HK.out _ _ (Below.refl _ _) ?_
        rfl
      · intro vv W K hB hd hK
        simp only [confRules] at hd hK
        obtain ⟨h5, h2⟩ := hd
        simp only [h5, h2] at hK ⊢
        clear h5 h2
        have HK := Lib.hid hK
        clear hK
        refine wpList_guard_yes (by rfl) ?_
        obtain ⟨k0, k1, k2, k3, k4, k5⟩ := geo_keep hB z0 HC.out
        go_wp2
        refine HK.out _ _ (Below.refl _ _) ?_
        rfl
      · intro vv W K hB hd hK
        simp only [confRules] at hd hK
        obtain ⟨h4, h6, h2⟩ := hd
        simp only [h4, h6, h2] at hK ⊢
        clear h4 h6 h2
        have HK := Lib.hid hK
        clear hK
        refine wpList_guard_yes (by rfl) ?_
        have t1 := T1.out
        go_wp2
        refine HK.out _ _ (Below.refl _ _) ?_
        rfl
      · intro vv W K hB hd hK
        simp only [confRules] at hd hK
        obtain ⟨h2, h7⟩ := hd
        simp only [h2, h7] at hK ⊢
        clear h2 h7
        have HK := Lib.hid hK
        clear hK
        go_wp2
        refine HK.out _ _ (Below.refl _ _) ?_
        rfl
      · intro vv W K hB hd hK
        simp only [confRules] at hd hK
        obtain ⟨h8, h4⟩ := hd
        simp only [h8, h4] at hK ⊢
        clear h8 h4
        have HK := Lib.hid hK
        clear hK
        go_wp2
        refine HK.out _ _ (Below.refl _ _) ?_
        rfl
      · intro vv W K hB hd hK
        simp only [confRules] at hd hK
        have h9 := hd
        clear hd
        simp only [h9] at hK ⊢
        clear h9
        have HK := Lib.hid hK
        clear hK
        refine wpList_guard_no (by rfl) ?_
        refine HK.out _ _ (Below.refl _ _) ?_
        rfl
      · intro vv W K hB hd hK
        simp only [confRules] at hd hK
        obtain ⟨h10, h9⟩ := hd
        simp only [h10, h9] at hK ⊢
        clear h10 h9
        have HK := Lib.hid hK
        clear hK
        refine wpList_guard_no (by rfl) ?_
        refine HK.out _ _ (Below.refl _ _) ?_
        rfl
      · intro vv W K hB hd hK
        simp only [confRules] at hd hK
        obtain ⟨h11, h9⟩ := hd
        simp only [h11, h9] at hK ⊢
        clear h11 h9
        have HK := Lib.hid hK
        clear hK
        refine wpList_guard_no (by rfl) ?_
        refine HK.out _ _ (Below.refl _ _) ?_
        rfl
      · intro vv W K hB hd hK
        simp only [confRules] at hd hK
        have h9 := hd
        clear hd
        simp only [h9] at hK ⊢
        clear h9
        have HK := Lib.hid hK
        clear hK
        refine wpList_guard_no (by rfl) ?_
        refine HK.out _ _ (Below.refl _ _) ?_
        rfl
      · intro vv W K hB hd hK
        simp only [confRules] at hd hK
        obtain ⟨h13, h9⟩ := hd
        simp only [h13, h9] at hK ⊢
        clear h13 h9
        have HK := Lib.hid hK
        clear hK
        refine wpList_guard_no (by rfl) ?_
        refine HK.out _ _ (Below.refl _ _) ?_
        rfl
      · intro vv W K hB hd hK
        simp only [confRules] at hd hK
        have h9 := hd
        clear hd
        simp only [h9] at hK ⊢
        clear h9
        have HK := Lib.hid hK
        clear hK
        refine wpList_guard_no (by rfl) ?_
        refine HK.out _ _ (Below.refl _ _) ?_
        rfl
      · intro vv W K hB hd hK
        simp only [confRules] at hd hK
        obtain ⟨h15, h9, _⟩ := hd
        simp only [h15, h9] at hK ⊢
        clear h15 h9
        have HK := Lib.hid hK
        clear hK
        refine wpList_guard_no (by rfl) ?_
        refine HK.out _ _ (Below.refl _ _) ?_
        rfl
      · intro vv W K hB hd hK
        simp only [confRules] at hd hK
        obtain ⟨h14, h16, h9⟩ := hd
        simp only [h14, h16, h9] at hK ⊢
        clear h14 h16 h9
        have HK := Lib.hid hK
        clear hK
        refine wpList_guard_no (by rfl) ?_
        refine HK.out _ _ (Below.refl _ _) ?_
        rfl
      · intro vv W K hB hd hK
        simp only [confRules] at hd hK
        obtain ⟨h12, h17, h9⟩ := hd
        simp only [h12, h17, h9] at hK ⊢
        clear h12 h17 h9
        have HK := Lib.hid hK
        clear hK
        refine wpList_guard_no (by rfl) ?_
        refine HK.out _ _ (Below.refl _ _) ?_
        rfl
      · intro vv W K hB hd hK
        simp only [confRules] at hd hK
        obtain ⟨h9, h18⟩ := hd
        simp only [h9, h18] at hK ⊢
        clear h9 h18
        have HK := Lib.hid hK
        clear hK
        go_wp2
        refine HK.out _ _ (Below.refl _ _) ?_
        rfl
    case rbhend =>
      intro vv W hB hf
      have e19 := hf 19 (by decide)
      simp only [endRules] at e19
      simp only [e19, dropRules]
      clear hf e19
      go_wp2
      go_ret
      exact ⟨rfl, hB0.trans (hB.mono hB0.size)⟩
  · clear HR
    have HPB := Lib.hid (HPA.out rfl)
    have HSB := Lib.hid (HSE.out rfl)
    have HFF := Lib.hid HF
    have T1 := Lib.hid t1
    have T2 := Lib.hid t2
    have T3 := Lib.hid t3
    clear HPA HSE HF t1 t2 t3
    refine wp_region_conf 20 [Fact.eq ?rcx0, Fact.eq ?rcx1, Fact.eq ?rcx2, Fact.eq ?rcx3, Fact.eq ?rcx4, Fact.eq ?rcx5, Fact.eq ?rcx6, Fact.eq ?rcx7, Fact.eq ?rcx8, Fact.eq ?rcx9, Fact.eq ?rcx10, Fact.eq ?rcx11, Fact.eq ?rcx12, Fact.eq ?rcx13, Fact.eq ?rcx14, Fact.eq ?rcx15, Fact.eq ?rcx16, Fact.eq ?rcx17, Fact.eq ?rcx18, Fact.eq ?rcx19] ?rcA (by kernel_rfl) (by kernel_rfl) ?rchA ?rcho ?rchend
    case rchA =>
      intro vv
      simp only [putRules, Nat.reduceAdd]
      rfl
    case rcho =>
      refine ⟨?_, ?_, ?_, ?_, ?_, ?_, ?_, ?_, ?_, ?_, ?_, ?_, ?_, ?_, ?_, ?_, ?_, ?_, ?_, ?_, trivial⟩
      · intro vv W K hB hd hK
        simp only [confRules] at hK
        have HK := Lib.hid hK
        clear hK hd
        obtain ⟨k0, k1, k2, k3, k4, k5⟩ := geo_keep hB z0 HC.out
        go_wp2
        refine HK.out _ _ (Below.refl _ _) ?_
        rfl
      · intro vv W K hB hd hK
        simp only [confRules] at hd hK
        have h0 := hd
        clear hd
        simp only [h0] at hK ⊢
        clear h0
        have HK := Lib.hid hK
        clear hK
        go_wp2_with (go_at_call 45; refine (HSM.out _).mono ?_; rintro e w9 ⟨rfl, hB9⟩)
        refine HK.out _ _ hB9 ?_
        rfl
      · intro vv W K hB hd hK
        simp only [confRules] at hd hK
        obtain ⟨h1, _⟩ := hd
        simp only [h1] at hK ⊢
        clear h1
        have HK := Lib.hid hK
        clear hK
        go_wp2
        refine HK.out _ _ (Below.refl _ _) ?_
        rfl
      · intro vv W K hB hd hK
        simp only [confRules] at hd hK
        have h2 := hd
        clear hd
        simp only [h2] at hK ⊢
        clear h2
        have HK := Lib.hid hK
        clear hK
        refine wpList_guard_yes (by rfl) ?_
        obtain ⟨k0, k1, k2, k3, k4, k5⟩ := geo_keep hB z0 HC.out
        go_wp2
        refine HK.out _ _ (Below.refl _ _) ?_
        rfl
      · intro vv W K hB hd hK
        simp only [confRules] at hd hK
        obtain ⟨h3, h2, _⟩ := hd
        simp only [h3, h2] at hK ⊢
        clear h3 h2
        have HK := Lib.hid hK
        clear hK
        refine wpList_guard_yes (by rfl) ?_
        go_wp2_with (go_at_call 46; refine (HPB.out _).mono ?_; rintro e w9 ⟨rfl, hB9⟩)
        refine HK.out _ _ hB9 ?_
        rfl
      · intro vv W K hB hd hK
        simp only [confRules] at hd hK
        have h2 := hd
        clear hd
        simp only [h2] at hK ⊢
        clear h2
        have HK := Lib.hid hK
        clear hK
        refine wpList_guard_yes (by rfl) ?_
        go_wp2
        refine HK.out _ _ (Below.refl _ _) ?_
        rfl
      · intro vv W K hB hd hK
        simp only [confRules] at hd hK
        obtain ⟨h5, h2⟩ := hd
        simp only [h5, h2] at hK ⊢
        clear h5 h2
        have HK := Lib.hid hK
        clear hK
        refine wpList_guard_yes (by rfl) ?_
        obtain ⟨k0, k1, k2, k3, k4, k5⟩ := geo_keep hB z0 HC.out
        go_wp2
        refine HK.out _ _ (Below.refl _ _) ?_
        rfl
      · intro vv W K hB hd hK
        simp only [confRules] at hd hK
        obtain ⟨h4, h6, h2⟩ := hd
        simp only [h4, h6, h2] at hK ⊢
        clear h4 h6 h2
        have HK := Lib.hid hK
        clear hK
        refine wpList_guard_yes (by rfl) ?_
        have t1 := T1.out
        go_wp2
        refine HK.out _ _ (Below.refl _ _) ?_
        rfl
      · intro vv W K hB hd hK
        simp only [confRules] at hd hK
        obtain ⟨h2, h7⟩ := hd
        simp only [h2, h7] at hK ⊢
        clear h2 h7
        have HK := Lib.hid hK
        clear hK
        go_wp2
        refine HK.out _ _ (Below.refl _ _) ?_
        rfl
      · intro vv W K hB hd hK
        simp only [confRules] at hd hK
        obtain ⟨h8, h4⟩ := hd
        simp only [h8, h4] at hK ⊢
        clear h8 h4
        have HK := Lib.hid hK
        clear hK
        go_wp2
        refine HK.out _ _ (Below.refl _ _) ?_
        rfl
      · intro vv W K hB hd hK
        simp only [confRules] at hd hK
        have h9 := hd
        clear hd
        simp only [h9] at hK ⊢
        clear h9
        have HK := Lib.hid hK
        clear hK
        refine wpList_guard_yes (by rfl) ?_
        go_wp2
        refine HK.out _ _ (Below.refl _ _) ?_
        rfl
      · intro vv W K hB hd hK
        simp only [confRules] at hd hK
        obtain ⟨h10, h9⟩ := hd
        simp only [h10, h9] at hK ⊢
        clear h10 h9
        have HK := Lib.hid hK
        clear hK
        refine wpList_guard_yes (by rfl) ?_
        obtain ⟨k0, k1, k2, k3, k4, k5⟩ := geo_keep hB z0 HC.out
        go_wp2
        refine HK.out _ _ (Below.refl _ _) ?_
        rfl
      · intro vv W K hB hd hK
        simp only [confRules] at hd hK
        obtain ⟨h11, h9⟩ := hd
        simp only [h11, h9] at hK ⊢
        clear h11 h9
        have HK := Lib.hid hK
        clear hK
        refine wpList_guard_yes (by rfl) ?_
        have t2 := T2.out
        go_wp2
        refine HK.out _ _ (Below.refl _ _) ?_
        rfl
      · intro vv W K hB hd hK
        simp only [confRules] at hd hK
        have h9 := hd
        clear hd
        simp only [h9] at hK ⊢
        clear h9
        have HK := Lib.hid hK
        clear hK
        refine wpList_guard_yes (by rfl) ?_
        go_wp2
        refine HK.out _ _ (Below.refl _ _) ?_
        rfl
      · intro vv W K hB hd hK
        simp only [confRules] at hd hK
        obtain ⟨h13, h9⟩ := hd
        simp only [h13, h9] at hK ⊢
        clear h13 h9
        have HK := Lib.hid hK
        clear hK
        refine wpList_guard_yes (by rfl) ?_
        obtain ⟨k0, k1, k2, k3, k4, k5⟩ := geo_keep hB z0 HC.out
        go_wp2
        refine HK.out _ _ (Below.refl _ _) ?_
        rfl
      · intro vv W K hB hd hK
        simp only [confRules] at hd hK
        have h9 := hd
        clear hd
        simp only [h9] at hK ⊢
        clear h9
        have HK := Lib.hid hK
        clear hK
        refine wpList_guard_yes (by rfl) ?_
        obtain ⟨k0, k1, k2, k3, k4, k5⟩ := geo_keep hB z0 HC.out
        go_wp2
        refine HK.out _ _ (Below.refl _ _) ?_
        rfl
      · intro vv W K hB hd hK
        simp only [confRules] at hd hK
        obtain ⟨h15, h9, _⟩ := hd
        simp only [h15, h9] at hK ⊢
        clear h15 h9
        have HK := Lib.hid hK
        clear hK
        refine wpList_guard_yes (by rfl) ?_
        go_wp2_with (go_at_call 47; refine (HSB.out _).mono ?_; rintro e w9 ⟨rfl, hB9⟩)
        refine HK.out _ _ hB9 ?_
        rfl
      · intro vv W K hB hd hK
        simp only [confRules] at hd hK
        obtain ⟨h14, h16, h9⟩ := hd
        simp only [h14, h16, h9] at hK ⊢
        clear h14 h16 h9
        have HK := Lib.hid hK
        clear hK
        refine wpList_guard_yes (by rfl) ?_
        have t3 := T3.out
        go_wp2
        refine HK.out _ _ (Below.refl _ _) ?_
        rfl
      · intro vv W K hB hd hK
        simp only [confRules] at hd hK
        obtain ⟨h12, h17, h9⟩ := hd
        simp only [h12, h17, h9] at hK ⊢
        clear h12 h17 h9
        have HK := Lib.hid hK
        clear hK
        refine wpList_guard_yes (by rfl) ?_
        go_wp2
        refine HK.out _ _ (Below.refl _ _) ?_
        rfl
      · intro vv W K hB hd hK
        simp only [confRules] at hd hK
        obtain ⟨h9, h18⟩ := hd
        simp only [h9, h18] at hK ⊢
        clear h9 h18
        have HK := Lib.hid hK
        clear hK
        go_wp2
        refine HK.out _ _ (Below.refl _ _) ?_
        rfl
    case rchend =>
      intro vv W hB hf
      have e19 := hf 19 (by decide)
      simp only [endRules] at e19
      simp only [e19, dropRules]
      clear hf e19
      go_wp2
      go_ret
      exact ⟨by rw [HFF.out]; rfl, hB0.trans (hB.mono hB0.size)⟩
theorem gright_any (g : Geo.G) (w : World) :
    Calls Try.prog 29 #[.agg (GC g)] w fun e w' => e = .returned (.bool (Geo.right g)) ∧ Below w.heap.size w w' := by
  refine gright_core g (Geo.small g) (Geo.parts g) (Geo.segs g) _ w (fun W => gsmall_any g W) (fun h W => gparts_any g W ((Geo.small_iff g).1 h)) (fun h W => gsegs_any g W ((Geo.small_iff g).1 h)) ?_
  cases hs : Geo.small g
  · exact .inl ⟨rfl, by simp [Geo.right, hs]⟩
  · have hS := (Geo.small_iff g).1 hs
    have h1 := Geo.ss_bd hS
    have h2 := hS.2.2.2.1
    cases hp : decide (Geo.parts g ≤ g.s)
    · exact .inr (.inl ⟨rfl, rfl, by simp [Geo.right, hs, hp]⟩)
    · exact .inr (.inr ⟨rfl, rfl, IntWalk.i64_in _ (by omega), IntWalk.i64_in _ (by omega), by simp [Geo.right, hs, hp]⟩)
end Go.Proofs.Ytogijlpclceanaa
