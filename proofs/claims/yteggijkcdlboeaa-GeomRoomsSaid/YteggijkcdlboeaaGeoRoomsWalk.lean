/- Proved here: the walk of the law on a geometry's rooms. -/
import Derived.Test.YteggijkcdlboeaaGeoAnchor
import Derived.Test.YteggijkcdlboeaaGeoCmd
namespace Go.Proofs.Yteggijkcdlboeaa
open Go.RowKit Go.Rv
set_option linter.unusedVariables false
set_option maxRecDepth 100000 in
set_option maxHeartbeats 8000000 in
theorem geo_rooms_walk (g : Geo.G) (w : World) :
    Calls Try.prog 5 #[.agg (GC g)] w fun e w' => e = .returned (.bool true) ∧ Below w.heap.size w w' := by
  have HA := Lib.hid (fun W => geo_anchor W)
  have HR := Lib.hid (fun W => gright_any g W)
  have hB0 := (Below.refl w.heap.size w).alloc (Nat.le_refl _) (.cells (GC g) 23)
  have hG0 := heap_alloc_new w (.cells (GC g) 23)
  obtain ⟨r, hr⟩ : ∃ r, Geo.right g = r := ⟨_, rfl⟩
  rw [hr] at HR
  have HRR := Lib.hid hr
  clear hr
  go_enter Try.func5, Try.ntmps5
  go_wp2_with fail
  refine (HA.out _).mono ?_
  rintro e w1 ⟨rfl, hB1⟩
  have hG1 := Lib.hid ((hB1.block w.heap.size (by simp)).trans hG0)
  have hBB1 := hB0.trans (hB1.mono hB0.size)
  have z1 := hB1.size
  rw [World.size_alloc] at z1
  clear hG0 hB1 hB0
  obtain ⟨c0, c1, c2, c3, c4, c5⟩ := geo_cells hG1.out
  go_wp2_with fail
  refine (HR.out _).mono ?_
  rintro e w2 ⟨rfl, hB2⟩
  have hG2 := (hB2.block w.heap.size (by omega)).trans hG1.out
  have hBB2 := hBB1.trans (hB2.mono hBB1.size)
  have z2 := hB2.size
  clear c0 c1 c2 c3 c4 c5 hG1 hBB1 hB2 HA
  have HC := Lib.hid (geo_cells hG2)
  have hz2 : w.heap.size < w2.heap.size := by omega
  cases r
  · go_wp2
    go_ret
    exact ⟨rfl, hBB2⟩
  · go_wp2_with fail
    have hS := ((Geo.right_iff g).1 HRR.out).1
    have hrp := ((Geo.right_iff g).1 HRR.out).2.1
    have hrs := ((Geo.right_iff g).1 HRR.out).2.2
    have h1 := Geo.segs_pos HRR.out
    have h1' := Geo.segs_bd hS
    have h2 := Geo.zones_more HRR.out
    have h3 := Geo.commands_pos hS
    have h4 := Geo.passes_ge hS
    have h5 := Geo.ss_bd hS
    have HSE := Lib.hid (fun W => gsegs_any g W hS)
    have HPA := Lib.hid (fun W => gparts_any g W hS)
    have HCM := Lib.hid (fun W => gcommands_any g W hS)
    have HPS := Lib.hid (fun W => gpasses_any g W hS)
    obtain ⟨h6, h7, h8, h9, h10, h11⟩ := hS
    generalize Geo.segs g = se at *
    generalize Geo.parts g = pa at *
    generalize Geo.commands g = cm at *
    generalize Geo.passes g = ps at *
    clear HR HRR hG2
    refine wp_region_conf 43 [Fact.eq ?rax0, Fact.eq ?rax1, Fact.eq ?rax2, Fact.eq ?rax3, Fact.eq ?rax4, Fact.eq ?rax5, Fact.eq ?rax6, Fact.eq ?rax7, Fact.eq ?rax8, Fact.eq ?rax9, Fact.eq ?rax10, Fact.eq ?rax11, Fact.eq ?rax12, Fact.eq ?rax13, Fact.eq ?rax14, Fact.eq ?rax15, Fact.eq ?rax16, Fact.eq ?rax17, Fact.eq ?rax18, Fact.eq ?rax19, Fact.eq ?rax20, Fact.eq ?rax21, Fact.eq ?rax22, Fact.eq ?rax23, Fact.eq ?rax24, Fact.eq ?rax25, Fact.eq ?rax26, Fact.eq ?rax27, Fact.eq ?rax28, Fact.eq ?rax29, Fact.eq ?rax30, Fact.eq ?rax31, Fact.eq ?rax32, Fact.eq ?rax33, Fact.eq ?rax34, Fact.eq ?rax35, Fact.eq ?rax36, Fact.eq ?rax37, Fact.eq ?rax38, Fact.eq ?rax39, Fact.eq ?rax40, Fact.eq ?rax41, Fact.eq ?rax42] ?raA (by kernel_rfl) (by kernel_rfl) ?rahA ?raho ?rahend
    case rahA =>
      intro vv
      simp only [putRules, Nat.reduceAdd]
      rfl
    case raho =>
      refine ⟨?_, ?_, ?_, ?_, ?_, ?_, ?_, ?_, ?_, ?_, ?_, ?_, ?_, ?_, ?_, ?_, ?_, ?_, ?_, ?_, ?_, ?_, ?_, ?_, ?_, ?_, ?_, ?_, ?_, ?_, ?_, ?_, ?_, ?_, ?_, ?_, ?_, ?_, ?_, ?_, ?_, ?_, ?_, trivial⟩
      · intro vv W K hB hd hK
        simp only [confRules] at hK
        have HK := Lib.hid hK
        clear hK hd
        go_wp2
        refine HK.out _ _ (Below.refl _ _) ?_
        rfl
      · intro vv W K hB hd hK
        simp only [confRules] at hd hK
        have h0 := hd
        clear hd
        simp only [h0] at hK ⊢
        clear h0
        have HK := Lib.hid hK
        clear hK
        obtain ⟨k0, k1, k2, k3, k4, k5⟩ := geo_keep hB hz2 HC.out
        go_wp2
        refine HK.out _ _ (Below.refl _ _) ?_
        rfl
      · intro vv W K hB hd hK
        simp only [confRules] at hd hK
        have h1 := hd
        clear hd
        simp only [h1] at hK ⊢
        clear h1
        have HK := Lib.hid hK
        clear hK
        go_wp2
        refine HK.out _ _ (Below.refl _ _) ?_
        rfl
      · intro vv W K hB hd hK
        simp only [confRules] at hK
        have HK := Lib.hid hK
        clear hK hd
        go_wp2
        refine HK.out _ _ (Below.refl _ _) ?_
        rfl
      · intro vv W K hB hd hK
        simp only [confRules] at hd hK
        have h3 := hd
        clear hd
        simp only [h3] at hK ⊢
        clear h3
        have HK := Lib.hid hK
        clear hK
        obtain ⟨k0, k1, k2, k3, k4, k5⟩ := geo_keep hB hz2 HC.out
        go_wp2
        refine HK.out _ _ (Below.refl _ _) ?_
        rfl
      · intro vv W K hB hd hK
        simp only [confRules] at hK
        have HK := Lib.hid hK
        clear hK hd
        obtain ⟨k0, k1, k2, k3, k4, k5⟩ := geo_keep hB hz2 HC.out
        go_wp2
        refine HK.out _ _ (Below.refl _ _) ?_
        rfl
      · intro vv W K hB hd hK
        simp only [confRules] at hd hK
        have h5 := hd
        clear hd
        simp only [h5] at hK ⊢
        clear h5
        have HK := Lib.hid hK
        clear hK
        go_wp2_with (refine (HSE.out _).mono ?_; rintro e w9 ⟨rfl, hB9⟩)
        refine HK.out _ _ hB9 ?_
        rfl
      · intro vv W K hB hd hK
        simp only [confRules] at hd hK
        obtain ⟨h4, h6⟩ := hd
        simp only [h4, h6] at hK ⊢
        clear h4 h6
        have HK := Lib.hid hK
        clear hK
        go_wp2
        refine HK.out _ _ (Below.refl _ _) ?_
        rfl
      · intro vv W K hB hd hK
        simp only [confRules] at hd hK
        obtain ⟨h2, h7⟩ := hd
        simp only [h2, h7] at hK ⊢
        clear h2 h7
        have HK := Lib.hid hK
        clear hK
        go_wp2
        refine HK.out _ _ (Below.refl _ _) ?_
        rfl
      · intro vv W K hB hd hK
        simp only [confRules] at hd hK
        obtain ⟨h8, h6⟩ := hd
        simp only [h8, h6] at hK ⊢
        clear h8 h6
        have HK := Lib.hid hK
        clear hK
        go_wp2
        refine HK.out _ _ (Below.refl _ _) ?_
        rfl
      · intro vv W K hB hd hK
        simp only [confRules] at hd hK
        have h9 := hd
        clear hd
        simp only [h9] at hK ⊢
        clear h9
        have HK := Lib.hid hK
        clear hK
        refine wpList_guard_yes (by rfl) ?_
        obtain ⟨k0, k1, k2, k3, k4, k5⟩ := geo_keep hB hz2 HC.out
        go_wp2
        refine HK.out _ _ (Below.refl _ _) ?_
        rfl
      · intro vv W K hB hd hK
        simp only [confRules] at hd hK
        obtain ⟨h10, h9, _⟩ := hd
        simp only [h10, h9] at hK ⊢
        clear h10 h9
        have HK := Lib.hid hK
        clear hK
        refine wpList_guard_yes (by rfl) ?_
        go_wp2_with (refine (HPA.out _).mono ?_; rintro e w9 ⟨rfl, hB9⟩)
        refine HK.out _ _ hB9 ?_
        rfl
      · intro vv W K hB hd hK
        simp only [confRules] at hd hK
        have h9 := hd
        clear hd
        simp only [h9] at hK ⊢
        clear h9
        have HK := Lib.hid hK
        clear hK
        refine wpList_guard_yes (by rfl) ?_
        go_wp2
        refine HK.out _ _ (Below.refl _ _) ?_
        rfl
      · intro vv W K hB hd hK
        simp only [confRules] at hd hK
        obtain ⟨h12, h9⟩ := hd
        simp only [h12, h9] at hK ⊢
        clear h12 h9
        have HK := Lib.hid hK
        clear hK
        refine wpList_guard_yes (by rfl) ?_
        obtain ⟨k0, k1, k2, k3, k4, k5⟩ := geo_keep hB hz2 HC.out
        go_wp2
        refine HK.out _ _ (Below.refl _ _) ?_
        rfl
      · intro vv W K hB hd hK
        simp only [confRules] at hd hK
        obtain ⟨h11, h13, h9⟩ := hd
        simp only [h11, h13, h9] at hK ⊢
        clear h11 h13 h9
        have HK := Lib.hid hK
        clear hK
        refine wpList_guard_yes (by rfl) ?_
        go_wp2
        refine HK.out _ _ (Below.refl _ _) ?_
        rfl
      · intro vv W K hB hd hK
        simp only [confRules] at hd hK
        obtain ⟨h9, h14⟩ := hd
        simp only [h9, h14] at hK ⊢
        clear h9 h14
        have HK := Lib.hid hK
        clear hK
        go_wp2
        refine HK.out _ _ (Below.refl _ _) ?_
        rfl
      · intro vv W K hB hd hK
        simp only [confRules] at hd hK
        obtain ⟨h15, h11⟩ := hd
        simp only [h15, h11] at hK ⊢
        clear h15 h11
        have HK := Lib.hid hK
        clear hK
        go_wp2
        refine HK.out _ _ (Below.refl _ _) ?_
        rfl
      · intro vv W K hB hd hK
        simp only [confRules] at hd hK
        have h16 := hd
        clear hd
        simp only [h16] at hK ⊢
        clear h16
        have HK := Lib.hid hK
        clear hK
        refine wpList_guard_yes (by rfl) ?_
        go_wp2
        refine HK.out _ _ (Below.refl _ _) ?_
        rfl
      · intro vv W K hB hd hK
        simp only [confRules] at hd hK
        obtain ⟨h17, h16⟩ := hd
        simp only [h17, h16] at hK ⊢
        clear h17 h16
        have HK := Lib.hid hK
        clear hK
        refine wpList_guard_yes (by rfl) ?_
        obtain ⟨k0, k1, k2, k3, k4, k5⟩ := geo_keep hB hz2 HC.out
        go_wp2
        refine HK.out _ _ (Below.refl _ _) ?_
        rfl
      · intro vv W K hB hd hK
        simp only [confRules] at hd hK
        have h16 := hd
        clear hd
        simp only [h16] at hK ⊢
        clear h16
        have HK := Lib.hid hK
        clear hK
        refine wpList_guard_yes (by rfl) ?_
        go_wp2
        refine HK.out _ _ (Below.refl _ _) ?_
        rfl
      · intro vv W K hB hd hK
        simp only [confRules] at hd hK
        obtain ⟨h19, h16⟩ := hd
        simp only [h19, h16] at hK ⊢
        clear h19 h16
        have HK := Lib.hid hK
        clear hK
        refine wpList_guard_yes (by rfl) ?_
        obtain ⟨k0, k1, k2, k3, k4, k5⟩ := geo_keep hB hz2 HC.out
        go_wp2
        refine HK.out _ _ (Below.refl _ _) ?_
        rfl
      · intro vv W K hB hd hK
        simp only [confRules] at hd hK
        obtain ⟨h20, h16⟩ := hd
        simp only [h20, h16] at hK ⊢
        clear h20 h16
        have HK := Lib.hid hK
        clear hK
        refine wpList_guard_yes (by rfl) ?_
        go_wp2
        refine HK.out _ _ (Below.refl _ _) ?_
        rfl
      · intro vv W K hB hd hK
        simp only [confRules] at hd hK
        obtain ⟨h18, h21, h16⟩ := hd
        simp only [h18, h21, h16] at hK ⊢
        clear h18 h21 h16
        have HK := Lib.hid hK
        clear hK
        refine wpList_guard_yes (by rfl) ?_
        go_wp2
        refine HK.out _ _ (Below.refl _ _) ?_
        rfl
      · intro vv W K hB hd hK
        simp only [confRules] at hd hK
        obtain ⟨h16, h22⟩ := hd
        simp only [h16, h22] at hK ⊢
        clear h16 h22
        have HK := Lib.hid hK
        clear hK
        go_wp2
        refine HK.out _ _ (Below.refl _ _) ?_
        rfl
      · intro vv W K hB hd hK
        simp only [confRules] at hd hK
        obtain ⟨h23, h16⟩ := hd
        simp only [h23, h16] at hK ⊢
        clear h23 h16
        have HK := Lib.hid hK
        clear hK
        go_wp2
        refine HK.out _ _ (Below.refl _ _) ?_
        rfl
      · intro vv W K hB hd hK
        simp only [confRules] at hd hK
        have h24 := hd
        clear hd
        simp only [h24] at hK ⊢
        clear h24
        have HK := Lib.hid hK
        clear hK
        refine wpList_guard_yes (by rfl) ?_
        obtain ⟨k0, k1, k2, k3, k4, k5⟩ := geo_keep hB hz2 HC.out
        go_wp2
        refine HK.out _ _ (Below.refl _ _) ?_
        rfl
      · intro vv W K hB hd hK
        simp only [confRules] at hd hK
        obtain ⟨h25, h24, _⟩ := hd
        simp only [h25, h24] at hK ⊢
        clear h25 h24
        have HK := Lib.hid hK
        clear hK
        refine wpList_guard_yes (by rfl) ?_
        go_wp2_with (refine (HSE.out _).mono ?_; rintro e w9 ⟨rfl, hB9⟩)
        refine HK.out _ _ hB9 ?_
        rfl
      · intro vv W K hB hd hK
        simp only [confRules] at hd hK
        obtain ⟨h26, h24⟩ := hd
        simp only [h26, h24] at hK ⊢
        clear h26 h24
        have HK := Lib.hid hK
        clear hK
        refine wpList_guard_yes (by rfl) ?_
        go_wp2
        refine HK.out _ _ (Below.refl _ _) ?_
        rfl
      · intro vv W K hB hd hK
        simp only [confRules] at hd hK
        obtain ⟨h24, h27⟩ := hd
        simp only [h24, h27] at hK ⊢
        clear h24 h27
        have HK := Lib.hid hK
        clear hK
        go_wp2
        refine HK.out _ _ (Below.refl _ _) ?_
        rfl
      · intro vv W K hB hd hK
        simp only [confRules] at hd hK
        obtain ⟨h28, h26⟩ := hd
        simp only [h28, h26] at hK ⊢
        clear h28 h26
        have HK := Lib.hid hK
        clear hK
        go_wp2
        refine HK.out _ _ (Below.refl _ _) ?_
        rfl
      · intro vv W K hB hd hK
        simp only [confRules] at hd hK
        have h29 := hd
        clear hd
        simp only [h29] at hK ⊢
        clear h29
        have HK := Lib.hid hK
        clear hK
        refine wpList_guard_yes (by rfl) ?_
        obtain ⟨k0, k1, k2, k3, k4, k5⟩ := geo_keep hB hz2 HC.out
        go_wp2
        refine HK.out _ _ (Below.refl _ _) ?_
        rfl
      · intro vv W K hB hd hK
        simp only [confRules] at hd hK
        obtain ⟨h30, h29, _⟩ := hd
        simp only [h30, h29] at hK ⊢
        clear h30 h29
        have HK := Lib.hid hK
        clear hK
        refine wpList_guard_yes (by rfl) ?_
        go_wp2_with (refine (HCM.out _).mono ?_; rintro e w9 ⟨rfl, hB9⟩)
        refine HK.out _ _ hB9 ?_
        rfl
      · intro vv W K hB hd hK
        simp only [confRules] at hd hK
        obtain ⟨h31, h29⟩ := hd
        simp only [h31, h29] at hK ⊢
        clear h31 h29
        have HK := Lib.hid hK
        clear hK
        refine wpList_guard_yes (by rfl) ?_
        go_wp2
        refine HK.out _ _ (Below.refl _ _) ?_
        rfl
      · intro vv W K hB hd hK
        simp only [confRules] at hd hK
        obtain ⟨h29, h32⟩ := hd
        simp only [h29, h32] at hK ⊢
        clear h29 h32
        have HK := Lib.hid hK
        clear hK
        go_wp2
        refine HK.out _ _ (Below.refl _ _) ?_
        rfl
      · intro vv W K hB hd hK
        simp only [confRules] at hd hK
        obtain ⟨h33, h31⟩ := hd
        simp only [h33, h31] at hK ⊢
        clear h33 h31
        have HK := Lib.hid hK
        clear hK
        go_wp2
        refine HK.out _ _ (Below.refl _ _) ?_
        rfl
      · intro vv W K hB hd hK
        simp only [confRules] at hd hK
        have h34 := hd
        clear hd
        simp only [h34] at hK ⊢
        clear h34
        have HK := Lib.hid hK
        clear hK
        refine wpList_guard_yes (by rfl) ?_
        obtain ⟨k0, k1, k2, k3, k4, k5⟩ := geo_keep hB hz2 HC.out
        go_wp2
        refine HK.out _ _ (Below.refl _ _) ?_
        rfl
      · intro vv W K hB hd hK
        simp only [confRules] at hd hK
        obtain ⟨h35, h34, _⟩ := hd
        simp only [h35, h34] at hK ⊢
        clear h35 h34
        have HK := Lib.hid hK
        clear hK
        refine wpList_guard_yes (by rfl) ?_
        go_wp2_with (refine (HPS.out _).mono ?_; rintro e w9 ⟨rfl, hB9⟩)
        refine HK.out _ _ hB9 ?_
        rfl
      · intro vv W K hB hd hK
        simp only [confRules] at hd hK
        have h34 := hd
        clear hd
        simp only [h34] at hK ⊢
        clear h34
        have HK := Lib.hid hK
        clear hK
        refine wpList_guard_yes (by rfl) ?_
        go_wp2
        refine HK.out _ _ (Below.refl _ _) ?_
        rfl
      · intro vv W K hB hd hK
        simp only [confRules] at hd hK
        obtain ⟨h37, h34⟩ := hd
        simp only [h37, h34] at hK ⊢
        clear h37 h34
        have HK := Lib.hid hK
        clear hK
        refine wpList_guard_yes (by rfl) ?_
        obtain ⟨k0, k1, k2, k3, k4, k5⟩ := geo_keep hB hz2 HC.out
        go_wp2
        refine HK.out _ _ (Below.refl _ _) ?_
        rfl
      · intro vv W K hB hd hK
        simp only [confRules] at hd hK
        obtain ⟨h38, h34⟩ := hd
        simp only [h38, h34] at hK ⊢
        clear h38 h34
        have HK := Lib.hid hK
        clear hK
        refine wpList_guard_yes (by rfl) ?_
        go_wp2
        refine HK.out _ _ (Below.refl _ _) ?_
        rfl
      · intro vv W K hB hd hK
        simp only [confRules] at hd hK
        obtain ⟨h39, h34⟩ := hd
        simp only [h39, h34] at hK ⊢
        clear h39 h34
        have HK := Lib.hid hK
        clear hK
        refine wpList_guard_yes (by rfl) ?_
        go_wp2
        refine HK.out _ _ (Below.refl _ _) ?_
        rfl
      · intro vv W K hB hd hK
        simp only [confRules] at hd hK
        obtain ⟨h36, h40, h34⟩ := hd
        simp only [h36, h40, h34] at hK ⊢
        clear h36 h40 h34
        have HK := Lib.hid hK
        clear hK
        refine wpList_guard_yes (by rfl) ?_
        go_wp2
        refine HK.out _ _ (Below.refl _ _) ?_
        rfl
      · intro vv W K hB hd hK
        simp only [confRules] at hd hK
        obtain ⟨h34, h41⟩ := hd
        simp only [h34, h41] at hK ⊢
        clear h34 h41
        have HK := Lib.hid hK
        clear hK
        go_wp2
        refine HK.out _ _ (Below.refl _ _) ?_
        rfl
    case rahend =>
      intro vv W hB hf
      have e42 := hf 42 (by decide)
      simp only [endRules] at e42
      simp only [e42, dropRules]
      clear hf e42
      go_wp2
      go_ret
      exact ⟨rfl, hBB2.trans (hB.mono hBB2.size)⟩
end Go.Proofs.Yteggijkcdlboeaa
