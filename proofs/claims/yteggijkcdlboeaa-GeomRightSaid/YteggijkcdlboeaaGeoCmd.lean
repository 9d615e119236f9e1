/- Proved here: contracts of the geometry's Commands and Passes. -/
import Derived.Test.YteggijkcdlboeaaGeoRight
namespace Geo
theorem rng {a b x y : Int} (h0 : 0 ≤ a) (h1 : a ≤ x) (h2 : 0 ≤ b) (h3 : b ≤ y) : 0 ≤ a * b ∧ a * b ≤ x * y :=
  ⟨Int.mul_nonneg h0 h2, Int.le_trans (Int.mul_le_mul_of_nonneg_right h1 h2) (Int.mul_le_mul_of_nonneg_left h3 (Int.le_trans h0 h1))⟩
end Geo
namespace Go.Proofs.Yteggijkcdlboeaa
open Go.RowKit Go.Rv
set_option linter.unusedVariables false
set_option maxRecDepth 100000 in
set_option maxHeartbeats 1000000 in
theorem gpasses_any (g : Geo.G) (w : World) (h : Geo.Small g) :
    Calls Try.prog 20 #[.agg (GC g)] w fun e w' => e = .returned (.int .i64 (Geo.passes g)) ∧ Below w.heap.size w w' := by
  have hg := heap_alloc_new w (.cells (GC g) 23)
  obtain ⟨c0, c1, c2, c3, c4, c5⟩ := geo_cells hg
  have hB : Below w.heap.size w (w.alloc (.cells (GC g) 23)) := (Below.refl _ _).alloc (Nat.le_refl _) _
  have hd := Geo.dp_bd h
  obtain ⟨-, -, -, hb, -, -⟩ := h
  have hm := Geo.rng (a := g.d * g.p + 3) (b := g.b + 3) (x := 35) (y := 259) (by omega) (by omega) (by omega) (by omega)
  generalize GC g = C at *
  clear hg
  go_enter Try.func20, Try.ntmps20
  go_wp2
  go_ret
  exact ⟨rfl, hB⟩
set_option maxRecDepth 100000 in
set_option maxHeartbeats 2000000 in
theorem gcommands_any (g : Geo.G) (w : World) (h : Geo.Small g) :
    Calls Try.prog 19 #[.agg (GC g)] w fun e w' => e = .returned (.int .i64 (Geo.commands g)) ∧ Below w.heap.size w w' := by
  have hg := heap_alloc_new w (.cells (GC g) 23)
  obtain ⟨c0, c1, c2, c3, c4, c5⟩ := geo_cells hg
  have hB := (Below.refl w.heap.size w).alloc (Nat.le_refl _) (.cells (GC g) 23)
  have z0 : (w.alloc (.cells (GC g) 23)).heap.size = w.heap.size + 1 := by simp
  have HA := Lib.hid (fun W => gall_any g W h)
  have HP := Lib.hid (fun W => gparts_any g W h)
  have HE : Hid (Geo.commands g = 64 * (g.d * g.z + 2) * (g.d * g.z + 2) * (g.s + 2) * (g.b + g.s + Geo.parts g + 4)) := Lib.hid rfl
  have hd := Geo.dz_bd h
  have hpa : 1 ≤ Geo.parts g ∧ Geo.parts g ≤ 129 := by obtain ⟨-, -, -, hb, -, -⟩ := h; unfold Geo.parts; omega
  obtain ⟨-, -, hs, hb, -, -⟩ := h
  generalize Geo.parts g = pa at *
  generalize g.d * g.z = dz at *
  obtain ⟨n, hn⟩ : ∃ n, dz + 2 = n := ⟨_, rfl⟩
  have hn1 : 5 ≤ n := by omega
  have hn2 : n ≤ 514 := by omega
  have hm2 := Geo.rng (a := 64 * n) (b := n) (x := 32896) (y := 514) (by omega) (by omega) (by omega) (by omega)
  have hm3 := Geo.rng (a := 64 * n * n) (b := g.s + 2) (x := 16908544) (y := 66) (by omega) (by omega) (by omega) (by omega)
  have hm4 := Geo.rng (a := 64 * n * n * (g.s + 2)) (b := g.b + g.s + pa + 4) (x := 1115963904) (y := 453) (by omega) (by omega) (by omega) (by omega)
  rw [hn] at HE
  have HN := Lib.hid hn
  clear hn hg
  go_enter Try.func19, Try.ntmps19
  go_wp2_with fail
  refine (HA.out _).mono ?_
  rintro e w1 ⟨rfl, hB1⟩
  have hB1' := hB.trans (hB1.mono hB.size)
  have hz1 : w.heap.size < w1.heap.size := by have := hB1.size; omega
  have HC := Lib.hid (geo_keep hB1 (by omega) ⟨c0, c1, c2, c3, c4, c5⟩)
  clear c0 c1 c2 c3 c4 c5 hB hB1
  go_wp2_with fail
  rw [HN.out]
  clear HN
  refine wp_region_conf 18 [Fact.eq ?rax0, Fact.eq ?rax1, Fact.eq ?rax2, Fact.eq ?rax3, Fact.eq ?rax4, Fact.eq ?rax5, Fact.eq ?rax6, Fact.eq ?rax7, Fact.eq ?rax8, Fact.eq ?rax9, Fact.eq ?rax10, Fact.eq ?rax11, Fact.eq ?rax12, Fact.eq ?rax13, Fact.eq ?rax14, Fact.eq ?rax15, Fact.eq ?rax16, Fact.eq ?rax17] ?raA (by kernel_rfl) (by kernel_rfl) ?rahA ?raho ?rahend
  case rahA =>
    intro vv
    simp only [putRules, Nat.reduceAdd]
    rfl
  case raho =>
    refine ⟨?_, ?_, ?_, ?_, ?_, ?_, ?_, ?_, ?_, ?_, ?_, ?_, ?_, ?_, ?_, ?_, ?_, ?_, trivial⟩
    · intro vv W K hB hd hK
      simp only [confRules] at hK
      have HK := Lib.hid hK
      clear hK hd
      go_wp2
      refine HK.out _ _ (Below.refl _ _) ?_
      rfl
    · intro vv W K hB hd hK
      simp only [confRules] at hd hK
      have h0 := hd
      clear hd
      simp only [h0] at hK ⊢
      clear h0
      have HK := Lib.hid hK
      clear hK
      go_wp2
      refine HK.out _ _ (Below.refl _ _) ?_
      rfl
    · intro vv W K hB hd hK
      simp only [confRules] at hK
      have HK := Lib.hid hK
      clear hK hd
      go_wp2
      refine HK.out _ _ (Below.refl _ _) ?_
      rfl
    · intro vv W K hB hd hK
      simp only [confRules] at hd hK
      obtain ⟨h1, h2⟩ := hd
      simp only [h1, h2] at hK ⊢
      clear h1 h2
      have HK := Lib.hid hK
      clear hK
      go_wp2
      refine HK.out _ _ (Below.refl _ _) ?_
      rfl
    · intro vv W K hB hd hK
      simp only [confRules] at hK
      have HK := Lib.hid hK
      clear hK hd
      go_wp2
      refine HK.out _ _ (Below.refl _ _) ?_
      rfl
    · intro vv W K hB hd hK
      simp only [confRules] at hd hK
      have h4 := hd
      clear hd
      simp only [h4] at hK ⊢
      clear h4
      have HK := Lib.hid hK
      clear hK
      obtain ⟨k0, k1, k2, k3, k4, k5⟩ := geo_keep hB hz1 HC.out
      go_wp2
      refine HK.out _ _ (Below.refl _ _) ?_
      rfl
    · intro vv W K hB hd hK
      simp only [confRules] at hd hK
      have h5 := hd
      clear hd
      simp only [h5] at hK ⊢
      clear h5
      have HK := Lib.hid hK
      clear hK
      go_wp2
      refine HK.out _ _ (Below.refl _ _) ?_
      rfl
    · intro vv W K hB hd hK
      simp only [confRules] at hd hK
      obtain ⟨h3, h6⟩ := hd
      simp only [h3, h6] at hK ⊢
      clear h3 h6
      have HK := Lib.hid hK
      clear hK
      go_wp2
      refine HK.out _ _ (Below.refl _ _) ?_
      rfl
    · intro vv W K hB hd hK
      simp only [confRules] at hK
      have HK := Lib.hid hK
      clear hK hd
      go_wp2
      refine HK.out _ _ (Below.refl _ _) ?_
      rfl
    · intro vv W K hB hd hK
      simp only [confRules] at hd hK
      have h8 := hd
      clear hd
      simp only [h8] at hK ⊢
      clear h8
      have HK := Lib.hid hK
      clear hK
      obtain ⟨k0, k1, k2, k3, k4, k5⟩ := geo_keep hB hz1 HC.out
      go_wp2
      refine HK.out _ _ (Below.refl _ _) ?_
      rfl
    · intro vv W K hB hd hK
      simp only [confRules] at hK
      have HK := Lib.hid hK
      clear hK hd
      go_wp2
      refine HK.out _ _ (Below.refl _ _) ?_
      rfl
    · intro vv W K hB hd hK
      simp only [confRules] at hd hK
      have h10 := hd
      clear hd
      simp only [h10] at hK ⊢
      clear h10
      have HK := Lib.hid hK
      clear hK
      obtain ⟨k0, k1, k2, k3, k4, k5⟩ := geo_keep hB hz1 HC.out
      go_wp2
      refine HK.out _ _ (Below.refl _ _) ?_
      rfl
    · intro vv W K hB hd hK
      simp only [confRules] at hd hK
      obtain ⟨h9, h11⟩ := hd
      simp only [h9, h11] at hK ⊢
      clear h9 h11
      have HK := Lib.hid hK
      clear hK
      go_wp2
      refine HK.out _ _ (Below.refl _ _) ?_
      rfl
    · intro vv W K hB hd hK
      simp only [confRules] at hK
      have HK := Lib.hid hK
      clear hK hd
      obtain ⟨k0, k1, k2, k3, k4, k5⟩ := geo_keep hB hz1 HC.out
      go_wp2
      refine HK.out _ _ (Below.refl _ _) ?_
      rfl
    · intro vv W K hB hd hK
      simp only [confRules] at hd hK
      have h13 := hd
      clear hd
      simp only [h13] at hK ⊢
      clear h13
      have HK := Lib.hid hK
      clear hK
      go_wp2_with (refine (HP.out _).mono ?_; rintro e w9 ⟨rfl, hB9⟩)
      refine HK.out _ _ hB9 ?_
      rfl
    · intro vv W K hB hd hK
      simp only [confRules] at hd hK
      obtain ⟨h12, h14⟩ := hd
      simp only [h12, h14] at hK ⊢
      clear h12 h14
      have HK := Lib.hid hK
      clear hK
      go_wp2
      refine HK.out _ _ (Below.refl _ _) ?_
      rfl
    · intro vv W K hB hd hK
      simp only [confRules] at hd hK
      have h15 := hd
      clear hd
      simp only [h15] at hK ⊢
      clear h15
      have HK := Lib.hid hK
      clear hK
      go_wp2
      refine HK.out _ _ (Below.refl _ _) ?_
      rfl
    · intro vv W K hB hd hK
      simp only [confRules] at hd hK
      obtain ⟨h7, h16⟩ := hd
      simp only [h7, h16] at hK ⊢
      clear h7 h16
      have HK := Lib.hid hK
      clear hK
      go_wp2
      refine HK.out _ _ (Below.refl _ _) ?_
      rfl
  case rahend =>
    intro vv W hB hf
    have e17 := hf 17 (by decide)
    simp only [endRules] at e17
    simp only [e17, dropRules]
    clear hf e17
    go_wp2
    go_ret
    exact ⟨by rw [HE.out]; rfl, hB1'.trans (hB.mono hB1'.size)⟩
end Go.Proofs.Yteggijkcdlboeaa
