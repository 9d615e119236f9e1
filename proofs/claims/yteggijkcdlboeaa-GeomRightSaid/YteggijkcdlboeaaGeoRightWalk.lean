/- Proved here: the walk of the law on what geometries may be. -/
import Derived.Test.YteggijkcdlboeaaGeoAnchor
import Derived.Test.YteggijkcdlboeaaGeoCmd
import Derived.Test.YteggijkcdlboeaaGeoRefRight
import Derived.Test.YteggijkcdlboeaaConf2
namespace Go.Proofs.Yteggijkcdlboeaa
open Go.RowKit Go.Rv
set_option linter.unusedVariables false
theorem ref_info : (Try.prog.info? 26).map (·.size) = some 6 := by kernel_rfl
set_option maxRecDepth 100000 in
set_option maxHeartbeats 8000000 in
theorem geo_right_walk (g : Geo.G) (w : World) :
    Calls Try.prog 4 #[.agg (GC g)] w fun e w' => e = .returned (.bool true) ∧ Below w.heap.size w w' := by
  have HA := Lib.hid (fun W => geo_anchor W)
  have HR := Lib.hid (fun W => gright_any g W)
  have HQ := Lib.hid (fun W => grefright_any g W)
  have hB0 := (Below.refl w.heap.size w).alloc (Nat.le_refl _) (.cells (GC g) 23)
  have hG0 := heap_alloc_new w (.cells (GC g) 23)
  obtain ⟨r, hr⟩ : ∃ r, Geo.right g = r := ⟨_, rfl⟩
  rw [hr] at HR HQ
  have HRR := Lib.hid hr
  clear hr
  go_enter Try.func4, Try.ntmps4
  go_wp2_with fail
  refine (HA.out _).mono ?_
  rintro e w1 ⟨rfl, hB1⟩
  have hG1 := Lib.hid ((hB1.block w.heap.size (by simp)).trans hG0)
  have hBB1 := hB0.trans (hB1.mono hB0.size)
  have z1 := hB1.size
  rw [World.size_alloc] at z1
  clear hG0 hB1 hB0
  obtain ⟨c0, c1, c2, c3, c4, c5⟩ := geo_cells hG1.out
  go_wp2_with fail
  have hB2 := hBB1.alloc hBB1.size (.cells (GC g) 26)
  have hG2 := (((Below.refl w1.heap.size w1).alloc (Nat.le_refl _) (.cells (GC g) 26)).block w.heap.size (by omega)).trans hG1.out
  have hM2 := heap_alloc_new w1 (.cells (GC g) 26)
  have z2 : (w1.alloc (.cells (GC g) 26)).heap.size = w1.heap.size + 1 := by simp
  change Code.wp _ _ _ _ (w1.alloc (.cells (GC g) 26))
  obtain ⟨W2, hW2⟩ : ∃ W2, w1.alloc (.cells (GC g) 26) = W2 := ⟨_, rfl⟩
  rw [hW2] at hB2 hG2 hM2 z2 ⊢
  obtain ⟨M, hM⟩ : ∃ M, w1.heap.size = M := ⟨_, rfl⟩
  rw [hM] at z1 z2 hM2 ⊢
  clear hW2 hM hG1 hBB1 c0 c1 c2 c3 c4 c5 HA
  have HC2 := Lib.hid (geo_cells hG2)
  have HD2 := Lib.hid (geo_cells hM2)
  have hn2 : w.heap.size < W2.heap.size := by omega
  have hm2 : M < W2.heap.size := by omega
  clear hG2 hM2
  cases r with
  | false =>
    refine wp_region_conf2 4 [Fact.eq ?rax0, Fact.eq ?rax1, Fact.eq ?rax2, Fact.eq ?rax3] ?raA (by kernel_rfl) (by kernel_rfl) ?rahA ?raho ?rahend
    case rahA =>
      intro vv
      simp only [putRules, Nat.reduceAdd]
      rfl
    case raho =>
      refine ⟨?_, ?_, ?_, ?_, trivial⟩
      · intro vv W K hB hd HK
        simp only [confRules] at HK
        clear hd
        obtain ⟨c0, c1, c2, c3, c4, c5⟩ := geo_keep hB hn2 HC2.out
        obtain ⟨m0, m1, m2, m3, m4, m5⟩ := geo_keep hB hm2 HD2.out
        go_wp2
        refine HK.out _ _ (Below.refl _ _) ?_
        rfl
      · intro vv W K hB hd HK
        simp only [confRules] at hd HK
        have h0 := hd
        clear hd
        simp only [h0] at HK ⊢
        clear h0
        go_wp2_with (refine (HR.out _).mono ?_; rintro e w9 ⟨rfl, hB9⟩)
        refine HK.out _ _ hB9 ?_
        rfl
      · intro vv W K hB hd HK
        simp only [confRules] at HK
        clear hd
        obtain ⟨c0, c1, c2, c3, c4, c5⟩ := geo_keep hB hn2 HC2.out
        obtain ⟨m0, m1, m2, m3, m4, m5⟩ := geo_keep hB hm2 HD2.out
        go_wp2
        refine HK.out _ _ (Below.refl _ _) ?_
        rfl
      · intro vv W K hB hd HK
        simp only [confRules] at hd HK
        obtain ⟨h2, h1⟩ := hd
        simp only [h2, h1] at HK ⊢
        clear h2 h1
        go_wp2_with (refine (HQ.out _).mono ?_; rintro e w9 ⟨rfl, hB9⟩)
        refine HK.out _ _ hB9 ?_
        rfl
    case rahend =>
      intro vv W hB hf
      have e1 := hf 1 (by decide)
      have e3 := hf 3 (by decide)
      simp only [endRules] at e1 e3
      simp only [e1, e3, dropRules]
      clear hf e1 e3
      have hB3 := hB2.trans (hB.mono hB2.size)
      have hn3 : w.heap.size < W.heap.size := Nat.lt_of_lt_of_le hn2 hB.size
      have hm3 : M < W.heap.size := Nat.lt_of_lt_of_le hm2 hB.size
      have HC3 := Lib.hid (geo_keep hB hn2 HC2.out)
      have HD3 := Lib.hid (geo_keep hB hm2 HD2.out)
      clear hB
      obtain ⟨c0, c1, c2, c3, c4, c5⟩ := HC3.out
      obtain ⟨m0, m1, m2, m3, m4, m5⟩ := HD3.out
      go_wp2_with fail
      refine (HQ.out _).mono ?_
      rintro e w4 ⟨rfl, hB⟩
      have hB4 := hB3.trans (hB.mono hB3.size)
      have hn4 : w.heap.size < w4.heap.size := Nat.lt_of_lt_of_le hn3 hB.size
      have hm4 : M < w4.heap.size := Nat.lt_of_lt_of_le hm3 hB.size
      have HC4 := Lib.hid (geo_keep hB hn3 HC3.out)
      have HD4 := Lib.hid (geo_keep hB hm3 HD3.out)
      clear hB c0 c1 c2 c3 c4 c5 m0 m1 m2 m3 m4 m5
      obtain ⟨c0, c1, c2, c3, c4, c5⟩ := HC4.out
      obtain ⟨m0, m1, m2, m3, m4, m5⟩ := HD4.out
      go_wp2
      go_ret
      exact ⟨rfl, hB4⟩
  | true =>
    refine wp_region_conf2 4 [Fact.eq ?rbx0, Fact.eq ?rbx1, Fact.eq ?rbx2, Fact.eq ?rbx3] ?rbA (by kernel_rfl) (by kernel_rfl) ?rbhA ?rbho ?rbhend
    case rbhA =>
      intro vv
      simp only [putRules, Nat.reduceAdd]
      rfl
    case rbho =>
      refine ⟨?_, ?_, ?_, ?_, trivial⟩
      · intro vv W K hB hd HK
        simp only [confRules] at HK
        clear hd
        obtain ⟨c0, c1, c2, c3, c4, c5⟩ := geo_keep hB hn2 HC2.out
        obtain ⟨m0, m1, m2, m3, m4, m5⟩ := geo_keep hB hm2 HD2.out
        go_wp2
        refine HK.out _ _ (Below.refl _ _) ?_
        rfl
      · intro vv W K hB hd HK
        simp only [confRules] at hd HK
        have h0 := hd
        clear hd
        simp only [h0] at HK ⊢
        clear h0
        go_wp2_with (refine (HR.out _).mono ?_; rintro e w9 ⟨rfl, hB9⟩)
        refine HK.out _ _ hB9 ?_
        rfl
      · intro vv W K hB hd HK
        simp only [confRules] at HK
        clear hd
        obtain ⟨c0, c1, c2, c3, c4, c5⟩ := geo_keep hB hn2 HC2.out
        obtain ⟨m0, m1, m2, m3, m4, m5⟩ := geo_keep hB hm2 HD2.out
        go_wp2
        refine HK.out _ _ (Below.refl _ _) ?_
        rfl
      · intro vv W K hB hd HK
        simp only [confRules] at hd HK
        obtain ⟨h2, h1⟩ := hd
        simp only [h2, h1] at HK ⊢
        clear h2 h1
        go_wp2_with (refine (HQ.out _).mono ?_; rintro e w9 ⟨rfl, hB9⟩)
        refine HK.out _ _ hB9 ?_
        rfl
    case rbhend =>
      intro vv W hB hf
      have e1 := hf 1 (by decide)
      have e3 := hf 3 (by decide)
      simp only [endRules] at e1 e3
      simp only [e1, e3, dropRules]
      clear hf e1 e3
      have hB3 := hB2.trans (hB.mono hB2.size)
      have hn3 : w.heap.size < W.heap.size := Nat.lt_of_lt_of_le hn2 hB.size
      have hm3 : M < W.heap.size := Nat.lt_of_lt_of_le hm2 hB.size
      have HC3 := Lib.hid (geo_keep hB hn2 HC2.out)
      have HD3 := Lib.hid (geo_keep hB hm2 HD2.out)
      clear hB
      obtain ⟨c0, c1, c2, c3, c4, c5⟩ := HC3.out
      obtain ⟨m0, m1, m2, m3, m4, m5⟩ := HD3.out
      go_wp2_with fail
      refine (HQ.out _).mono ?_
      rintro e w4 ⟨rfl, hB⟩
      have hB4 := hB3.trans (hB.mono hB3.size)
      have hn4 : w.heap.size < w4.heap.size := Nat.lt_of_lt_of_le hn3 hB.size
      have hm4 : M < w4.heap.size := Nat.lt_of_lt_of_le hm3 hB.size
      have HC4 := Lib.hid (geo_keep hB hn3 HC3.out)
      have HD4 := Lib.hid (geo_keep hB hm3 HD3.out)
      clear hB c0 c1 c2 c3 c4 c5 m0 m1 m2 m3 m4 m5
      obtain ⟨c0, c1, c2, c3, c4, c5⟩ := HC4.out
      obtain ⟨m0, m1, m2, m3, m4, m5⟩ := HD4.out
      have hS := ((Geo.right_iff g).1 HRR.out).1
      have hdz := Geo.dz_bd hS
      have hdp := Geo.dp_bd hS
      have hpa : 1 ≤ Geo.parts g ∧ Geo.parts g ≤ 129 := by obtain ⟨-, -, -, hb, -, -⟩ := hS; unfold Geo.parts; omega
      have HAL := Lib.hid (fun W => gall_any g W hS)
      have HPA := Lib.hid (fun W => gparts_any g W hS)
      have HRP := Lib.hid (fun W => rparts_any g W hS)
      have HRE := Lib.hid (fun W => greserve_any g W hS)
      have HSE := Lib.hid (fun W => gsegs_any g W hS)
      have HRS := Lib.hid (fun W => rsegs_any g W hS)
      have HCM := Lib.hid (fun W => gcommands_any g W hS)
      have HPS := Lib.hid (fun W => gpasses_any g W hS)
      obtain ⟨h6, h7, h8, h9, h10, h11⟩ := hS
      have hq1 := Geo.rng (a := 64 * (g.d * g.z + 2)) (b := g.d * g.z + 2) (x := 32896) (y := 514) (by omega) (by omega) (by omega) (by omega)
      have hq2 := Geo.rng (a := 64 * (g.d * g.z + 2) * (g.d * g.z + 2)) (b := g.s + 2) (x := 16908544) (y := 66) (by omega) (by omega) (by omega) (by omega)
      have hq3 := Geo.rng (a := 64 * (g.d * g.z + 2) * (g.d * g.z + 2) * (g.s + 2)) (b := g.b + g.s + Geo.parts g + 4) (x := 1115963904) (y := 453) (by omega) (by omega) (by omega) (by omega)
      have hq4 := Geo.rng (a := g.d * g.p + 3) (b := g.b + 3) (x := 35) (y := 259) (by omega) (by omega) (by omega) (by omega)
      have HE1 : Hid (Geo.reserve g = g.d * g.p + 4) := Lib.hid rfl
      have HE2 : Hid (Geo.commands g = 64 * (g.d * g.z + 2) * (g.d * g.z + 2) * (g.s + 2) * (g.b + g.s + Geo.parts g + 4)) := Lib.hid rfl
      have HE3 : Hid (Geo.passes g = (g.d * g.p + 3) * (g.b + 3)) := Lib.hid rfl
      rw [HE1.out] at HRE
      rw [HE2.out] at HCM
      rw [HE3.out] at HPS
      clear HE1 HE2 HE3 HR HQ HRR
      generalize Geo.parts g = pa at *
      generalize Geo.segs g = se at *
      go_wp2_with fail
      simp only [List.append_eq, List.cons_append, List.nil_append]
      clear c0 c1 c2 c3 c4 c5 m0 m1 m2 m3 m4 m5
      refine wp_region_conf2 71 [Fact.eq (.agg #[.int .i64 g.d, .int .i64 g.z, .int .i64 g.s, .int .i64 g.b, .int .i64 g.p, .int .i64 g.o]), Fact.eq (.int .i64 (g.d * g.z)), Fact.eq (.pointer (some ⟨w.heap.size, 0, none⟩)), Fact.eq (.int .i64 g.d), Fact.eq (.pointer (some ⟨w.heap.size, 1, none⟩)), Fact.eq (.int .i64 g.z), Fact.eq (.int .i64 (g.d * g.z)), Fact.eq (.bool true), Fact.eq (.bool true), Fact.eq (.agg #[.int .i64 g.d, .int .i64 g.z, .int .i64 g.s, .int .i64 g.b, .int .i64 g.p, .int .i64 g.o]), Fact.eq (.int .i64 pa), Fact.eq (.agg #[.int .i64 g.d, .int .i64 g.z, .int .i64 g.s, .int .i64 g.b, .int .i64 g.p, .int .i64 g.o]), Fact.eq (.int .i64 pa), Fact.eq (.bool true), Fact.eq (.bool true), Fact.eq (.bool true), Fact.eq (.agg #[.int .i64 g.d, .int .i64 g.z, .int .i64 g.s, .int .i64 g.b, .int .i64 g.p, .int .i64 g.o]), Fact.eq (.int .i64 (g.d * g.p + 4)), Fact.eq (.pointer (some ⟨w.heap.size, 0, none⟩)), Fact.eq (.int .i64 g.d), Fact.eq (.pointer (some ⟨w.heap.size, 4, none⟩)), Fact.eq (.int .i64 g.p), Fact.eq (.int .i64 (g.d * g.p)), Fact.eq (.int .i64 ((g.d * g.p) + 4)), Fact.eq (.bool true), Fact.eq (.bool true), Fact.eq (.bool true), Fact.eq (.agg #[.int .i64 g.d, .int .i64 g.z, .int .i64 g.s, .int .i64 g.b, .int .i64 g.p, .int .i64 g.o]), Fact.eq (.int .i64 se), Fact.eq (.agg #[.int .i64 g.d, .int .i64 g.z, .int .i64 g.s, .int .i64 g.b, .int .i64 g.p, .int .i64 g.o]), Fact.eq (.int .i64 se), Fact.eq (.bool true), Fact.eq (.bool true), Fact.eq (.bool true), Fact.eq (.agg #[.int .i64 g.d, .int .i64 g.z, .int .i64 g.s, .int .i64 g.b, .int .i64 g.p, .int .i64 g.o]), Fact.eq (.int .i64 (64 * (g.d * g.z + 2) * (g.d * g.z + 2) * (g.s + 2) * (g.b + g.s + pa + 4))), Fact.eq (.int .i64 (g.d * g.z + 2)), Fact.eq (.int .i64 (64 * (g.d * g.z + 2))), Fact.eq (.int .i64 (g.d * g.z + 2)), Fact.eq (.int .i64 ((64 * (g.d * g.z + 2)) * (g.d * g.z + 2))), Fact.eq (.pointer (some ⟨w.heap.size, 2, none⟩)), Fact.eq (.int .i64 g.s), Fact.eq (.int .i64 (g.s + 2)), Fact.eq (.int .i64 (((64 * (g.d * g.z + 2)) * (g.d * g.z + 2)) * (g.s + 2))), Fact.eq (.pointer (some ⟨w.heap.size, 3, none⟩)), Fact.eq (.int .i64 g.b), Fact.eq (.pointer (some ⟨w.heap.size, 2, none⟩)), Fact.eq (.int .i64 g.s), Fact.eq (.int .i64 (g.b + g.s)), Fact.eq (.agg #[.int .i64 g.d, .int .i64 g.z, .int .i64 g.s, .int .i64 g.b, .int .i64 g.p, .int .i64 g.o]), Fact.eq (.int .i64 pa), Fact.eq (.int .i64 ((g.b + g.s) + pa)), Fact.eq (.int .i64 (((g.b + g.s) + pa) + 4)), Fact.eq (.int .i64 ((((64 * (g.d * g.z + 2)) * (g.d * g.z + 2)) * (g.s + 2)) * (((g.b + g.s) + pa) + 4))), Fact.eq (.bool true), Fact.eq (.bool true), Fact.eq (.bool true), Fact.eq (.agg #[.int .i64 g.d, .int .i64 g.z, .int .i64 g.s, .int .i64 g.b, .int .i64 g.p, .int .i64 g.o]), Fact.eq (.int .i64 ((g.d * g.p + 3) * (g.b + 3))), Fact.eq (.pointer (some ⟨w.heap.size, 0, none⟩)), Fact.eq (.int .i64 g.d), Fact.eq (.pointer (some ⟨w.heap.size, 4, none⟩)), Fact.eq (.int .i64 g.p), Fact.eq (.int .i64 (g.d * g.p)), Fact.eq (.int .i64 ((g.d * g.p) + 3)), Fact.eq (.pointer (some ⟨w.heap.size, 3, none⟩)), Fact.eq (.int .i64 g.b), Fact.eq (.int .i64 (g.b + 3)), Fact.eq (.int .i64 (((g.d * g.p) + 3) * (g.b + 3))), Fact.eq (.bool true), Fact.eq (.bool true)] ?rzA (by kernel_rfl) (by kernel_rfl) ?rzhA ?rzho ?rzhend
      case rzhA =>
        intro vv
        simp only [putRules, Nat.reduceAdd]
        rfl
      case rzho =>
        refine ⟨?_, ?_, ?_, ?_, ?_, ?_, ?_, ?_, ?_, ?_, ?_, ?_, ?_, ?_, ?_, ?_, ?_, ?_, ?_, ?_, ?_, ?_, ?_, ?_, ?_, ?_, ?_, ?_, ?_, ?_, ?_, ?_, ?_, ?_, ?_, ?_, ?_, ?_, ?_, ?_, ?_, ?_, ?_, ?_, ?_, ?_, ?_, ?_, ?_, ?_, ?_, ?_, ?_, ?_, ?_, ?_, ?_, ?_, ?_, ?_, ?_, ?_, ?_, ?_, ?_, ?_, ?_, ?_, ?_, ?_, ?_, trivial⟩
        · intro vv W K hB hd HK
          simp only [confRules] at HK
          clear hd
          obtain ⟨c0, c1, c2, c3, c4, c5⟩ := geo_keep hB hn4 HC4.out
          obtain ⟨m0, m1, m2, m3, m4, m5⟩ := geo_keep hB hm4 HD4.out
          go_wp2
          refine HK.out _ _ (Below.refl _ _) ?_
          rfl
        · intro vv W K hB hd HK
          simp only [confRules] at hd HK
          have h0 := hd
          clear hd
          simp only [h0] at HK ⊢
          clear h0
          go_wp2_with (refine (HAL.out _).mono ?_; rintro e w9 ⟨rfl, hB9⟩)
          refine HK.out _ _ hB9 ?_
          rfl
        · intro vv W K hB hd HK
          simp only [confRules] at HK
          clear hd
          go_wp2
          refine HK.out _ _ (Below.refl _ _) ?_
          rfl
        · intro vv W K hB hd HK
          simp only [confRules] at hd HK
          have h2 := hd
          clear hd
          simp only [h2] at HK ⊢
          clear h2
          obtain ⟨c0, c1, c2, c3, c4, c5⟩ := geo_keep hB hn4 HC4.out
          obtain ⟨m0, m1, m2, m3, m4, m5⟩ := geo_keep hB hm4 HD4.out
          go_wp2
          refine HK.out _ _ (Below.refl _ _) ?_
          rfl
        · intro vv W K hB hd HK
          simp only [confRules] at HK
          clear hd
          go_wp2
          refine HK.out _ _ (Below.refl _ _) ?_
          rfl
        · intro vv W K hB hd HK
          simp only [confRules] at hd HK
          have h4 := hd
          clear hd
          simp only [h4] at HK ⊢
          clear h4
          obtain ⟨c0, c1, c2, c3, c4, c5⟩ := geo_keep hB hn4 HC4.out
          obtain ⟨m0, m1, m2, m3, m4, m5⟩ := geo_keep hB hm4 HD4.out
          go_wp2
          refine HK.out _ _ (Below.refl _ _) ?_
          rfl
        · intro vv W K hB hd HK
          simp only [confRules] at hd HK
          obtain ⟨h3, h5⟩ := hd
          simp only [h3, h5] at HK ⊢
          clear h3 h5
          go_wp2
          refine HK.out _ _ (Below.refl _ _) ?_
          rfl
        · intro vv W K hB hd HK
          simp only [confRules] at hd HK
          obtain ⟨h1, h6⟩ := hd
          simp only [h1, h6] at HK ⊢
          clear h1 h6
          go_wp2
          refine HK.out _ _ (Below.refl _ _) ?_
          rfl
        · intro vv W K hB hd HK
          simp only [confRules] at hd HK
          obtain ⟨h7, h1⟩ := hd
          simp only [h7, h1] at HK ⊢
          clear h7 h1
          go_wp2
          refine HK.out _ _ (Below.refl _ _) ?_
          rfl
        · intro vv W K hB hd HK
          simp only [confRules] at hd HK
          have h8 := hd
          clear hd
          simp only [h8] at HK ⊢
          clear h8
          refine wpList_guard_yes (by rfl) ?_
          obtain ⟨c0, c1, c2, c3, c4, c5⟩ := geo_keep hB hn4 HC4.out
          obtain ⟨m0, m1, m2, m3, m4, m5⟩ := geo_keep hB hm4 HD4.out
          go_wp2
          refine HK.out _ _ (Below.refl _ _) ?_
          rfl
        · intro vv W K hB hd HK
          simp only [confRules] at hd HK
          obtain ⟨h9, h8, _⟩ := hd
          simp only [h9, h8] at HK ⊢
          clear h9 h8
          refine wpList_guard_yes (by rfl) ?_
          go_wp2_with (refine (HPA.out _).mono ?_; rintro e w9 ⟨rfl, hB9⟩)
          refine HK.out _ _ hB9 ?_
          rfl
        · intro vv W K hB hd HK
          simp only [confRules] at hd HK
          have h8 := hd
          clear hd
          simp only [h8] at HK ⊢
          clear h8
          refine wpList_guard_yes (by rfl) ?_
          obtain ⟨c0, c1, c2, c3, c4, c5⟩ := geo_keep hB hn4 HC4.out
          obtain ⟨m0, m1, m2, m3, m4, m5⟩ := geo_keep hB hm4 HD4.out
          go_wp2
          refine HK.out _ _ (Below.refl _ _) ?_
          rfl
        · intro vv W K hB hd HK
          simp only [confRules] at hd HK
          obtain ⟨h11, h10, h8⟩ := hd
          simp only [h11, h10, h8] at HK ⊢
          clear h11 h10 h8
          refine wpList_guard_yes (by rfl) ?_
          go_wp2_with (refine (HRP.out _).mono ?_; rintro e w9 ⟨rfl, hB9⟩)
          refine HK.out _ _ hB9 ?_
          rfl
        · intro vv W K hB hd HK
          simp only [confRules] at hd HK
          obtain ⟨h10, h12, h8⟩ := hd
          simp only [h10, h12, h8] at HK ⊢
          clear h10 h12 h8
          refine wpList_guard_yes (by rfl) ?_
          go_wp2
          refine HK.out _ _ (Below.refl _ _) ?_
          rfl
        · intro vv W K hB hd HK
          simp only [confRules] at hd HK
          obtain ⟨h8, h13⟩ := hd
          simp only [h8, h13] at HK ⊢
          clear h8 h13
          go_wp2
          refine HK.out _ _ (Below.refl _ _) ?_
          rfl
        · intro vv W K hB hd HK
          simp only [confRules] at hd HK
          obtain ⟨h14, h12⟩ := hd
          simp only [h14, h12] at HK ⊢
          clear h14 h12
          go_wp2
          refine HK.out _ _ (Below.refl _ _) ?_
          rfl
        · intro vv W K hB hd HK
          simp only [confRules] at hd HK
          have h15 := hd
          clear hd
          simp only [h15] at HK ⊢
          clear h15
          refine wpList_guard_yes (by rfl) ?_
          obtain ⟨c0, c1, c2, c3, c4, c5⟩ := geo_keep hB hn4 HC4.out
          obtain ⟨m0, m1, m2, m3, m4, m5⟩ := geo_keep hB hm4 HD4.out
          go_wp2
          refine HK.out _ _ (Below.refl _ _) ?_
          rfl
        · intro vv W K hB hd HK
          simp only [confRules] at hd HK
          obtain ⟨h16, h15, _⟩ := hd
          simp only [h16, h15] at HK ⊢
          clear h16 h15
          refine wpList_guard_yes (by rfl) ?_
          go_wp2_with (refine (HRE.out _).mono ?_; rintro e w9 ⟨rfl, hB9⟩)
          refine HK.out _ _ hB9 ?_
          rfl
        · intro vv W K hB hd HK
          simp only [confRules] at hd HK
          have h15 := hd
          clear hd
          simp only [h15] at HK ⊢
          clear h15
          refine wpList_guard_yes (by rfl) ?_
          go_wp2
          refine HK.out _ _ (Below.refl _ _) ?_
          rfl
        · intro vv W K hB hd HK
          simp only [confRules] at hd HK
          obtain ⟨h18, h15⟩ := hd
          simp only [h18, h15] at HK ⊢
          clear h18 h15
          refine wpList_guard_yes (by rfl) ?_
          obtain ⟨c0, c1, c2, c3, c4, c5⟩ := geo_keep hB hn4 HC4.out
          obtain ⟨m0, m1, m2, m3, m4, m5⟩ := geo_keep hB hm4 HD4.out
          go_wp2
          refine HK.out _ _ (Below.refl _ _) ?_
          rfl
        · intro vv W K hB hd HK
          simp only [confRules] at hd HK
          have h15 := hd
          clear hd
          simp only [h15] at HK ⊢
          clear h15
          refine wpList_guard_yes (by rfl) ?_
          go_wp2
          refine HK.out _ _ (Below.refl _ _) ?_
          rfl
        · intro vv W K hB hd HK
          simp only [confRules] at hd HK
          obtain ⟨h20, h15⟩ := hd
          simp only [h20, h15] at HK ⊢
          clear h20 h15
          refine wpList_guard_yes (by rfl) ?_
          obtain ⟨c0, c1, c2, c3, c4, c5⟩ := geo_keep hB hn4 HC4.out
          obtain ⟨m0, m1, m2, m3, m4, m5⟩ := geo_keep hB hm4 HD4.out
          go_wp2
          refine HK.out _ _ (Below.refl _ _) ?_
          rfl
        · intro vv W K hB hd HK
          simp only [confRules] at hd HK
          obtain ⟨h19, h21, h15⟩ := hd
          simp only [h19, h21, h15] at HK ⊢
          clear h19 h21 h15
          refine wpList_guard_yes (by rfl) ?_
          go_wp2
          refine HK.out _ _ (Below.refl _ _) ?_
          rfl
        · intro vv W K hB hd HK
          simp only [confRules] at hd HK
          obtain ⟨h22, h15⟩ := hd
          simp only [h22, h15] at HK ⊢
          clear h22 h15
          refine wpList_guard_yes (by rfl) ?_
          go_wp2
          refine HK.out _ _ (Below.refl _ _) ?_
          rfl
        · intro vv W K hB hd HK
          simp only [confRules] at hd HK
          obtain ⟨h17, h23, h15⟩ := hd
          simp only [h17, h23, h15] at HK ⊢
          clear h17 h23 h15
          refine wpList_guard_yes (by rfl) ?_
          go_wp2
          refine HK.out _ _ (Below.refl _ _) ?_
          rfl
        · intro vv W K hB hd HK
          simp only [confRules] at hd HK
          obtain ⟨h15, h24⟩ := hd
          simp only [h15, h24] at HK ⊢
          clear h15 h24
          go_wp2
          refine HK.out _ _ (Below.refl _ _) ?_
          rfl
        · intro vv W K hB hd HK
          simp only [confRules] at hd HK
          obtain ⟨h25, h17⟩ := hd
          simp only [h25, h17] at HK ⊢
          clear h25 h17
          go_wp2
          refine HK.out _ _ (Below.refl _ _) ?_
          rfl
        · intro vv W K hB hd HK
          simp only [confRules] at hd HK
          have h26 := hd
          clear hd
          simp only [h26] at HK ⊢
          clear h26
          refine wpList_guard_yes (by rfl) ?_
          obtain ⟨c0, c1, c2, c3, c4, c5⟩ := geo_keep hB hn4 HC4.out
          obtain ⟨m0, m1, m2, m3, m4, m5⟩ := geo_keep hB hm4 HD4.out
          go_wp2
          refine HK.out _ _ (Below.refl _ _) ?_
          rfl
        · intro vv W K hB hd HK
          simp only [confRules] at hd HK
          obtain ⟨h27, h26, _⟩ := hd
          simp only [h27, h26] at HK ⊢
          clear h27 h26
          refine wpList_guard_yes (by rfl) ?_
          go_wp2_with (refine (HSE.out _).mono ?_; rintro e w9 ⟨rfl, hB9⟩)
          refine HK.out _ _ hB9 ?_
          rfl
        · intro vv W K hB hd HK
          simp only [confRules] at hd HK
          have h26 := hd
          clear hd
          simp only [h26] at HK ⊢
          clear h26
          refine wpList_guard_yes (by rfl) ?_
          obtain ⟨c0, c1, c2, c3, c4, c5⟩ := geo_keep hB hn4 HC4.out
          obtain ⟨m0, m1, m2, m3, m4, m5⟩ := geo_keep hB hm4 HD4.out
          go_wp2
          refine HK.out _ _ (Below.refl _ _) ?_
          rfl
        · intro vv W K hB hd HK
          simp only [confRules] at hd HK
          obtain ⟨h29, h28, h26⟩ := hd
          simp only [h29, h28, h26] at HK ⊢
          clear h29 h28 h26
          refine wpList_guard_yes (by rfl) ?_
          go_wp2_with (refine (HRS.out _).mono ?_; rintro e w9 ⟨rfl, hB9⟩)
          refine HK.out _ _ hB9 ?_
          rfl
        · intro vv W K hB hd HK
          simp only [confRules] at hd HK
          obtain ⟨h28, h30, h26⟩ := hd
          simp only [h28, h30, h26] at HK ⊢
          clear h28 h30 h26
          refine wpList_guard_yes (by rfl) ?_
          go_wp2
          refine HK.out _ _ (Below.refl _ _) ?_
          rfl
        · intro vv W K hB hd HK
          simp only [confRules] at hd HK
          obtain ⟨h26, h31⟩ := hd
          simp only [h26, h31] at HK ⊢
          clear h26 h31
          go_wp2
          refine HK.out _ _ (Below.refl _ _) ?_
          rfl
        · intro vv W K hB hd HK
          simp only [confRules] at hd HK
          obtain ⟨h32, h30⟩ := hd
          simp only [h32, h30] at HK ⊢
          clear h32 h30
          go_wp2
          refine HK.out _ _ (Below.refl _ _) ?_
          rfl
        · intro vv W K hB hd HK
          simp only [confRules] at hd HK
          have h33 := hd
          clear hd
          simp only [h33] at HK ⊢
          clear h33
          refine wpList_guard_yes (by rfl) ?_
          obtain ⟨c0, c1, c2, c3, c4, c5⟩ := geo_keep hB hn4 HC4.out
          obtain ⟨m0, m1, m2, m3, m4, m5⟩ := geo_keep hB hm4 HD4.out
          go_wp2
          refine HK.out _ _ (Below.refl _ _) ?_
          rfl
        · intro vv W K hB hd HK
          simp only [confRules] at hd HK
          obtain ⟨h34, h33, _⟩ := hd
          simp only [h34, h33] at HK ⊢
          clear h34 h33
          refine wpList_guard_yes (by rfl) ?_
          go_wp2_with (refine (HCM.out _).mono ?_; rintro e w9 ⟨rfl, hB9⟩)
          refine HK.out _ _ hB9 ?_
          rfl
        · intro vv W K hB hd HK
          simp only [confRules] at hd HK
          have h33 := hd
          clear hd
          simp only [h33] at HK ⊢
          clear h33
          refine wpList_guard_yes (by rfl) ?_
          go_wp2
          refine HK.out _ _ (Below.refl _ _) ?_
          rfl
        · intro vv W K hB hd HK
          simp only [confRules] at hd HK
          obtain ⟨h36, h33⟩ := hd
          simp only [h36, h33] at HK ⊢
          clear h36 h33
          refine wpList_guard_yes (by rfl) ?_
          go_wp2
          refine HK.out _ _ (Below.refl _ _) ?_
          rfl
        · intro vv W K hB hd HK
          simp only [confRules] at hd HK
          have h33 := hd
          clear hd
          simp only [h33] at HK ⊢
          clear h33
          refine wpList_guard_yes (by rfl) ?_
          go_wp2
          refine HK.out _ _ (Below.refl _ _) ?_
          rfl
        · intro vv W K hB hd HK
          simp only [confRules] at hd HK
          obtain ⟨h37, h38, h33⟩ := hd
          simp only [h37, h38, h33] at HK ⊢
          clear h37 h38 h33
          refine wpList_guard_yes (by rfl) ?_
          go_wp2
          refine HK.out _ _ (Below.refl _ _) ?_
          rfl
        · intro vv W K hB hd HK
          simp only [confRules] at hd HK
          have h33 := hd
          clear hd
          simp only [h33] at HK ⊢
          clear h33
          refine wpList_guard_yes (by rfl) ?_
          go_wp2
          refine HK.out _ _ (Below.refl _ _) ?_
          rfl
        · intro vv W K hB hd HK
          simp only [confRules] at hd HK
          obtain ⟨h40, h33⟩ := hd
          simp only [h40, h33] at HK ⊢
          clear h40 h33
          refine wpList_guard_yes (by rfl) ?_
          obtain ⟨c0, c1, c2, c3, c4, c5⟩ := geo_keep hB hn4 HC4.out
          obtain ⟨m0, m1, m2, m3, m4, m5⟩ := geo_keep hB hm4 HD4.out
          go_wp2
          refine HK.out _ _ (Below.refl _ _) ?_
          rfl
        · intro vv W K hB hd HK
          simp only [confRules] at hd HK
          obtain ⟨h41, h33⟩ := hd
          simp only [h41, h33] at HK ⊢
          clear h41 h33
          refine wpList_guard_yes (by rfl) ?_
          go_wp2
          refine HK.out _ _ (Below.refl _ _) ?_
          rfl
        · intro vv W K hB hd HK
          simp only [confRules] at hd HK
          obtain ⟨h39, h42, h33⟩ := hd
          simp only [h39, h42, h33] at HK ⊢
          clear h39 h42 h33
          refine wpList_guard_yes (by rfl) ?_
          go_wp2
          refine HK.out _ _ (Below.refl _ _) ?_
          rfl
        · intro vv W K hB hd HK
          simp only [confRules] at hd HK
          have h33 := hd
          clear hd
          simp only [h33] at HK ⊢
          clear h33
          refine wpList_guard_yes (by rfl) ?_
          go_wp2
          refine HK.out _ _ (Below.refl _ _) ?_
          rfl
        · intro vv W K hB hd HK
          simp only [confRules] at hd HK
          obtain ⟨h44, h33⟩ := hd
          simp only [h44, h33] at HK ⊢
          clear h44 h33
          refine wpList_guard_yes (by rfl) ?_
          obtain ⟨c0, c1, c2, c3, c4, c5⟩ := geo_keep hB hn4 HC4.out
          obtain ⟨m0, m1, m2, m3, m4, m5⟩ := geo_keep hB hm4 HD4.out
          go_wp2
          refine HK.out _ _ (Below.refl _ _) ?_
          rfl
        · intro vv W K hB hd HK
          simp only [confRules] at hd HK
          have h33 := hd
          clear hd
          simp only [h33] at HK ⊢
          clear h33
          refine wpList_guard_yes (by rfl) ?_
          go_wp2
          refine HK.out _ _ (Below.refl _ _) ?_
          rfl
        · intro vv W K hB hd HK
          simp only [confRules] at hd HK
          obtain ⟨h46, h33⟩ := hd
          simp only [h46, h33] at HK ⊢
          clear h46 h33
          refine wpList_guard_yes (by rfl) ?_
          obtain ⟨c0, c1, c2, c3, c4, c5⟩ := geo_keep hB hn4 HC4.out
          obtain ⟨m0, m1, m2, m3, m4, m5⟩ := geo_keep hB hm4 HD4.out
          go_wp2
          refine HK.out _ _ (Below.refl _ _) ?_
          rfl
        · intro vv W K hB hd HK
          simp only [confRules] at hd HK
          obtain ⟨h45, h47, h33⟩ := hd
          simp only [h45, h47, h33] at HK ⊢
          clear h45 h47 h33
          refine wpList_guard_yes (by rfl) ?_
          go_wp2
          refine HK.out _ _ (Below.refl _ _) ?_
          rfl
        · intro vv W K hB hd HK
          simp only [confRules] at hd HK
          have h33 := hd
          clear hd
          simp only [h33] at HK ⊢
          clear h33
          refine wpList_guard_yes (by rfl) ?_
          obtain ⟨c0, c1, c2, c3, c4, c5⟩ := geo_keep hB hn4 HC4.out
          obtain ⟨m0, m1, m2, m3, m4, m5⟩ := geo_keep hB hm4 HD4.out
          go_wp2
          refine HK.out _ _ (Below.refl _ _) ?_
          rfl
        · intro vv W K hB hd HK
          simp only [confRules] at hd HK
          obtain ⟨h49, h35, h33⟩ := hd
          simp only [h49, h35, h33] at HK ⊢
          clear h49 h35 h33
          refine wpList_guard_yes (by rfl) ?_
          go_wp2_with (refine (HRP.out _).mono ?_; rintro e w9 ⟨rfl, hB9⟩)
          refine HK.out _ _ hB9 ?_
          rfl
        · intro vv W K hB hd HK
          simp only [confRules] at hd HK
          obtain ⟨h48, h50, h33⟩ := hd
          simp only [h48, h50, h33] at HK ⊢
          clear h48 h50 h33
          refine wpList_guard_yes (by rfl) ?_
          go_wp2
          refine HK.out _ _ (Below.refl _ _) ?_
          rfl
        · intro vv W K hB hd HK
          simp only [confRules] at hd HK
          obtain ⟨h51, h33⟩ := hd
          simp only [h51, h33] at HK ⊢
          clear h51 h33
          refine wpList_guard_yes (by rfl) ?_
          go_wp2
          refine HK.out _ _ (Below.refl _ _) ?_
          rfl
        · intro vv W K hB hd HK
          simp only [confRules] at hd HK
          obtain ⟨h43, h52, h33⟩ := hd
          simp only [h43, h52, h33] at HK ⊢
          clear h43 h52 h33
          refine wpList_guard_yes (by rfl) ?_
          go_wp2
          refine HK.out _ _ (Below.refl _ _) ?_
          rfl
        · intro vv W K hB hd HK
          simp only [confRules] at hd HK
          obtain ⟨h35, h53, h33⟩ := hd
          simp only [h35, h53, h33] at HK ⊢
          clear h35 h53 h33
          refine wpList_guard_yes (by rfl) ?_
          go_wp2
          refine HK.out _ _ (Below.refl _ _) ?_
          rfl
        · intro vv W K hB hd HK
          simp only [confRules] at hd HK
          obtain ⟨h33, h54⟩ := hd
          simp only [h33, h54] at HK ⊢
          clear h33 h54
          go_wp2
          refine HK.out _ _ (Below.refl _ _) ?_
          rfl
        · intro vv W K hB hd HK
          simp only [confRules] at hd HK
          obtain ⟨h55, h50⟩ := hd
          simp only [h55, h50] at HK ⊢
          clear h55 h50
          go_wp2
          refine HK.out _ _ (Below.refl _ _) ?_
          rfl
        · intro vv W K hB hd HK
          simp only [confRules] at hd HK
          have h56 := hd
          clear hd
          simp only [h56] at HK ⊢
          clear h56
          refine wpList_guard_yes (by rfl) ?_
          obtain ⟨c0, c1, c2, c3, c4, c5⟩ := geo_keep hB hn4 HC4.out
          obtain ⟨m0, m1, m2, m3, m4, m5⟩ := geo_keep hB hm4 HD4.out
          go_wp2
          refine HK.out _ _ (Below.refl _ _) ?_
          rfl
        · intro vv W K hB hd HK
          simp only [confRules] at hd HK
          obtain ⟨h57, h56, _⟩ := hd
          simp only [h57, h56] at HK ⊢
          clear h57 h56
          refine wpList_guard_yes (by rfl) ?_
          go_wp2_with (refine (HPS.out _).mono ?_; rintro e w9 ⟨rfl, hB9⟩)
          refine HK.out _ _ hB9 ?_
          rfl
        · intro vv W K hB hd HK
          simp only [confRules] at hd HK
          have h56 := hd
          clear hd
          simp only [h56] at HK ⊢
          clear h56
          refine wpList_guard_yes (by rfl) ?_
          go_wp2
          refine HK.out _ _ (Below.refl _ _) ?_
          rfl
        · intro vv W K hB hd HK
          simp only [confRules] at hd HK
          obtain ⟨h59, h56⟩ := hd
          simp only [h59, h56] at HK ⊢
          clear h59 h56
          refine wpList_guard_yes (by rfl) ?_
          obtain ⟨c0, c1, c2, c3, c4, c5⟩ := geo_keep hB hn4 HC4.out
          obtain ⟨m0, m1, m2, m3, m4, m5⟩ := geo_keep hB hm4 HD4.out
          go_wp2
          refine HK.out _ _ (Below.refl _ _) ?_
          rfl
        · intro vv W K hB hd HK
          simp only [confRules] at hd HK
          have h56 := hd
          clear hd
          simp only [h56] at HK ⊢
          clear h56
          refine wpList_guard_yes (by rfl) ?_
          go_wp2
          refine HK.out _ _ (Below.refl _ _) ?_
          rfl
        · intro vv W K hB hd HK
          simp only [confRules] at hd HK
          obtain ⟨h61, h56⟩ := hd
          simp only [h61, h56] at HK ⊢
          clear h61 h56
          refine wpList_guard_yes (by rfl) ?_
          obtain ⟨c0, c1, c2, c3, c4, c5⟩ := geo_keep hB hn4 HC4.out
          obtain ⟨m0, m1, m2, m3, m4, m5⟩ := geo_keep hB hm4 HD4.out
          go_wp2
          refine HK.out _ _ (Below.refl _ _) ?_
          rfl
        · intro vv W K hB hd HK
          simp only [confRules] at hd HK
          obtain ⟨h60, h62, h56⟩ := hd
          simp only [h60, h62, h56] at HK ⊢
          clear h60 h62 h56
          refine wpList_guard_yes (by rfl) ?_
          go_wp2
          refine HK.out _ _ (Below.refl _ _) ?_
          rfl
        · intro vv W K hB hd HK
          simp only [confRules] at hd HK
          obtain ⟨h63, h56⟩ := hd
          simp only [h63, h56] at HK ⊢
          clear h63 h56
          refine wpList_guard_yes (by rfl) ?_
          go_wp2
          refine HK.out _ _ (Below.refl _ _) ?_
          rfl
        · intro vv W K hB hd HK
          simp only [confRules] at hd HK
          have h56 := hd
          clear hd
          simp only [h56] at HK ⊢
          clear h56
          refine wpList_guard_yes (by rfl) ?_
          go_wp2
          refine HK.out _ _ (Below.refl _ _) ?_
          rfl
        · intro vv W K hB hd HK
          simp only [confRules] at hd HK
          obtain ⟨h65, h56⟩ := hd
          simp only [h65, h56] at HK ⊢
          clear h65 h56
          refine wpList_guard_yes (by rfl) ?_
          obtain ⟨c0, c1, c2, c3, c4, c5⟩ := geo_keep hB hn4 HC4.out
          obtain ⟨m0, m1, m2, m3, m4, m5⟩ := geo_keep hB hm4 HD4.out
          go_wp2
          refine HK.out _ _ (Below.refl _ _) ?_
          rfl
        · intro vv W K hB hd HK
          simp only [confRules] at hd HK
          obtain ⟨h66, h56⟩ := hd
          simp only [h66, h56] at HK ⊢
          clear h66 h56
          refine wpList_guard_yes (by rfl) ?_
          go_wp2
          refine HK.out _ _ (Below.refl _ _) ?_
          rfl
        · intro vv W K hB hd HK
          simp only [confRules] at hd HK
          obtain ⟨h64, h67, h56⟩ := hd
          simp only [h64, h67, h56] at HK ⊢
          clear h64 h67 h56
          refine wpList_guard_yes (by rfl) ?_
          go_wp2
          refine HK.out _ _ (Below.refl _ _) ?_
          rfl
        · intro vv W K hB hd HK
          simp only [confRules] at hd HK
          obtain ⟨h58, h68, h56⟩ := hd
          simp only [h58, h68, h56] at HK ⊢
          clear h58 h68 h56
          refine wpList_guard_yes (by rfl) ?_
          go_wp2
          refine HK.out _ _ (Below.refl _ _) ?_
          rfl
        · intro vv W K hB hd HK
          simp only [confRules] at hd HK
          obtain ⟨h56, h69⟩ := hd
          simp only [h56, h69] at HK ⊢
          clear h56 h69
          go_wp2
          refine HK.out _ _ (Below.refl _ _) ?_
          rfl
      case rzhend =>
        intro vv W hB hf
        have e70 := hf 70 (by decide)
        simp only [endRules] at e70
        simp only [e70, dropRules]
        clear hf e70
        go_wp2
        go_ret
        exact ⟨rfl, hB4.trans (hB.mono hB4.size)⟩
end Go.Proofs.Yteggijkcdlboeaa
