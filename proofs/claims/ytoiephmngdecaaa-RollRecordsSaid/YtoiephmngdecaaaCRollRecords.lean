/- Proved here, one behind the other: Proved here: the walk of the law on records. -/
import Derived.LoopTactic
import Derived.Test.YtoiephmngdecaaaQa
import Derived.Test.YtoiephmngdecaaaQb
import Derived.Test.YtoiephmngdecaaaQc
import Derived.Test.YtoiephmngdecaaaQd
import Derived.Test.YtoiephmngdecaaaQe
import Derived.Test.YtoiephmngdecaaaQf
import Derived.Test.YtoiephmngdecaaaQg
import Derived.Test.YtoiephmngdecaaaQh
import Derived.Test.YtoiephmngdecaaaQi
namespace Go.Proofs.Ytoiephmngdecaaa
open Go.RowKit Go.Rv Rl Frm
set_option linter.unusedVariables false
attribute [local go_sem] Oper.semAt_some
theorem recE_num (g : Geo.G) (epoch : Int) {f : Fnd} (hq : FndQ f) : EBody ((recE g epoch f).getD En.E.zero) ∧ Num38 ((recE g epoch f).getD En.E.zero) := by
  have h1 : EBody (readE f.fr).1 ∧ Num38 (readE f.fr).1 := by
    refine ⟨readE_body f.fr hq.2.2.1, ?_⟩
    unfold readE
    split
    · exact zero_num
    · split
      · exact zero_num
      · exact ofE_num hq.2.2.2.1 hq.2.2.1.2
  unfold recE
  split
  · exact h1
  · exact ⟨zero_ebody, zero_num⟩
theorem Try.infoBkZ : (Try.prog.info? 63).map (fun i => (i.zero, i.size)) = some (some (.agg (byteCells (List.replicate 32 0))), 32) := by kernel_rfl
theorem any_take {α : Type} (p : α → Bool) {l : List α} {k : Nat} {x : α} (h : l[k]? = some x) : (l.take (k + 1)).any p = ((l.take k).any p || p x) := by
  rw [List.take_add_one, h, List.any_append]
  simp
set_option maxRecDepth 100000 in
set_option maxHeartbeats 64000000 in
theorem roll_records_walk (w : World) (g : Geo.G) (epoch next : Int) (a2 : Option Addr) (l2 : List Fnd) (c2 : Nat) (hI2 : RowOf w 51 fndC FndQ a2 l2) :
    Calls Try.prog 4 #[.agg (GC g), .int .i64 epoch, .int .i64 next, .slice a2 l2.length c2] w fun e w' => e = .returned (.bool true) ∧ Below w.heap.size w w' := by
  have hz65 := (zero_of_info Try.infoEntry).1
  have hz72 := (zero_of_info Try.infoRE).1
  have hz61 := (zero_of_info Try.infoF16).1
  have HA := Lib.hid (fun (W : World) => roll_anchor W)
  have HGI := Lib.hid (gsize (g := g))
  have HMA : Hid (∀ W, Below w.heap.size w W → Calls Try.prog 10 #[.agg (GC g), .slice none 0 0, .int .i64 epoch, .int .i64 next] W (MadePost17 W g [] epoch next)) := Lib.hid (fun W hW => made17_any g none [] 0 epoch next W (.inl rfl))
  have HNW := Lib.hid (fun (W : World) => new_any W)
  have hzs := (zero_of_info Try.infoSnz).1
  have hzf := (zero_of_info Try.infoFnd).1
  have hzr := (zero_of_info Try.infoRes).1
  have HI2 := Lib.hid hI2
  obtain ⟨W0, hW0⟩ : ∃ W, w.alloc (.cells (GC g) 23) = W := ⟨_, rfl⟩
  have hb0 : Below w.heap.size w W0 := by rw [← hW0]; exact (Below.refl _ _).alloc (Nat.le_refl _) _
  have hg0 : W0.heap[w.heap.size]? = some (.cells (GC g) 23 (0, 0)) := by rw [← hW0]; exact heap_alloc_new w _
  have zg0 : w.heap.size < W0.heap.size := (Array.getElem?_eq_some_iff.1 hg0).1
  have HW0 := Lib.hid hW0
  have HG0 := Lib.hid hg0
  have HB0 := Lib.hid hb0
  obtain ⟨GX, hGX⟩ : ∃ X, GC g = X := ⟨_, rfl⟩
  rw [hGX] at HGI HMA HW0 HG0 ⊢
  have HGX := Lib.hid hGX
  obtain ⟨TV, hTV⟩ : ∃ T, Tb.tabV = T := ⟨_, rfl⟩
  rw [hTV] at HNW
  have HTV := Lib.hid hTV
  obtain ⟨n2, hn2⟩ : ∃ n, l2.length = n := ⟨_, rfl⟩
  rw [hn2]
  have HN2 := Lib.hid hn2
  obtain ⟨XZ, hXZ⟩ : ∃ X, SZ = X := ⟨_, rfl⟩
  rw [hXZ] at hzs
  have HXZ := Lib.hid hXZ
  clear hI2 hW0 hb0 hg0 hGX hTV hn2 hXZ
  go_enter Try.func4, Try.ntmps4
  go_upto_region 1 with (fail)
  rw [HW0.out]
  go_wp2_with fail
  refine (HA.out _).mono ?_
  rintro e1 w1 ⟨rfl, hB1⟩
  have z1 := hB1.size
  have HG1 := Lib.hid ((hB1.block w.heap.size zg0).trans HG0.out)
  have HB1 := Lib.hid (HB0.out.trans (hB1.mono HB0.out.size))
  clear hB1
  go_wp2_with (refine wpList_load_row rfl 23 _ rfl w.heap.size rfl 23 _ _ _ HG1.out Try.underlying23 rfl HGI.out ?_)
  refine (HMA.out _ HB1.out).mono ?_
  rintro e3 w3 ⟨S1, v3, ok, rfl, ⟨hS1, hS2, hS3⟩, hB3, hmade⟩
  have z3 := hB3.size
  have HS1 := Lib.hid hS1
  have HS2 := Lib.hid hS2
  rw [HXZ.out] at hS3
  have HS3 := Lib.hid hS3
  have HB3 := Lib.hid (HB1.out.trans (hB3.mono HB1.out.size))
  obtain ⟨W4, hW4⟩ : ∃ W, w3.alloc (.cells S1 29) = W := ⟨_, rfl⟩
  have hb4 : Below w3.heap.size w3 W4 := by rw [← hW4]; exact (Below.refl _ _).alloc (Nat.le_refl _) _
  have hs4 : W4.heap[w3.heap.size]? = some (.cells S1 29 (0, 0)) := by rw [← hW4]; exact heap_alloc_new w3 _
  have zs4 : w3.heap.size < W4.heap.size := (Array.getElem?_eq_some_iff.1 hs4).1
  have HS4 := Lib.hid hs4
  have HB4 := Lib.hid (HB3.out.trans (hb4.mono HB3.out.size))
  have HGX4 := Lib.hid ((hb4.block w.heap.size (by omega)).trans ((hB3.block w.heap.size (by omega)).trans HG1.out))
  have HI4 := Lib.hid (HI2.out.below HB4.out)
  have HW4 := Lib.hid hW4
  have HMD := Lib.hid hmade
  have HK4 := Lib.hid hb4
  clear hB3 hS1 hS2 hS3 hb4 hs4 hW4 hmade
  go_upto_region 4 with (refine wpList_store_row rfl 29 _ _ rfl w3.heap.size S1 rfl rfl 29 XZ (heap_alloc_new w3 _) HS1.out HS3.out HS2.out ?_; rw [World.setRow_alloc_new])
  rw [HW4.out]
  try rw [put_none]
  obtain ⟨bs, hbs⟩ : ∃ b, w3.heap.size = b := ⟨_, rfl⟩
  have HBS := Lib.hid hbs
  rw [hbs] at HS4 zs4 ⊢
  clear hbs
  rcases HMD.out with ⟨rfl, -, -⟩ | ⟨hok, hgr, p, le, ll, rfl, hbm, hmo, -, -⟩
  · go_wp2
    go_ret
    exact ⟨rfl, HB4.out⟩
  cases hrt : Sn.right 1 epoch next (madeEs g [])
  · rw [hrt] at hok
    subst hok
    clear hgr hbm hmo hrt
    go_wp2
    go_ret
    exact ⟨rfl, HB4.out⟩
  rw [hrt] at hok
  subst hok
  have HBM4 := Lib.hid (hbm.below (HK4.out))
  have HOK := Lib.hid hmo
  have HGR := Lib.hid hgr
  have HRT := Lib.hid hrt
  clear hgr hbm hmo hrt HMD
  by_cases hbig : 60 < n2
  · have t1 : decide (60 < n2) = true := decide_eq_true hbig
    have t2 : decide ((60 : Int) < (n2 : Int)) = true := decide_eq_true (by omega)
    go_wp2
    go_ret
    exact ⟨rfl, HB4.out⟩
  have t1 : decide (60 < n2) = false := decide_eq_false hbig
  have t2 : decide ((60 : Int) < (n2 : Int)) = false := decide_eq_false (by omega)
  obtain ⟨RA, hRA⟩ : ∃ R, recs g epoch next (l2) = R := ⟨_, rfl⟩
  obtain ⟨nA, hnA⟩ : ∃ n, runLen RA next = n := ⟨_, rfl⟩
  obtain ⟨stA, hstA⟩ : ∃ s, runSt g (madeEs g []) next RA = s := ⟨_, rfl⟩
  obtain ⟨zsA, hzsA⟩ : ∃ z, zonesOf RA = z := ⟨_, rfl⟩
  have HRUNA : Hid (∀ W, Below W4.heap.size W4 W → Calls Try.prog 11 #[.agg TV, .agg (SnC 1 epoch next p), .slice (a2) n2 (c2)] W fun e w' => ∃ u, e = .returned u ∧ RunT W4.heap.size g next nA stA zsA u w' ∧ Below W.heap.size W w') := Lib.hid (fun W hW => by
    have h1 := rrun_fact W p le ll _ _ g (madeEs g []) HGR.out (HBM4.out.below hW) HOK.out 1 epoch next HRT.out (a2) (l2) (c2) (HI4.out.below hW) (by have := HN2.out; omega) hW.size
    rw [HTV.out, HN2.out, hRA, hnA, hstA, hzsA] at h1
    exact h1)
  have HEA := Lib.hid (And.intro hRA (And.intro hnA (And.intro hstA hzsA)))
  clear hRA hnA hstA hzsA
  go_upto_region 6 with (fail)
  clear t1 t2
  refine wp_region_conf13 9 [Fact.eq (.agg TV), Fact.eq (.agg (SnC 1 epoch next p)), Fact.eq (.slice a2 n2 c2), Fact.runT W4.heap.size g next nA stA zsA, Fact.runT W4.heap.size g next nA stA zsA, Fact.runA W4.heap.size g next nA stA zsA, Fact.eq (.int .i64 0), Fact.eq undef, Fact.eq undef] 7 8 5 ResZ 35 ?raA (by kernel_rfl) (by kernel_rfl) (by kernel_rfl) (by kernel_rfl) ?rahA ?rahs ?raho ?rahend
  case rahA =>
    intro vv
    simp only [putRules, Nat.reduceAdd]
    rfl
  case rahs =>
    intro j u W gg C hj hg hr hp
    match j, hj with
    | 0, _ => exact hp
    | 1, _ => exact hp
    | 2, _ => exact hp
    | 3, _ => exact RunT.setRow (show RunT W4.heap.size g next nA stA zsA u W from hp) hr C
    | 4, _ => exact RunT.setRow (show RunT W4.heap.size g next nA stA zsA u W from hp) hr C
    | 5, _ => exact RunA.setRow (show RunA W4.heap.size g next nA stA zsA u W from hp) hr C
    | 6, _ => exact hp
    | 7, _ => exact hp
    | 8, _ => exact hp
  case raho =>
    refine ⟨?_, ?_, ?_, ?_, ?_, ?_, ?_, ?_, ?_, trivial⟩
    · intro vv W K hB hd HK
      simp only [conf8Rules] at HK
      clear hd
      go_wp2_with (refine (HNW.out _).mono ?_; rintro e w9 ⟨rfl, hB9⟩)
      refine HK.out _ _ hB9 ?_
      rfl
    · intro vv W K hB hd HK
      simp only [conf8Rules] at HK
      clear hd
      have hT := (hB.block bs zs4).trans HS4.out
      go_wp2_with (refine wpList_load_row rfl 29 _ rfl bs rfl 29 _ _ _ hT Try.underlying29 rfl (snsize _ _ _ _) ?_)
      refine HK.out _ _ (Below.refl _ _) ?_
      rfl
    · intro vv W K hB hd HK
      simp only [conf8Rules] at HK
      clear hd
      go_wp2
      refine HK.out _ _ (Below.refl _ _) ?_
      rfl
    · intro vv W K hB hd HK
      simp only [confRules, conf8Rules, cond7, runFRules] at hd HK
      obtain ⟨h0, h1, h2, _⟩ := hd
      simp only [h0, h1, h2] at HK ⊢
      clear h0 h1 h2
      go_wp2_with (refine (HRUNA.out _ hB).mono ?_; rintro e w9 ⟨u9, rfl, hr9, hB9⟩)
      refine HK.out _ _ hB9 ?_
      exact hr9
    · intro vv W K hB hd HK
      simp only [confRules, conf8Rules, cond7, runFRules] at hd HK
      have r3 := hd
      clear hd
      simp only [] at HK ⊢
      skip
      go_wp2
      refine HK.out _ _ (Below.refl _ _) ?_
      exact r3
    · intro vv W K hB hd HK
      simp only [confRules, conf8Rules, cond7, runFRules] at hd HK
      have r4 := hd
      clear hd
      simp only [] at HK ⊢
      skip
      obtain ⟨pra, lera, llra, cera, clra, avra, cvra, aura, cura, hh, mra⟩ := r4
      simp only [hh] at HK ⊢
      clear hh
      go_wp2
      refine HK.out _ _ (Below.refl _ _) ?_
      exact ⟨pra, lera, llra, cera, clra, avra, cvra, aura, cura, rfl, mra⟩
    · intro vv W K hB hd HK
      simp only [confRules, conf8Rules, cond7, runFRules] at hd HK
      have r4 := hd
      clear hd
      simp only [] at HK ⊢
      skip
      obtain ⟨pra, lera, llra, cera, clra, avra, cvra, aura, cura, hh, mra⟩ := r4
      simp only [hh] at HK ⊢
      clear hh
      go_wp2
      refine HK.out _ _ (Below.refl _ _) ?_
      rfl
    · intro vv W K hB hd HK
      simp only [] at HK
      clear hd
      go_wp2
      refine HK.out _ _ hB.size ((Below.refl _ _).alloc (Nat.le_refl _) _) (heap_alloc_new _ _)
    · intro vv W K g hB hg hr hp hd HK
      simp only [confRules, conf8Rules, cond7, runFRules] at hd HK
      obtain ⟨r5, r3, h0, h1, h2, _, r4, _⟩ := hd
      simp only [hp, h0, h1, h2] at HK ⊢
      clear h0 h1 h2
      obtain ⟨i1, i2, i3, i4⟩ := r5.row
      go_wp2_with (refine wpList_store_row rfl 35 _ _ rfl g (rowT (vv 5)) rfl i4 35 ResZ hr i1 i2 i3 ?_)
      refine HK.out _ _ rfl ?_
      rfl
  case rahend =>
  intro vv W gra hB hf e7 lra rra
  have e5 := hf 5 (by decide) (by decide)
  simp only [conf8Rules, runFRules] at e5
  obtain ⟨pra, lera, llra, cera, clra, avra, cvra, aura, cura, e5, mra⟩ := e5
  have e6 := hf 6 (by decide) (by decide)
  simp only [conf8Rules] at e6
  rw [e5] at rra
  simp only [e5, e6, e7, dropRules]
  clear hf e7 e5 e6
  have HG6 := Lib.hid rra
  have HZ6 := Lib.hid mra.zn
  have HX6 := Lib.hid ((hB.block w.heap.size (Array.getElem?_eq_some_iff.1 HGX4.out).1).trans HGX4.out)
  have HI6 := Lib.hid (HI4.out.below hB)
  have HB6 := Lib.hid (HB4.out.trans (hB.mono HB4.out.size))
  obtain ⟨w6, hw6⟩ : ∃ w6, W = w6 := ⟨_, rfl⟩
  rw [hw6] at HG6 HZ6 HX6 HI6 HB6 ⊢
  clear hw6 hB rra mra
  have HZM : Hid (∀ z, z ∈ zsA ↔ ∃ f ∈ l2, isRec g epoch next f = true ∧ f.zone = z) := Lib.hid (fun z => by rw [← HEA.out.2.2.2, ← HEA.out.1]; exact zones_recs g epoch next l2 z)
  have HZS : Hid (∀ i a b, zsA[i]? = some a → zsA[i + 1]? = some b → a < b) := Lib.hid (fun i a b ha hb => by
    have h1 := HEA.out.2.2.2
    rw [← h1] at ha hb
    obtain ⟨i1, rfl⟩ := List.getElem?_eq_some_iff.1 ha
    obtain ⟨i2, rfl⟩ := List.getElem?_eq_some_iff.1 hb
    exact zonesOf_lt RA i2)
  obtain ⟨nz, hnz⟩ : ∃ n, zsA.length = n := ⟨_, rfl⟩
  have HNZ := Lib.hid hnz
  have hRA : RA.length ≤ 60 := by
    rw [← HEA.out.1]
    have h2 := recs_length g epoch next l2
    rw [HN2.out] at h2
    omega
  have hnzb : nz ≤ 1000 := by
    rw [← hnz, ← HEA.out.2.2.2]
    unfold zonesOf
    have h1 := compact_le (sortedI (Rl.zones RA))
    rw [sortedI_length] at h1
    unfold Rl.zones at h1
    rw [List.length_map] at h1
    unfold Rl.zones
    omega
  clear hRA
  have HFO := Lib.hid (fun (W : World) (h : RowOf W 51 fndC FndQ a2 l2) => found_any W a2 l2 c2 h (by rw [HN2.out]; omega))
  rw [HN2.out] at HFO
  have x4 : w6.cell? ⟨gra, 4, none⟩ = some (.slice aura zsA.length cura) := (resR_cells HG6.out).2.2.2.2
  have HZR : Hid (RowOf w6 1 iC (fun _ => True) aura zsA) := Lib.hid (by
    obtain ⟨a0, c0, e0, h0, -⟩ := HZ6.out.shape kinI
    simp only [Value.slice.injEq] at e0
    rw [e0.1]
    exact h0)
  clear hnz
  go_wp2_with fail
  refine (HFO.out _ HI6.out).mono ?_
  rintro e9 w9 ⟨u9, rfl, ho9, hB9⟩
  have z9 := hB9.size
  obtain ⟨a9, c9, rfl, hr9, -, -, -, -⟩ := ho9.shape kinFnd
  have HD9 := Lib.hid hr9
  have HI9 := Lib.hid (HI6.out.below hB9)
  have HG9 := Lib.hid ((hB9.block gra (Array.getElem?_eq_some_iff.1 HG6.out).1).trans HG6.out)
  have HX9 := Lib.hid ((hB9.block w.heap.size (Array.getElem?_eq_some_iff.1 HX6.out).1).trans HX6.out)
  have HZR9 := Lib.hid (HZR.out.below hB9)
  have HB9 := Lib.hid (HB6.out.trans (hB9.mono HB6.out.size))
  have zx9 : w.heap.size < w9.heap.size := (Array.getElem?_eq_some_iff.1 HX9.out).1
  have zg9 : gra < w9.heap.size := (Array.getElem?_eq_some_iff.1 HG9.out).1
  rw [HN2.out]
  clear hB9 ho9 hr9 x4
  have HRC := Lib.hid (fun (f : Fnd) (W : World) (hq : FndQ f) => rrecord_any g epoch f W hq)
  have HRD := Lib.hid (fun (f : Fnd) (W : World) (hq : FndQ f) => rrec17_any g HGR.out epoch f W hq)
  rw [HGX.out] at HRC HRD
  have HSRES : Hid (∀ W, Below w9.heap.size w9 W → W.cell? ⟨gra, 4, none⟩ = some (.slice aura nz cura)) := Lib.hid (fun W hW => by have := (resR_cells ((hW.block gra zg9).trans HG9.out)).2.2.2.2; rw [HNZ.out] at this; exact this)
  go_wp2
  go_loopw [60] (fun u wr => ∃ k : Nat, k ≤ n2 ∧ u = .int .i64 k ∧ Below w9.heap.size w9 wr) (fun u _ => n2 - (intOf u).toNat)
  case atStart => exact ⟨0, Nat.zero_le _, rfl, Below.refl _ _⟩
  case round =>
    obtain ⟨k, hk, rfl, hBr⟩ := hrel
    have zr := hBr.size
    have HBR := Lib.hid hBr
    clear hBr
    by_cases hlt : k < n2
    · obtain ⟨f, hf⟩ : ∃ f, l2[k]? = some f := ⟨_, List.getElem?_eq_getElem (by rw [HN2.out]; exact hlt)⟩
      have hq := HI2.out.all f (List.mem_of_getElem? hf)
      have hmem := List.mem_of_getElem? hf
      obtain ⟨ab, ao, rfl, hab, -, -⟩ := HI9.out.at hf
      obtain ⟨db, dd, rfl, hdb, -, -⟩ := HD9.out.at hf
      have HGD := Lib.hid (Rl2.rowOf_range (HD9.out.below HBR.out) kinFnd.size hf)
      have HGF := Lib.hid (Rl2.rowOf_range (HI9.out.below HBR.out) kinFnd.size hf)
      have HIF1 := Lib.hid (size_fnd hq)
      have HIL1 : Hid ((Try.prog.info? 70).map (·.size) = some (fndC f).toList.length) := Lib.hid (size_fnd hq)
      have HI16 := Lib.hid (size_f16 hq)
      have HI16L : Hid ((Try.prog.info? 61).map (·.size) = some (fndC f).toList.length) := Lib.hid (size_f16 hq)
      have HZF1 : Hid ((fndC fnd0).size = (fndC f).size) := Lib.hid (by rw [kinFnd.size f hq]; rfl)
      have HOF1 := Lib.hid (kinFnd.one f hq)
      obtain ⟨hEB, hEN⟩ := recE_num g epoch hq
      have HRCF := Lib.hid (fun W => HRC.out f W hq)
      have HRDF := Lib.hid (fun W => HRD.out f W hq)
      obtain ⟨x, hx⟩ : ∃ x, (recE g epoch f).getD En.E.zero = x := ⟨_, rfl⟩
      obtain ⟨rb, hrb⟩ : ∃ b, (recE g epoch f).isSome = b := ⟨_, rfl⟩
      have hcase : rb = false ∨ (rb = true ∧ decide (next ≤ f.fr.seq) = false) ∨ (rb = true ∧ decide (next ≤ f.fr.seq) = true ∧ zsA.any (fun z => z == f.zone) = true) := by
        cases h1 : rb
        · exact .inl rfl
        · by_cases h2 : next ≤ f.fr.seq
          · refine .inr (.inr ⟨rfl, decide_eq_true h2, ?_⟩)
            rw [List.any_eq_true]
            exact ⟨f.zone, (HZM.out _).2 ⟨f, hmem, by unfold isRec; rw [hrb, h1, decide_eq_true h2]; rfl, rfl⟩, by simp⟩
          · exact .inr (.inl ⟨rfl, decide_eq_false h2⟩)
      have HCASE := Lib.hid hcase
      rw [hx, hrb] at HRCF HRDF
      rw [hx] at hEB hEN
      have HNE : Hid (∀ W, (Op.equalIn 10000 72 (.agg (EC x)) (.agg (EC x))).run Try.prog W = .ok true W) := Lib.hid (fun W => eq_re x x hEB hEB hEN hEN true ⟨fun _ => rfl, fun _ => rfl⟩ W)
      have HIE1 := Lib.hid (size_ent hEB.1)
      have HZE1 : Hid ((EC En.E.zero).size = (EC x).size) := Lib.hid (by rw [EC_size, EC_size, hEB.1]; rfl)
      have HOE1 := Lib.hid (EC_one x)
      have HI4E := Lib.hid (size_re hEB.1)
      have HBE := Lib.hid (built_re x.kind x.first x.count x.block x.many x.mate x.bytes hEB.1)
      have HEC : Hid (∀ (W : World) (b : Nat), W.heap[b]? = some (.cells (EC x) 65 (0, 0)) → (W.cell? ⟨b, 0, none⟩ = some (.int .i64 x.kind) ∧ W.cell? ⟨b, 1, none⟩ = some (.int .i64 x.first) ∧ W.cell? ⟨b, 2, none⟩ = some (.int .i64 x.count) ∧ W.cell? ⟨b, 3, none⟩ = some (.int .i64 x.block) ∧ W.cell? ⟨b, 4, none⟩ = some (.int .i64 x.many) ∧ W.cell? ⟨b, 5, none⟩ = some (.int .i64 x.mate)) ∧ W.rangeAt b 6 (byteCells x.bytes).toList) := Lib.hid (fun W b h => ⟨ent_cells h, ent_range h⟩)
      have HIB : Hid ((Try.prog.info? 63).map (·.size) = some (byteCells x.bytes).toList.length) := Lib.hid (by rw [Array.length_toList, size_byteCells, hEB.1]; exact (zero_of_info Try.infoBkZ).2)
      have hxe : EC ⟨x.kind, x.first, x.count, x.block, x.many, x.mate, x.bytes⟩ = EC x := rfl
      rw [hxe] at HBE
      obtain ⟨k0, hk0⟩ : ∃ k, x.kind = k := ⟨_, rfl⟩
      obtain ⟨k1, hk1⟩ : ∃ k, x.first = k := ⟨_, rfl⟩
      obtain ⟨k2, hk2⟩ : ∃ k, x.count = k := ⟨_, rfl⟩
      obtain ⟨k3, hk3⟩ : ∃ k, x.block = k := ⟨_, rfl⟩
      obtain ⟨k4, hk4⟩ : ∃ k, x.many = k := ⟨_, rfl⟩
      obtain ⟨k5, hk5⟩ : ∃ k, x.mate = k := ⟨_, rfl⟩
      rw [hk0, hk1, hk2, hk3, hk4, hk5] at HBE HEC
      obtain ⟨BX, hBX⟩ : ∃ B, (byteCells x.bytes).toList = B := ⟨_, rfl⟩
      have hba : byteCells x.bytes = BX.toArray := by rw [← hBX]
      rw [hBX] at HEC HIB
      rw [hba] at HBE
      have HFC : Hid (∀ (W : World) (b : Nat), W.heap[b]? = some (.cells (fndC f) 61 (0, 0)) → W.cell? ⟨b, 0, none⟩ = some (.int .i64 f.zone) ∧ W.cell? ⟨b, 6, none⟩ = some (.int .i64 f.fr.seq)) := Lib.hid (fun W b hh => ⟨(fnd_cells hh).1, (fnd_cells hh).2.2.2.2.2⟩)
      obtain ⟨CF, hCF⟩ : ∃ C, fndC f = C := ⟨_, rfl⟩
      rw [hCF] at HGD HGF HIF1 HIL1 HI16 HI16L HZF1 HOF1 HRCF HRDF HFC
      obtain ⟨zn, hzn⟩ : ∃ z, f.zone = z := ⟨_, rfl⟩
      obtain ⟨sq, hsq⟩ : ∃ z, f.fr.seq = z := ⟨_, rfl⟩
      rw [hzn, hsq] at HFC HCASE
      obtain ⟨CE, hCE⟩ : ∃ C, EC x = C := ⟨_, rfl⟩
      rw [hCE] at HRCF HRDF HNE HIE1 HZE1 HOE1 HI4E HBE HEC
      obtain ⟨FZ, hFZ⟩ : ∃ Z, fndC fnd0 = Z := ⟨_, rfl⟩
      rw [hFZ] at hz61 HZF1
      obtain ⟨EZ, hEZ⟩ : ∃ Z, EC En.E.zero = Z := ⟨_, rfl⟩
      rw [hEZ] at hz65 hz72 HZE1
      obtain ⟨W1, hW1⟩ : ∃ W, wr.alloc (.cells CF 61) = W := ⟨_, rfl⟩
      have hb1 : Below wr.heap.size wr W1 := by rw [← hW1]; exact (Below.refl _ _).alloc (Nat.le_refl _) _
      have hf1 : W1.heap[wr.heap.size]? = some (.cells CF 61 (0, 0)) := by rw [← hW1]; exact heap_alloc_new wr _
      have zf1 : wr.heap.size < W1.heap.size := (Array.getElem?_eq_some_iff.1 hf1).1
      have HF1 := Lib.hid hf1
      have hbb1 := HBR.out.trans (hb1.mono zr)
      have HBB1 := Lib.hid hbb1
      have HX1 := Lib.hid ((hbb1.block w.heap.size zx9).trans HX9.out)
      have HGF1 : Hid (∀ W, Below W1.heap.size W1 W → W.rangeAt ab (ao + k * 51) CF.toList) := Lib.hid (fun W hW => by
        rw [← hCF]
        exact Rl2.rowOf_range (HI9.out.below (hbb1.trans (hW.mono hbb1.size))) kinFnd.size hf)
      have HW1 := Lib.hid hW1
      clear hf hq hmem hEB hEN hx hrb hcase hxe hk0 hk1 hk2 hk3 hk4 hk5 hBX hba hCF hzn hsq hCE hFZ hEZ hW1 hb1 hf1 hbb1 hab hdb HGF
      go_upto_region 12 with (first | (refine wpList_load_mid rfl 61 _ rfl db (dd + k * 51) rfl CF.toList _ HGD.out Try.underlying61 rfl HI16L.out ?_) | (refine wpList_store_row rfl 61 _ _ rfl wr.heap.size CF rfl rfl 61 FZ (heap_alloc_new wr _) HI16.out HZF1.out HOF1.out ?_; rw [World.setRow_alloc_new]))
      rw [HW1.out]
      try rw [put_none]
      obtain ⟨E, hE⟩ : ∃ E, wr.heap.size = E := ⟨_, rfl⟩
      rw [hE] at HF1 zf1 zr ⊢
      clear hE
      have zx1 : w.heap.size < W1.heap.size := by omega
      refine wp_region_conf8 12 [Fact.eq (.agg GX), Fact.eq (.int .i64 epoch), Fact.eq (.slice (some ⟨ab, ao, none⟩) n2 c2), Fact.eq (.int .i64 (k : Nat)), Fact.eq (.pointer (some ⟨ab, ao + k * 51, none⟩)), Fact.eq (.agg CF), Fact.eq (.tuple #[.agg CE, .bool rb]), Fact.eq (.tuple #[.agg CE, .bool rb]), Fact.eq (.agg CE), Fact.eq (.bool rb), Fact.eq undef, Fact.eq undef] 10 11 EZ CE 65 ?rcA (by kernel_rfl) (by kernel_rfl) (by kernel_rfl) ?rchA ?rchs ?rcho ?rchend
      case rchA =>
        intro vv
        simp only [putRules, Nat.reduceAdd]
        rfl
      case rchs =>
        intro j u W gg hj hg hr hp
        match j, hj with
        | 0, _ => exact hp
        | 1, _ => exact hp
        | 2, _ => exact hp
        | 3, _ => exact hp
        | 4, _ => exact hp
        | 5, _ => exact hp
        | 6, _ => exact hp
        | 7, _ => exact hp
        | 8, _ => exact hp
        | 9, _ => exact hp
        | 10, _ => exact hp
        | 11, _ => exact hp
      case rcho =>
        refine ⟨?_, ?_, ?_, ?_, ?_, ?_, ?_, ?_, ?_, ?_, ?_, ?_, trivial⟩
        · intro vv W K hB hd HK
          simp only [conf8Rules] at HK
          clear hd
          have hT := (hB.block w.heap.size zx1).trans HX1.out
          refine wpList_load_row rfl 23 _ rfl w.heap.size rfl 23 _ _ _ hT Try.underlying23 rfl HGI.out ?_
          refine HK.out _ _ (Below.refl _ _) ?_
          rfl
        · intro vv W K hB hd HK
          simp only [conf8Rules] at HK
          clear hd
          go_wp2
          refine HK.out _ _ (Below.refl _ _) ?_
          rfl
        · intro vv W K hB hd HK
          simp only [conf8Rules] at HK
          clear hd
          go_wp2
          refine HK.out _ _ (Below.refl _ _) ?_
          rfl
        · intro vv W K hB hd HK
          simp only [conf8Rules] at HK
          clear hd
          go_wp2
          refine HK.out _ _ (Below.refl _ _) ?_
          rfl
        · intro vv W K hB hd HK
          simp only [confRules, conf8Rules, cond7] at hd HK
          obtain ⟨h2, h3⟩ := hd
          simp only [h2, h3] at HK ⊢
          clear h2 h3
          go_wp2
          refine HK.out _ _ (Below.refl _ _) ?_
          rfl
        · intro vv W K hB hd HK
          simp only [confRules, conf8Rules, cond7] at hd HK
          have h4 := hd
          clear hd
          simp only [h4] at HK ⊢
          clear h4
          refine wpList_load_mid rfl 70 _ rfl ab (ao + k * 51) rfl CF.toList _ (HGF1.out W hB) Try.underlying70 rfl HIL1.out ?_
          refine HK.out _ _ (Below.refl _ _) ?_
          rfl
        · intro vv W K hB hd HK
          simp only [confRules, conf8Rules, cond7] at hd HK
          obtain ⟨h0, h1, h5⟩ := hd
          simp only [h0, h1, h5] at HK ⊢
          clear h0 h1 h5
          go_wp2_with (refine (HRCF.out _).mono ?_; rintro e w9 ⟨rfl, hB9⟩)
          refine HK.out _ _ hB9 ?_
          rfl
        · intro vv W K hB hd HK
          simp only [confRules, conf8Rules, cond7] at hd HK
          have h6 := hd
          clear hd
          simp only [h6] at HK ⊢
          clear h6
          go_wp2
          refine HK.out _ _ (Below.refl _ _) ?_
          rfl
        · intro vv W K hB hd HK
          simp only [confRules, conf8Rules, cond7] at hd HK
          have h7 := hd
          clear hd
          simp only [h7] at HK ⊢
          clear h7
          go_wp2
          refine HK.out _ _ (Below.refl _ _) ?_
          rfl
        · intro vv W K hB hd HK
          simp only [confRules, conf8Rules, cond7] at hd HK
          have h7 := hd
          clear hd
          simp only [h7] at HK ⊢
          clear h7
          go_wp2
          refine HK.out _ _ (Below.refl _ _) ?_
          rfl
        · intro vv W K hB hd HK
          simp only [] at HK
          clear hd
          go_wp2
          refine HK.out _ _ hB.size ((Below.refl _ _).alloc (Nat.le_refl _) _) (heap_alloc_new _ _)
        · intro vv W K g hB hg hr hp hd HK
          simp only [confRules, conf8Rules, cond7] at hd HK
          obtain ⟨h8, h6, h0, h1, h2, h3, h4, h5, _, h7, _⟩ := hd
          simp only [hp, h8, h6, h0, h1, h2, h3, h4, h5, h7] at HK ⊢
          clear h8 h6 h0 h1 h2 h3 h4 h5 h7
          go_wp2_with (refine wpList_store_row rfl 65 _ _ rfl g CE rfl rfl 65 EZ hr HIE1.out HZE1.out HOE1.out ?_)
          refine HK.out _ _ rfl ?_
          rfl
      case rchend =>
      intro vv W g10 hB hf e10 l10 r10
      have e9 := hf 9 (by decide) (by decide)
      simp only [conf8Rules] at e9
      simp only [e9, e10, dropRules]
      clear hf e10 e9
      go_upto_region 13 with (fail)
      have HF2 := Lib.hid ((hB.block E zf1).trans HF1.out)
      have HX2 := Lib.hid ((hB.block w.heap.size zx1).trans HX1.out)
      have HE2 := Lib.hid r10
      have HB2 := Lib.hid (HBB1.out.trans (hB.mono HBB1.out.size))
      have z2 := hB.size
      obtain ⟨W2, hW2⟩ : ∃ W2, W = W2 := ⟨_, rfl⟩
      rw [hW2] at HF2 HX2 HE2 HB2 z2 ⊢
      clear hW2 hB r10
      go_wp2_with (first | (refine wpList_load_row rfl 23 _ rfl w.heap.size rfl 23 _ _ _ HX2.out Try.underlying23 rfl HGI.out ?_) | (refine wpList_load_row rfl 61 _ rfl E rfl 61 _ _ _ HF2.out Try.underlying61 rfl HI16.out ?_))
      refine (HRDF.out _).mono ?_
      rintro e3 w3 ⟨rfl, hB3⟩
      have z3 := hB3.size
      obtain ⟨W4', hW4⟩ : ∃ W, w3.alloc (.cells CE 72) = W := ⟨_, rfl⟩
      have hb4 : Below W2.heap.size W2 W4' := by rw [← hW4]; exact hB3.alloc z3 _
      have hd4 : W4'.heap[w3.heap.size]? = some (.cells CE 72 (0, 0)) := by rw [← hW4]; exact heap_alloc_new w3 _
      have hE4 := (hb4.block g10 (Array.getElem?_eq_some_iff.1 HE2.out).1).trans HE2.out
      obtain ⟨⟨c0, c1, c2', c3, c4, c5⟩, hrg⟩ := HEC.out W4' g10 hE4
      have HRG := Lib.hid hrg
      have HD4 := Lib.hid hd4
      have zd4 : w3.heap.size < W4'.heap.size := (Array.getElem?_eq_some_iff.1 hd4).1
      have HF4 := Lib.hid ((hb4.block E (by omega)).trans HF2.out)
      have HB4' := Lib.hid (HB2.out.trans (hb4.mono (by omega)))
      have z4 := hb4.size
      obtain ⟨W5, hW5⟩ : ∃ W, W4'.alloc (.cells CE 72) = W := ⟨_, rfl⟩
      have hb5 : Below W4'.heap.size W4' W5 := by rw [← hW5]; exact (Below.refl _ _).alloc (Nat.le_refl _) _
      have hq5 : W5.heap[W4'.heap.size]? = some (.cells CE 72 (0, 0)) := by rw [← hW5]; exact heap_alloc_new W4' _
      have HQ5 := Lib.hid hq5
      have HD5 := Lib.hid ((hb5.block _ zd4).trans hd4)
      have HF5 := Lib.hid ((hb5.block E (by omega)).trans HF4.out)
      have HB5 := Lib.hid (HB4'.out.trans (hb5.mono (by omega)))
      have zF5 : E < W5.heap.size := (Array.getElem?_eq_some_iff.1 HF5.out).1
      have HW4' := Lib.hid hW4
      have HW5 := Lib.hid hW5
      clear hB3 hW4 hb4 hd4 hE4 hrg hW5 hb5 hq5
      go_upto_region 14 with (refine wpList_store_row rfl 72 _ _ rfl w3.heap.size CE rfl rfl 72 EZ (heap_alloc_new w3 _) HI4E.out HZE1.out HOE1.out ?_; rw [World.setRow_alloc_new])
      rw [HW4'.out]
      try rw [put_none]
      go_upto_region 15 with (refine wpList_load_mid (by rfl) 63 _ (by rfl) g10 6 (by rfl) BX _ HRG.out Try.underlying63 rfl HIB.out ?_; go_upto_region 15 with (refine wpList_build_on (by rfl) 72 _ (by rfl) #[(0, .int .i64 k0), (1, .int .i64 k1), (2, .int .i64 k2), (3, .int .i64 k3), (4, .int .i64 k4), (5, .int .i64 k5), (6, .agg BX.toArray)] (by simp [Act.eval, Act.put]) _ HBE.out ?_; go_upto_region 15 with (refine wpList_store_row (by rfl) 72 _ _ (by rfl) W4'.heap.size CE (by rfl) (by rfl) 72 EZ (heap_alloc_new W4' _) HI4E.out HZE1.out HOE1.out ?_; rw [World.setRow_alloc_new])))
      rw [HW5.out]
      try rw [put_none]
      clear c0 c1 c2' c3 c4 c5
      have tb : (rb != rb) = false := by simp
      go_upto_region 17 with (refine wpList_row_on (by rfl) 72 _ (by rfl) W4'.heap.size (by rfl) 72 _ _ _ HQ5.out Try.underlying72 rfl HI4E.out ?_; go_upto_region 17 with (refine wpList_row_on (by rfl) 72 _ (by rfl) w3.heap.size (by rfl) 72 _ _ _ HD5.out Try.underlying72 rfl HI4E.out ?_; go_upto_region 17 with (refine wpList_neq_on (by rfl) 72 72 _ _ (by rfl) CE CE (by rfl) (by rfl) (by kernel_rfl) true HNE.out ?_)))
      clear tb
      have x5 := HSRES.out W5 HB5.out
      go_upto_region 19 with (fail)
      clear x5
      have HZR5 := Lib.hid (HZR9.out.below HB5.out)
      have hany0 : (zsA.take 0).any (fun z => z == zn) = false := rfl
      have HAN : Hid (zsA.any (fun z => z == zn) = (zsA.take nz).any (fun z => z == zn)) := Lib.hid (by rw [List.take_of_length_le (by rw [HNZ.out]; exact Nat.le_refl _)])
      rw [HAN.out] at HCASE
      go_loopw [21, 108] (fun t u wr => ∃ j : Nat, j ≤ nz ∧ u = .int .i64 j ∧ t = .bool ((zsA.take j).any (fun z => z == zn)) ∧ Below W5.heap.size W5 wr) (fun _ u _ => nz - (intOf u).toNat)
      case atStart => exact ⟨0, Nat.zero_le _, rfl, rfl, Below.refl _ _⟩
      case round =>
        obtain ⟨j, hj, rfl, rfl, hBi⟩ := hrel
        have zi := hBi.size
        have HBI := Lib.hid hBi
        clear hBi
        by_cases hlt2 : j < nz
        · obtain ⟨z, hzj⟩ : ∃ z, zsA[j]? = some z := ⟨_, List.getElem?_eq_getElem (by rw [HNZ.out]; exact hlt2)⟩
          obtain ⟨zb, zo, rfl, -, hzc, -⟩ := (HZR5.out.below HBI.out).at hzj
          have hst := any_take (fun z : Int => z == zn) hzj
          have hc0 : wr.cell? ⟨zb, zo + j, none⟩ = some (.int .i64 z) := by
            have h1 := hzc 0 (by omega)
            rw [Nat.mul_one, Nat.add_zero] at h1
            exact h1
          have hf0 := (HFC.out wr E ((HBI.out.block E zF5).trans HF5.out)).1
          obtain ⟨cur, hcur⟩ : ∃ b, (zsA.take j).any (fun z => z == zn) = b := ⟨_, rfl⟩
          obtain ⟨nxt, hnxt⟩ : ∃ b, (zsA.take (j + 1)).any (fun z => z == zn) = b := ⟨_, rfl⟩
          have HNX := Lib.hid hnxt
          rw [hcur, hnxt] at hst
          rw [hcur]
          have hc3 : (cur = true ∧ nxt = true) ∨ (cur = false ∧ (z == zn) = true ∧ nxt = true) ∨ (cur = false ∧ (z == zn) = false ∧ nxt = false) := by
            rw [hst]
            cases cur
            · cases h : (z == zn)
              · exact .inr (.inr ⟨rfl, rfl, rfl⟩)
              · exact .inr (.inl ⟨rfl, rfl, rfl⟩)
            · exact .inl ⟨rfl, rfl⟩
          clear hzj hzc hst hcur hnxt
          rcases hc3 with ⟨rfl, rfl⟩ | ⟨rfl, t1, rfl⟩ | ⟨rfl, t1, rfl⟩
          all_goals
            go_wp2
            have hnx := HNX.out
            first | exact ⟨⟨j + 1, by omega, by go_num, by rw [hnx], HBI.out⟩, by simp [intOf]; omega⟩ | (refine ⟨⟨_, _, _, ⟨j + 1, by omega, ?_, ?_, HBI.out⟩, rfl, rfl, rfl⟩, by simp [intOf]; omega⟩; go_num; rw [hnx])
        · have hjn : j = nz := by omega
          rw [hjn]
          obtain ⟨told, htold⟩ : ∃ b, (zsA.take nz).any (fun z => z == zn) = b := ⟨_, rfl⟩
          rw [htold] at HCASE ⊢
          have hq0 := (HFC.out wr E ((HBI.out.block E zF5).trans HF5.out)).2
          have HBW := Lib.hid (HB5.out.trans (HBI.out.mono (by have := HB5.out.size; omega)))
          clear htold hjn
          rcases HCASE.out with rfl | ⟨rfl, t1⟩ | ⟨rfl, t1, rfl⟩
          all_goals
            go_wp2
            exact ⟨⟨k + 1, by omega, by go_num, HBW.out⟩, by simp [intOf]; omega⟩
    · have x5 := HSRES.out wr HBR.out
      have HZRr := Lib.hid (HZR9.out.below HBR.out)
      have HIr := Lib.hid (HI9.out.below HBR.out)
      have HXr := Lib.hid ((HBR.out.block w.heap.size zx9).trans HX9.out)
      have HGr := Lib.hid ((HBR.out.block gra zg9).trans HG9.out)
      have HBrr := Lib.hid (HB9.out.trans (HBR.out.mono (by omega)))
      have hkn : k = n2 := by omega
      obtain ⟨wA, hwA⟩ : ∃ x, wr = x := ⟨_, rfl⟩
      rw [hwA] at HZRr HIr HXr HGr HBrr x5 zr ⊢
      have HSR3 : Hid (∀ W, Below wA.heap.size wA W → W.cell? ⟨gra, 4, none⟩ = some (.slice aura nz cura)) := Lib.hid (fun W hW => HSRES.out W (by have h1 := HBR.out; rw [hwA] at h1; exact h1.trans (hW.mono (by omega))))
      go_upto_region 27 with (fail)
      clear x5 hlt hk hkn hwA HBR
      have zxr : w.heap.size < wA.heap.size := (Array.getElem?_eq_some_iff.1 HXr.out).1
      go_loopw [136] (fun u wr => ∃ i : Nat, i ≤ nz ∧ u = .int .i64 i ∧ Below wA.heap.size wA wr) (fun u _ => nz - (intOf u).toNat)
      case atStart => exact ⟨0, Nat.zero_le _, rfl, Below.refl _ _⟩
      case round =>
        obtain ⟨i, hi, rfl, hBi⟩ := hrel
        have zi := hBi.size
        have HBI := Lib.hid hBi
        clear hBi
        by_cases hlt3 : i < nz
        · obtain ⟨z, hz⟩ : ∃ z, zsA[i]? = some z := ⟨_, List.getElem?_eq_getElem (by rw [HNZ.out]; exact hlt3)⟩
          obtain ⟨zb, zo, rfl, hzb, hzc, -⟩ := (HZRr.out.below HBI.out).at hz
          have hc0 : wr.cell? ⟨zb, zo + i, none⟩ = some (.int .i64 z) := by
            have h1 := hzc 0 (by omega)
            rw [Nat.mul_one, Nat.add_zero] at h1
            exact h1
          have hzin : z ∈ zsA := List.mem_of_getElem? hz
          have hsome : l2.any (fun f => isRec g epoch next f && (f.zone == z)) = true := by
            obtain ⟨f, hf, h1, h2⟩ := (HZM.out z).1 hzin
            rw [List.any_eq_true]
            exact ⟨f, hf, by rw [h1, h2]; simp⟩
          have hprev : ∀ i', i = i' + 1 → ∃ z', (∀ W, Below wA.heap.size wA W → W.cell? ⟨zb, zo + i', none⟩ = some (.int .i64 z')) ∧ decide (z ≤ z') = false := fun i' he => by
            obtain ⟨z', hz'⟩ : ∃ z', zsA[i']? = some z' := ⟨_, List.getElem?_eq_getElem (by rw [HNZ.out]; omega)⟩
            refine ⟨z', fun W hW => ?_, decide_eq_false (by have := HZS.out i' z' z hz' (by rw [← he]; exact hz); omega)⟩
            obtain ⟨b', o', e', -, hc', -⟩ := (HZRr.out.below hW).at hz'
            cases e'
            have h1 := hc' 0 (by omega)
            rw [Nat.mul_one, Nat.add_zero] at h1
            exact h1
          have HPREV := Lib.hid hprev
          have HSOME := Lib.hid hsome
          have HIi := Lib.hid (HIr.out.below HBI.out)
          clear hz hzc hzin hsome hprev hzb
          go_upto_region 30 with (fail)
          clear hc0
          go_wp2_with fail
          refine (HFO.out _ HIi.out).mono ?_
          rintro e10 w10 ⟨u10, rfl, ho10, hB10⟩
          have z10 := hB10.size
          obtain ⟨a10, c10, rfl, hr10, -, -, -, -⟩ := ho10.shape kinFnd
          have HD10 := Lib.hid hr10
          have HB10 := Lib.hid (HBI.out.trans (hB10.mono zi))
          have HX10 := Lib.hid ((HB10.out.block w.heap.size zxr).trans HXr.out)
          have zx10 : w.heap.size < w10.heap.size := (Array.getElem?_eq_some_iff.1 HX10.out).1
          rw [HN2.out]
          clear hB10 ho10 hr10
          go_upto_region 31 with (fail)
          have HAN : Hid (l2.any (fun f => isRec g epoch next f && (f.zone == z)) = (l2.take n2).any (fun f => isRec g epoch next f && (f.zone == z))) := Lib.hid (by rw [List.take_of_length_le (by rw [HN2.out]; exact Nat.le_refl _)])
          go_loopw [26, 144] (fun t u wr => ∃ j : Nat, j ≤ n2 ∧ u = .int .i64 j ∧ t = .bool ((l2.take j).any (fun f => isRec g epoch next f && (f.zone == z))) ∧ Below w10.heap.size w10 wr) (fun _ u _ => n2 - (intOf u).toNat)
          case atStart => exact ⟨0, Nat.zero_le _, rfl, rfl, Below.refl _ _⟩
          case round =>
            obtain ⟨j, hj, rfl, rfl, hBj⟩ := hrel
            have zj := hBj.size
            have HBJ := Lib.hid hBj
            clear hBj
            by_cases hlt4 : j < n2
            · obtain ⟨f, hf⟩ : ∃ f, l2[j]? = some f := ⟨_, List.getElem?_eq_getElem (by rw [HN2.out]; exact hlt4)⟩
              have hq := HI2.out.all f (List.mem_of_getElem? hf)
              obtain ⟨db, dd, rfl, -, -, -⟩ := HD10.out.at hf
              have HGD := Lib.hid (Rl2.rowOf_range (HD10.out.below HBJ.out) kinFnd.size hf)
              have HI16 := Lib.hid (size_f16 hq)
              have HI16L : Hid ((Try.prog.info? 61).map (·.size) = some (fndC f).toList.length) := Lib.hid (size_f16 hq)
              have HZF1 : Hid ((fndC fnd0).size = (fndC f).size) := Lib.hid (by rw [kinFnd.size f hq]; rfl)
              have HOF1 := Lib.hid (kinFnd.one f hq)
              obtain ⟨hEB, -⟩ := recE_num g epoch hq
              have HRDF := Lib.hid (fun W => HRD.out f W hq)
              have hst := any_take (fun f => isRec g epoch next f && (f.zone == z)) hf
              have hisr : isRec g epoch next f = ((recE g epoch f).isSome && decide (next ≤ f.fr.seq)) := rfl
              obtain ⟨x, hx⟩ : ∃ x, (recE g epoch f).getD En.E.zero = x := ⟨_, rfl⟩
              obtain ⟨rb, hrb⟩ : ∃ b, (recE g epoch f).isSome = b := ⟨_, rfl⟩
              rw [hx, hrb] at HRDF
              rw [hx] at hEB
              rw [hisr, hrb] at hst
              have HI4E := Lib.hid (size_re hEB.1)
              have HZE1 : Hid ((EC En.E.zero).size = (EC x).size) := Lib.hid (by rw [EC_size, EC_size, hEB.1]; rfl)
              have HOE1 := Lib.hid (EC_one x)
              have HFC : Hid (∀ (W : World) (b : Nat), W.heap[b]? = some (.cells (fndC f) 61 (0, 0)) → W.cell? ⟨b, 0, none⟩ = some (.int .i64 f.zone) ∧ W.cell? ⟨b, 6, none⟩ = some (.int .i64 f.fr.seq)) := Lib.hid (fun W b hh => ⟨(fnd_cells hh).1, (fnd_cells hh).2.2.2.2.2⟩)
              obtain ⟨CF, hCF⟩ : ∃ C, fndC f = C := ⟨_, rfl⟩
              rw [hCF] at HGD HI16 HI16L HZF1 HOF1 HRDF HFC
              obtain ⟨zn, hzn⟩ : ∃ z, f.zone = z := ⟨_, rfl⟩
              obtain ⟨sq, hsq⟩ : ∃ z, f.fr.seq = z := ⟨_, rfl⟩
              rw [hzn, hsq] at HFC hst
              obtain ⟨CE, hCE⟩ : ∃ C, EC x = C := ⟨_, rfl⟩
              rw [hCE] at HRDF HZE1 HOE1 HI4E
              obtain ⟨FZ, hFZ⟩ : ∃ Z, fndC fnd0 = Z := ⟨_, rfl⟩
              rw [hFZ] at hz61 HZF1
              obtain ⟨EZ, hEZ⟩ : ∃ Z, EC En.E.zero = Z := ⟨_, rfl⟩
              rw [hEZ] at hz72 HZE1
              obtain ⟨cur, hcur⟩ : ∃ b, (l2.take j).any (fun f => isRec g epoch next f && (f.zone == z)) = b := ⟨_, rfl⟩
              obtain ⟨nxt, hnxt⟩ : ∃ b, (l2.take (j + 1)).any (fun f => isRec g epoch next f && (f.zone == z)) = b := ⟨_, rfl⟩
              have HNX := Lib.hid hnxt
              rw [hcur, hnxt] at hst
              rw [hcur]
              have hc3 : (cur = true ∧ nxt = true) ∨ (cur = false ∧ rb = false ∧ nxt = false) ∨ (cur = false ∧ rb = true ∧ decide (next ≤ sq) = false ∧ nxt = false) ∨ (cur = false ∧ rb = true ∧ decide (next ≤ sq) = true ∧ (zn == z) = true ∧ nxt = true) ∨ (cur = false ∧ rb = true ∧ decide (next ≤ sq) = true ∧ (zn == z) = false ∧ nxt = false) := by
                rw [hst]
                cases cur
                · cases rb
                  · exact .inr (.inl ⟨rfl, rfl, by simp⟩)
                  · cases h1 : decide (next ≤ sq)
                    · exact .inr (.inr (.inl ⟨rfl, rfl, rfl, by simp⟩))
                    · cases h2 : (zn == z)
                      · exact .inr (.inr (.inr (.inr ⟨rfl, rfl, rfl, rfl, by simp⟩)))
                      · exact .inr (.inr (.inr (.inl ⟨rfl, rfl, rfl, rfl, by simp⟩)))
                · exact .inl ⟨rfl, by simp⟩
              have HC3 := Lib.hid hc3
              obtain ⟨W1, hW1⟩ : ∃ W, wr.alloc (.cells CF 61) = W := ⟨_, rfl⟩
              have hb1 : Below wr.heap.size wr W1 := by rw [← hW1]; exact (Below.refl _ _).alloc (Nat.le_refl _) _
              have hf1 : W1.heap[wr.heap.size]? = some (.cells CF 61 (0, 0)) := by rw [← hW1]; exact heap_alloc_new wr _
              have zf1 : wr.heap.size < W1.heap.size := (Array.getElem?_eq_some_iff.1 hf1).1
              have HF1 := Lib.hid hf1
              have hbb1 := HBJ.out.trans (hb1.mono zj)
              have HBB1 := Lib.hid hbb1
              have HX1 := Lib.hid ((hbb1.block w.heap.size zx10).trans HX10.out)
              have HW1 := Lib.hid hW1
              clear hf hq hEB hst hisr hx hrb hCF hzn hsq hCE hFZ hEZ hcur hnxt hc3 hW1 hb1 hf1 hbb1
              go_upto_region 33 with (refine wpList_load_mid rfl 61 _ rfl db (dd + j * 51) rfl CF.toList _ HGD.out Try.underlying61 rfl HI16L.out ?_; go_upto_region 33 with (refine wpList_store_row rfl 61 _ _ rfl wr.heap.size CF rfl rfl 61 FZ (heap_alloc_new wr _) HI16.out HZF1.out HOF1.out ?_; rw [World.setRow_alloc_new]))
              rw [HW1.out]
              try rw [put_none]
              obtain ⟨E, hE⟩ : ∃ E, wr.heap.size = E := ⟨_, rfl⟩
              rw [hE] at HF1 zf1 zj ⊢
              clear hE
              go_wp2_with (refine wpList_load_row rfl 23 _ rfl w.heap.size rfl 23 _ _ _ HX1.out Try.underlying23 rfl HGI.out ?_; go_wp2_with (refine wpList_load_row rfl 61 _ rfl E rfl 61 _ _ _ HF1.out Try.underlying61 rfl HI16.out ?_))
              refine (HRDF.out _).mono ?_
              rintro e3 w3 ⟨rfl, hB3⟩
              have z3 := hB3.size
              obtain ⟨W2, hW2⟩ : ∃ W, w3.alloc (.cells CE 72) = W := ⟨_, rfl⟩
              have hb2 : Below W1.heap.size W1 W2 := by rw [← hW2]; exact hB3.alloc z3 _
              obtain ⟨f0, f6⟩ := HFC.out W2 E ((hb2.block E zf1).trans HF1.out)
              have HB2 := Lib.hid (HBB1.out.trans (hb2.mono (by omega)))
              have HW2 := Lib.hid hW2
              clear hB3 hW2 hb2
              go_upto_region 34 with (refine wpList_store_row rfl 72 _ _ rfl w3.heap.size CE rfl rfl 72 EZ (heap_alloc_new w3 _) HI4E.out HZE1.out HOE1.out ?_; rw [World.setRow_alloc_new])
              rw [HW2.out]
              try rw [put_none]
              rcases HC3.out with ⟨rfl, rfl⟩ | ⟨rfl, rfl, rfl⟩ | ⟨rfl, rfl, t1, rfl⟩ | ⟨rfl, rfl, t1, t2, rfl⟩ | ⟨rfl, rfl, t1, t2, rfl⟩
              all_goals
                go_wp2
                have hnx := HNX.out
                first | exact ⟨⟨j + 1, by omega, by go_num, by rw [hnx], HB2.out⟩, by simp [intOf]; omega⟩ | (refine ⟨⟨_, _, _, ⟨j + 1, by omega, ?_, ?_, HB2.out⟩, rfl, rfl, rfl⟩, by simp [intOf]; omega⟩; go_num; rw [hnx])
            · have hjn : j = n2 := by omega
              rw [hjn, ← HAN.out, HSOME.out]
              have HBK := Lib.hid (HB10.out.trans (HBJ.out.mono (by omega)))
              have x9 := HSR3.out wr HBK.out
              by_cases hi0 : i = 0
              · subst hi0
                clear hjn
                go_wp2
                first | exact ⟨⟨0 + 1, by omega, by go_num, HBK.out⟩, by simp [intOf]; omega⟩
              · obtain ⟨i', rfl⟩ : ∃ i', i = i' + 1 := ⟨i - 1, by omega⟩
                obtain ⟨z', hcp, t9⟩ := HPREV.out i' rfl
                have c9 := hcp wr HBK.out
                have t8 : decide ((0 : Int) < ((i' + 1 : Nat) : Int)) = true := decide_eq_true (by omega)
                have t7 : decide (0 < i' + 1) = true := decide_eq_true (by omega)
                have hsub : (((i' + 1 : Nat) : Int) - 1) = (i' : Int) := by omega
                clear hjn hcp
                go_wp2
                first | exact ⟨⟨i' + 1 + 1, by omega, by go_num, HBK.out⟩, by simp [intOf]; omega⟩
        · have hin : i = nz := by omega
          have HBF := Lib.hid (HBrr.out.trans (HBI.out.mono (by omega)))
          clear hin
          go_wp2
          go_ret
          exact ⟨rfl, HBF.out⟩
end Go.Proofs.Ytoiephmngdecaaa
