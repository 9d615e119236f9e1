/- Proved here, one behind the other: Proved here: the walk of the law on a list that is cut. -/
import Derived.LoopTactic
import Derived.Test.YtoiephmngdecaaaQa
import Derived.Test.YtoiephmngdecaaaQb
import Derived.Test.YtoiephmngdecaaaQc
import Derived.Test.YtoiephmngdecaaaQd
import Derived.Test.YtoiephmngdecaaaQe
import Derived.Test.YtoiephmngdecaaaQf
import Derived.Test.YtoiephmngdecaaaQg
import Derived.Test.YtoiephmngdecaaaQh
namespace Go.Proofs.Ytoiephmngdecaaa
open Go.RowKit Go.Rv Rl Frm
set_option linter.unusedVariables false
attribute [local go_sem] Oper.semAt_some
namespace Rl
theorem filter_take {α : Type} (p : α → Bool) {l : List α} {k : Nat} {x : α} (h : l[k]? = some x) : (l.take (k + 1)).filter p = (l.take k).filter p ++ (if p x = true then [x] else []) := by
  rw [List.take_add_one, h, List.filter_append]
  simp only [Option.toList_some]
  congr 1
  by_cases hp : p x = true <;> simp [hp]
theorem cuts_law (g : Geo.G) (epoch next cut : Int) (l : List Fnd) (es : List BE) (R R' : List (Int × Rec)) (hR : recs g epoch next l = R) (hR' : recs g epoch next (l.filter fun f => decide (f.fr.seq < cut)) = R') :
    (next + (runLen R' next : Nat) = max (min (next + (runLen R next : Nat)) cut) next) ∧ (runSt g es next R').applied ≤ (runSt g es next R).applied := by
  rw [recs_cut, hR] at hR'
  have h1 := runLen_cut R next cut
  rw [hR'] at h1
  refine ⟨by omega, ?_⟩
  unfold runSt
  rw [← hR', after_cut g R next cut _ _ (by rw [hR', h1]; omega), hR']
  obtain ⟨d, hd⟩ : ∃ d, runLen R next = runLen R' next + d := ⟨runLen R next - runLen R' next, by omega⟩
  rw [hd]
  exact (after_applied g R next (st0 g es) (runLen R' next) d).1
end Rl
set_option maxRecDepth 100000 in
set_option maxHeartbeats 32000000 in
theorem roll_cuts_walk (w : World) (g : Geo.G) (a1 : Option Addr) (l1 : List (Int × BE)) (c1 : Nat) (epoch next : Int) (a2 : Option Addr) (l2 : List Fnd) (c2 : Nat) (cut : Int) (hI1 : RowOf w 7 opC Op64 a1 l1) (hI2 : RowOf w 51 fndC FndQ a2 l2) :
    Calls Try.prog 6 #[.agg (GC g), .slice a1 l1.length c1, .int .i64 epoch, .int .i64 next, .slice a2 l2.length c2, .int .i64 cut] w fun e w' => e = .returned (.bool true) ∧ Below w.heap.size w w' := by
  have HA := Lib.hid (fun (W : World) => roll_anchor W)
  have HGI := Lib.hid (gsize (g := g))
  have HMA : Hid (∀ W, Below w.heap.size w W → Calls Try.prog 10 #[.agg (GC g), .slice a1 l1.length c1, .int .i64 epoch, .int .i64 next] W (MadePost17 W g l1 epoch next)) := Lib.hid (fun W hW => made17_any g a1 l1 c1 epoch next W (hI1.below hW))
  have HNW := Lib.hid (fun (W : World) => new_any W)
  have hzs := (zero_of_info Try.infoSnz).1
  have hzf := (zero_of_info Try.infoFnd).1
  have hzr := (zero_of_info Try.infoRes).1
  have HI2 := Lib.hid hI2
  obtain ⟨W0, hW0⟩ : ∃ W, w.alloc (.cells (GC g) 23) = W := ⟨_, rfl⟩
  have hb0 : Below w.heap.size w W0 := by rw [← hW0]; exact (Below.refl _ _).alloc (Nat.le_refl _) _
  have hg0 : W0.heap[w.heap.size]? = some (.cells (GC g) 23 (0, 0)) := by rw [← hW0]; exact heap_alloc_new w _
  have zg0 : w.heap.size < W0.heap.size := (Array.getElem?_eq_some_iff.1 hg0).1
  have HW0 := Lib.hid hW0
  have HG0 := Lib.hid hg0
  have HB0 := Lib.hid hb0
  obtain ⟨GX, hGX⟩ : ∃ X, GC g = X := ⟨_, rfl⟩
  rw [hGX] at HGI HMA HW0 HG0 ⊢
  obtain ⟨TV, hTV⟩ : ∃ T, Tb.tabV = T := ⟨_, rfl⟩
  rw [hTV] at HNW
  have HTV := Lib.hid hTV
  obtain ⟨n1, hn1⟩ : ∃ n, l1.length = n := ⟨_, rfl⟩
  rw [hn1] at HMA ⊢
  obtain ⟨n2, hn2⟩ : ∃ n, l2.length = n := ⟨_, rfl⟩
  rw [hn2]
  have HN2 := Lib.hid hn2
  obtain ⟨XZ, hXZ⟩ : ∃ X, SZ = X := ⟨_, rfl⟩
  rw [hXZ] at hzs
  have HXZ := Lib.hid hXZ
  clear hI1 hI2 hW0 hb0 hg0 hGX hTV hn1 hn2 hXZ
  go_enter Try.func6, Try.ntmps6
  go_upto_region 1 with (fail)
  rw [HW0.out]
  go_wp2_with fail
  refine (HA.out _).mono ?_
  rintro e1 w1 ⟨rfl, hB1⟩
  have z1 := hB1.size
  have HG1 := Lib.hid ((hB1.block w.heap.size zg0).trans HG0.out)
  have HB1 := Lib.hid (HB0.out.trans (hB1.mono HB0.out.size))
  clear hB1
  go_wp2_with (refine wpList_load_row rfl 23 _ rfl w.heap.size rfl 23 _ _ _ HG1.out Try.underlying23 rfl HGI.out ?_)
  refine (HMA.out _ HB1.out).mono ?_
  rintro e3 w3 ⟨S1, v3, ok, rfl, ⟨hS1, hS2, hS3⟩, hB3, hmade⟩
  have z3 := hB3.size
  have HS1 := Lib.hid hS1
  have HS2 := Lib.hid hS2
  rw [HXZ.out] at hS3
  have HS3 := Lib.hid hS3
  have HB3 := Lib.hid (HB1.out.trans (hB3.mono HB1.out.size))
  obtain ⟨W4, hW4⟩ : ∃ W, w3.alloc (.cells S1 29) = W := ⟨_, rfl⟩
  have hb4 : Below w3.heap.size w3 W4 := by rw [← hW4]; exact (Below.refl _ _).alloc (Nat.le_refl _) _
  have hs4 : W4.heap[w3.heap.size]? = some (.cells S1 29 (0, 0)) := by rw [← hW4]; exact heap_alloc_new w3 _
  have zs4 : w3.heap.size < W4.heap.size := (Array.getElem?_eq_some_iff.1 hs4).1
  have HS4 := Lib.hid hs4
  have HB4 := Lib.hid (HB3.out.trans (hb4.mono HB3.out.size))
  have HI4 := Lib.hid (HI2.out.below HB4.out)
  have HW4 := Lib.hid hW4
  have HMD := Lib.hid hmade
  have HK4 := Lib.hid hb4
  clear hB3 hS1 hS2 hS3 hb4 hs4 hW4 hmade
  go_upto_region 4 with (refine wpList_store_row rfl 29 _ _ rfl w3.heap.size S1 rfl rfl 29 XZ (heap_alloc_new w3 _) HS1.out HS3.out HS2.out ?_; rw [World.setRow_alloc_new])
  rw [HW4.out]
  try rw [put_none]
  obtain ⟨bs, hbs⟩ : ∃ b, w3.heap.size = b := ⟨_, rfl⟩
  have HBS := Lib.hid hbs
  rw [hbs] at HS4 zs4 ⊢
  clear hbs
  rcases HMD.out with ⟨rfl, -, -⟩ | ⟨hok, hgr, p, le, ll, rfl, hbm, hmo, -, -⟩
  · go_wp2
    go_ret
    exact ⟨rfl, HB4.out⟩
  cases hrt : Sn.right 1 epoch next (madeEs g l1)
  · rw [hrt] at hok
    subst hok
    clear hgr hbm hmo hrt
    go_wp2
    go_ret
    exact ⟨rfl, HB4.out⟩
  rw [hrt] at hok
  subst hok
  have HBM4 := Lib.hid (hbm.below (HK4.out))
  have HOK := Lib.hid hmo
  have HGR := Lib.hid hgr
  have HRT := Lib.hid hrt
  clear hgr hbm hmo hrt HMD
  by_cases hbig : 40 < n2
  · have t1 : decide (40 < n2) = true := decide_eq_true hbig
    have t2 : decide ((40 : Int) < (n2 : Int)) = true := decide_eq_true (by omega)
    go_wp2
    go_ret
    exact ⟨rfl, HB4.out⟩
  have t1 : decide (40 < n2) = false := decide_eq_false hbig
  have t2 : decide ((40 : Int) < (n2 : Int)) = false := decide_eq_false (by omega)
  go_upto_region 6 with (fail)
  clear t1 t2
  obtain ⟨B, hB⟩ : ∃ B, W4.heap.size = B := ⟨_, rfl⟩
  have hsB : bs < B := by omega
  have HB := Lib.hid hB
  go_wp2
  go_loopw [16, 43] (fun x u wr => ∃ (k : Nat) (v : Value), k ≤ n2 ∧ u = .int .i64 k ∧ v = x ∧ OwnM wr 70 51 fndC FndQ B v ((l2.take k).filter fun f => decide (f.fr.seq < cut)) ∧ Below B W4 wr) (fun _ u _ => n2 - (intOf u).toNat)
  case atStart => exact ⟨0, _, Nat.zero_le _, rfl, rfl, OwnM.nil _ _ _ _ _ _, Below.refl _ _⟩
  case round =>
    obtain ⟨k, v, hk, rfl, rfl, hown, hBr⟩ := hrel
    have zr := hBr.size
    rw [hB] at zr
    have HOW := Lib.hid hown
    have HBR := Lib.hid hBr
    clear hown hBr hB
    by_cases hlt : k < n2
    · obtain ⟨f, hf⟩ : ∃ f, l2[k]? = some f := ⟨_, List.getElem?_eq_getElem (by rw [HN2.out]; exact hlt)⟩
      have hq := HI2.out.all f (List.mem_of_getElem? hf)
      obtain ⟨ab, ao, rfl, -, -, -⟩ := HI2.out.at hf
      have HGF := Lib.hid (Rl2.rowOf_range (HI4.out.below (by rw [HB.out]; exact HBR.out)) kinFnd.size hf)
      have hft := filter_take (fun f : Fnd => decide (f.fr.seq < cut)) hf
      have HIF1 := Lib.hid (size_fnd hq)
      have HIL1 : Hid ((Try.prog.info? 70).map (·.size) = some (fndC f).toList.length) := Lib.hid (size_fnd hq)
      have HZF1 : Hid ((fndC fnd0).size = (fndC f).size) := Lib.hid (by rw [kinFnd.size f hq]; rfl)
      have HOF1 := Lib.hid (kinFnd.one f hq)
      have HLF : Hid (((l2.take k).filter fun f => decide (f.fr.seq < cut)).length ≤ 1000) := Lib.hid (by have h1 := List.length_filter_le (fun f : Fnd => decide (f.fr.seq < cut)) (l2.take k); rw [List.length_take] at h1; omega)
      have HQ := Lib.hid hq
      obtain ⟨W5, hW5⟩ : ∃ W, wr.alloc (.cells (fndC f) 70) = W := ⟨_, rfl⟩
      have hb5 : Below wr.heap.size wr W5 := by rw [← hW5]; exact (Below.refl _ _).alloc (Nat.le_refl _) _
      have hf5 : W5.heap[wr.heap.size]? = some (.cells (fndC f) 70 (0, 0)) := by rw [← hW5]; exact heap_alloc_new wr _
      have HF5 := Lib.hid hf5
      have HO5 := Lib.hid (HOW.out.below hb5)
      have HB5 := Lib.hid (HBR.out.trans (hb5.mono zr))
      have c6 := (fnd_cells hf5).2.2.2.2.2
      obtain ⟨CF, hCF⟩ : ∃ C, fndC f = C := ⟨_, rfl⟩
      rw [hCF] at hW5 HGF HIF1 HIL1 HZF1 HOF1 HF5
      have HW5 := Lib.hid hW5
      have HCF := Lib.hid hCF
      obtain ⟨sq, hsq⟩ : ∃ s, f.fr.seq = s := ⟨_, rfl⟩
      rw [hsq] at c6 hft
      have hcase : (decide (sq < cut) = true ∧ ((l2.take (k + 1)).filter fun f => decide (f.fr.seq < cut)) = ((l2.take k).filter fun f => decide (f.fr.seq < cut)) ++ [f]) ∨ (decide (sq < cut) = false ∧ ((l2.take (k + 1)).filter fun f => decide (f.fr.seq < cut)) = ((l2.take k).filter fun f => decide (f.fr.seq < cut))) := by
        by_cases h : sq < cut
        · exact .inl ⟨decide_eq_true h, by rw [hft, if_pos (decide_eq_true h)]⟩
        · exact .inr ⟨decide_eq_false h, by rw [hft, if_neg (by simp [h]), List.append_nil]⟩
      have HCASE := Lib.hid hcase
      obtain ⟨FZ, hFZ⟩ : ∃ Z, fndC fnd0 = Z := ⟨_, rfl⟩
      rw [hFZ] at hzf HZF1
      clear hf hq hft hb5 hf5 hW5 hCF hsq hcase hFZ
      go_upto_region 10 with (first | (refine wpList_load_mid rfl 70 _ rfl ab (ao + k * 51) rfl CF.toList _ HGF.out Try.underlying70 rfl HIL1.out ?_) | (refine wpList_store_row rfl 70 _ _ rfl wr.heap.size CF rfl rfl 70 FZ (heap_alloc_new wr _) HIF1.out HZF1.out HOF1.out ?_; rw [World.setRow_alloc_new]))
      rw [HW5.out]
      try rw [put_none]
      rcases HCASE.out with ⟨t1, hst⟩ | ⟨t1, hst⟩
      · have HST := Lib.hid hst
        clear hst
        obtain ⟨W6, hW6⟩ : ∃ W, W5.alloc (.cells CF 70) = W := ⟨_, rfl⟩
        have hb6 : Below W5.heap.size W5 W6 := by rw [← hW6]; exact (Below.refl _ _).alloc (Nat.le_refl _) _
        have hf6 : W6.heap[W5.heap.size]? = some (.cells CF 70 (0, 0)) := by rw [← hW6]; exact heap_alloc_new W5 _
        have HR6 : Hid (RowOf W6 51 fndC FndQ (some ⟨W5.heap.size, 0, none⟩) [f]) := Lib.hid (one_rowOf (t := 70) (fr := (0, 0)) (by rw [HCF.out]; exact hf6) HQ.out)
        have HO6 := Lib.hid (HO5.out.below hb6)
        have hs6 : B ≤ W6.heap.size := by have h1 := HB5.out.size; have h2 := hb6.size; have h3 := HB.out; omega
        have HB6 := Lib.hid (HB5.out.trans (hb6.mono (by have h1 := HB5.out.size; have h3 := HB.out; omega)))
        have HW6 := Lib.hid hW6
        clear hW6 hb6 hf6
        go_upto_region 11 with (fail)
        clear c6
        go_wp2_with (first | (refine wpList_load_row rfl 70 _ rfl wr.heap.size rfl 70 _ _ _ HF5.out Try.underlying70 rfl HIF1.out ?_) | (refine wpList_slice1f rfl (.tmp 53) rfl f HQ.out.2.2.1.1 CF HCF.out rfl ?_; rw [HW6.out]) | (at_builtin; refine wpList_appendM rfl (.tmp 52) (.tmp 54) 25 rfl 70 51 fndC FndQ kinFnd (by decide) (.agg (fndC fnd0)) 104 Try.underlying25 Try.infoFnd3 rfl B _ ((l2.take k).filter fun f => decide (f.fr.seq < cut)) rfl HO6.out (some ⟨W5.heap.size, 0, none⟩) 1 [f] (by rfl) HR6.out (by simp) (by have := HLF.out; unfold maxLen; simp; omega) (by have := HLF.out; simp; omega) hs6 ?_; intro v11 w11 hv11 hg11 _; have HV11 := Lib.hid hv11; have HB11 := Lib.hid (HB6.out.trans (HO6.out.grown hg11 hs6)); clear hv11 hg11))
        have hv := HV11.out
        rw [← HST.out] at hv
        first | exact ⟨⟨k + 1, _, by omega, by go_num, rfl, hv, HB11.out⟩, by simp [intOf]; omega⟩ | (refine ⟨⟨_, _, _, ⟨k + 1, by omega, ?_, hv, HB11.out⟩, rfl, rfl, rfl⟩, by simp [intOf]; omega⟩; go_num)
      · have HST := Lib.hid hst
        clear hst
        go_wp2
        have hv := HO5.out
        rw [← HST.out] at hv
        first | exact ⟨⟨k + 1, _, by omega, by go_num, rfl, hv, HB5.out⟩, by simp [intOf]; omega⟩ | (refine ⟨⟨_, _, _, ⟨k + 1, by omega, ?_, hv, HB5.out⟩, rfl, rfl, rfl⟩, by simp [intOf]; omega⟩; go_num)
    · have hkn : k = n2 := by omega
      have hown := HOW.out
      rw [hkn, List.take_of_length_le (by rw [HN2.out]; exact Nat.le_refl _)] at hown
      obtain ⟨LL, hLL⟩ : ∃ L, (l2.filter fun f => decide (f.fr.seq < cut)) = L := ⟨_, rfl⟩
      have hll : LL.length ≤ 1000 := by have h1 := List.length_filter_le (fun f : Fnd => decide (f.fr.seq < cut)) l2; rw [hLL, HN2.out] at h1; omega
      rw [hLL] at hown
      obtain ⟨a5, c5, rfl, hr5, -, -, -, -⟩ := hown.shape kinFnd
      obtain ⟨n5, hn5⟩ : ∃ n, LL.length = n := ⟨_, rfl⟩
      have HN5 := Lib.hid hn5
      have HLL := Lib.hid hLL
      have HR5 := Lib.hid hr5
      have hbw : Below W4.heap.size W4 wr := by rw [HB.out]; exact HBR.out
      have HBMr := Lib.hid (HBM4.out.below hbw)
      have HSr := Lib.hid ((hbw.block bs (by rw [HB.out]; exact hsB)).trans HS4.out)
      have HIr := Lib.hid (HI4.out.below hbw)
      have zsr : bs < wr.heap.size := by omega
      have HBr := Lib.hid (HB4.out.trans (hbw.mono HB4.out.size))
      have hl5 : n5 ≤ 1000 := by omega
      rw [hn5]
      clear hown hLL hr5 hn5 hll hbw hkn
      obtain ⟨RA, hRA⟩ : ∃ R, recs g epoch next (l2) = R := ⟨_, rfl⟩
      obtain ⟨nA, hnA⟩ : ∃ n, runLen RA next = n := ⟨_, rfl⟩
      obtain ⟨stA, hstA⟩ : ∃ s, runSt g (madeEs g l1) next RA = s := ⟨_, rfl⟩
      obtain ⟨zsA, hzsA⟩ : ∃ z, zonesOf RA = z := ⟨_, rfl⟩
      have HRUNA : Hid (∀ W, Below wr.heap.size wr W → Calls Try.prog 11 #[.agg TV, .agg (SnC 1 epoch next p), .slice (a2) n2 (c2)] W fun e w' => ∃ u, e = .returned u ∧ RunT wr.heap.size g next nA stA zsA u w' ∧ Below W.heap.size W w') := Lib.hid (fun W hW => by
        have h1 := rrun_fact W p le ll _ _ g (madeEs g l1) HGR.out (HBMr.out.below hW) HOK.out 1 epoch next HRT.out (a2) (l2) (c2) (HIr.out.below hW) (by have := HN2.out; omega) hW.size
        rw [HTV.out, HN2.out, hRA, hnA, hstA, hzsA] at h1
        exact h1)
      have HEA := Lib.hid (And.intro hRA (And.intro hnA (And.intro hstA hzsA)))
      clear hRA hnA hstA hzsA
      go_upto_region 13 with (fail)
      clear hlt hk
      refine wp_region_conf13 9 [Fact.eq (.agg TV), Fact.eq (.agg (SnC 1 epoch next p)), Fact.eq (.slice a2 n2 c2), Fact.runT wr.heap.size g next nA stA zsA, Fact.runT wr.heap.size g next nA stA zsA, Fact.runA wr.heap.size g next nA stA zsA, Fact.eq (.int .i64 0), Fact.eq undef, Fact.eq undef] 7 8 5 ResZ 35 ?raA (by kernel_rfl) (by kernel_rfl) (by kernel_rfl) (by kernel_rfl) ?rahA ?rahs ?raho ?rahend
      case rahA =>
        intro vv
        simp only [putRules, Nat.reduceAdd]
        rfl
      case rahs =>
        intro j u W gg C hj hg hr hp
        match j, hj with
        | 0, _ => exact hp
        | 1, _ => exact hp
        | 2, _ => exact hp
        | 3, _ => exact RunT.setRow (show RunT wr.heap.size g next nA stA zsA u W from hp) hr C
        | 4, _ => exact RunT.setRow (show RunT wr.heap.size g next nA stA zsA u W from hp) hr C
        | 5, _ => exact RunA.setRow (show RunA wr.heap.size g next nA stA zsA u W from hp) hr C
        | 6, _ => exact hp
        | 7, _ => exact hp
        | 8, _ => exact hp
      case raho =>
        refine ⟨?_, ?_, ?_, ?_, ?_, ?_, ?_, ?_, ?_, trivial⟩
        · intro vv W K hB hd HK
          simp only [conf8Rules] at HK
          clear hd
          go_wp2_with (refine (HNW.out _).mono ?_; rintro e w9 ⟨rfl, hB9⟩)
          refine HK.out _ _ hB9 ?_
          rfl
        · intro vv W K hB hd HK
          simp only [conf8Rules] at HK
          clear hd
          have hT := (hB.block bs zsr).trans HSr.out
          go_wp2_with (refine wpList_load_row rfl 29 _ rfl bs rfl 29 _ _ _ hT Try.underlying29 rfl (snsize _ _ _ _) ?_)
          refine HK.out _ _ (Below.refl _ _) ?_
          rfl
        · intro vv W K hB hd HK
          simp only [conf8Rules] at HK
          clear hd
          go_wp2
          refine HK.out _ _ (Below.refl _ _) ?_
          rfl
        · intro vv W K hB hd HK
          simp only [confRules, conf8Rules, cond7, runFRules] at hd HK
          obtain ⟨h0, h1, h2, _⟩ := hd
          simp only [h0, h1, h2] at HK ⊢
          clear h0 h1 h2
          go_wp2_with (refine (HRUNA.out _ hB).mono ?_; rintro e w9 ⟨u9, rfl, hr9, hB9⟩)
          refine HK.out _ _ hB9 ?_
          exact hr9
        · intro vv W K hB hd HK
          simp only [confRules, conf8Rules, cond7, runFRules] at hd HK
          have r3 := hd
          clear hd
          simp only [] at HK ⊢
          skip
          go_wp2
          refine HK.out _ _ (Below.refl _ _) ?_
          exact r3
        · intro vv W K hB hd HK
          simp only [confRules, conf8Rules, cond7, runFRules] at hd HK
          have r4 := hd
          clear hd
          simp only [] at HK ⊢
          skip
          obtain ⟨pra, lera, llra, cera, clra, avra, cvra, aura, cura, hh, mra⟩ := r4
          simp only [hh] at HK ⊢
          clear hh
          go_wp2
          refine HK.out _ _ (Below.refl _ _) ?_
          exact ⟨pra, lera, llra, cera, clra, avra, cvra, aura, cura, rfl, mra⟩
        · intro vv W K hB hd HK
          simp only [confRules, conf8Rules, cond7, runFRules] at hd HK
          have r4 := hd
          clear hd
          simp only [] at HK ⊢
          skip
          obtain ⟨pra, lera, llra, cera, clra, avra, cvra, aura, cura, hh, mra⟩ := r4
          simp only [hh] at HK ⊢
          clear hh
          go_wp2
          refine HK.out _ _ (Below.refl _ _) ?_
          rfl
        · intro vv W K hB hd HK
          simp only [] at HK
          clear hd
          go_wp2
          refine HK.out _ _ hB.size ((Below.refl _ _).alloc (Nat.le_refl _) _) (heap_alloc_new _ _)
        · intro vv W K g hB hg hr hp hd HK
          simp only [confRules, conf8Rules, cond7, runFRules] at hd HK
          obtain ⟨r5, r3, h0, h1, h2, _, r4, _⟩ := hd
          simp only [hp, h0, h1, h2] at HK ⊢
          clear h0 h1 h2
          obtain ⟨i1, i2, i3, i4⟩ := r5.row
          go_wp2_with (refine wpList_store_row rfl 35 _ _ rfl g (rowT (vv 5)) rfl i4 35 ResZ hr i1 i2 i3 ?_)
          refine HK.out _ _ rfl ?_
          rfl
      case rahend =>
      intro vv W gra hB hf e7 lra rra
      have e5 := hf 5 (by decide) (by decide)
      simp only [conf8Rules, runFRules] at e5
      obtain ⟨pra, lera, llra, cera, clra, avra, cvra, aura, cura, e5, mra⟩ := e5
      have e6 := hf 6 (by decide) (by decide)
      simp only [conf8Rules] at e6
      rw [e5] at rra
      simp only [e5, e6, e7, dropRules]
      clear hf e7 e5 e6
      have HBM6 := Lib.hid (HBMr.out.below hB)
      have HS6 := Lib.hid ((hB.block bs zsr).trans HSr.out)
      have HI6 := Lib.hid (HR5.out.below hB)
      have HB6 := Lib.hid (HBr.out.trans (hB.mono HBr.out.size))
      have zs6 : bs < W.heap.size := by have := hB.size; omega
      have HM6 := Lib.hid mra
      have HG6 := Lib.hid rra
      obtain ⟨w6, hw6⟩ : ∃ w6, W = w6 := ⟨_, rfl⟩
      rw [hw6] at HBM6 HS6 HI6 HB6 HM6 HG6 zs6 ⊢
      clear hw6 hB mra rra
      obtain ⟨RB, hRB⟩ : ∃ R, recs g epoch next (LL) = R := ⟨_, rfl⟩
      obtain ⟨nB, hnB⟩ : ∃ n, runLen RB next = n := ⟨_, rfl⟩
      obtain ⟨stB, hstB⟩ : ∃ s, runSt g (madeEs g l1) next RB = s := ⟨_, rfl⟩
      obtain ⟨zsB, hzsB⟩ : ∃ z, zonesOf RB = z := ⟨_, rfl⟩
      have HRUNB : Hid (∀ W, Below w6.heap.size w6 W → Calls Try.prog 11 #[.agg TV, .agg (SnC 1 epoch next p), .slice (a5) n5 (c5)] W fun e w' => ∃ u, e = .returned u ∧ RunT w6.heap.size g next nB stB zsB u w' ∧ Below W.heap.size W w') := Lib.hid (fun W hW => by
        have h1 := rrun_fact W p le ll _ _ g (madeEs g l1) HGR.out (HBM6.out.below hW) HOK.out 1 epoch next HRT.out (a5) (LL) (c5) (HI6.out.below hW) (by have := HN5.out; omega) hW.size
        rw [HTV.out, HN5.out, hRB, hnB, hstB, hzsB] at h1
        exact h1)
      have HEB := Lib.hid (And.intro hRB (And.intro hnB (And.intro hstB hzsB)))
      clear hRB hnB hstB hzsB
      go_upto_region 14 with (fail)
      refine wp_region_conf13 9 [Fact.eq (.agg TV), Fact.eq (.agg (SnC 1 epoch next p)), Fact.eq (.slice a5 n5 c5), Fact.runT w6.heap.size g next nB stB zsB, Fact.runT w6.heap.size g next nB stB zsB, Fact.runA w6.heap.size g next nB stB zsB, Fact.eq (.int .i64 0), Fact.eq undef, Fact.eq undef] 7 8 5 ResZ 35 ?rbA (by kernel_rfl) (by kernel_rfl) (by kernel_rfl) (by kernel_rfl) ?rbhA ?rbhs ?rbho ?rbhend
      case rbhA =>
        intro vv
        simp only [putRules, Nat.reduceAdd]
        rfl
      case rbhs =>
        intro j u W gg C hj hg hr hp
        match j, hj with
        | 0, _ => exact hp
        | 1, _ => exact hp
        | 2, _ => exact hp
        | 3, _ => exact RunT.setRow (show RunT w6.heap.size g next nB stB zsB u W from hp) hr C
        | 4, _ => exact RunT.setRow (show RunT w6.heap.size g next nB stB zsB u W from hp) hr C
        | 5, _ => exact RunA.setRow (show RunA w6.heap.size g next nB stB zsB u W from hp) hr C
        | 6, _ => exact hp
        | 7, _ => exact hp
        | 8, _ => exact hp
      case rbho =>
        refine ⟨?_, ?_, ?_, ?_, ?_, ?_, ?_, ?_, ?_, trivial⟩
        · intro vv W K hB hd HK
          simp only [conf8Rules] at HK
          clear hd
          go_wp2_with (refine (HNW.out _).mono ?_; rintro e w9 ⟨rfl, hB9⟩)
          refine HK.out _ _ hB9 ?_
          rfl
        · intro vv W K hB hd HK
          simp only [conf8Rules] at HK
          clear hd
          have hT := (hB.block bs zs6).trans HS6.out
          go_wp2_with (refine wpList_load_row rfl 29 _ rfl bs rfl 29 _ _ _ hT Try.underlying29 rfl (snsize _ _ _ _) ?_)
          refine HK.out _ _ (Below.refl _ _) ?_
          rfl
        · intro vv W K hB hd HK
          simp only [conf8Rules] at HK
          clear hd
          go_wp2
          refine HK.out _ _ (Below.refl _ _) ?_
          rfl
        · intro vv W K hB hd HK
          simp only [confRules, conf8Rules, cond7, runFRules] at hd HK
          obtain ⟨h0, h1, h2, _⟩ := hd
          simp only [h0, h1, h2] at HK ⊢
          clear h0 h1 h2
          go_wp2_with (refine (HRUNB.out _ hB).mono ?_; rintro e w9 ⟨u9, rfl, hr9, hB9⟩)
          refine HK.out _ _ hB9 ?_
          exact hr9
        · intro vv W K hB hd HK
          simp only [confRules, conf8Rules, cond7, runFRules] at hd HK
          have r3 := hd
          clear hd
          simp only [] at HK ⊢
          skip
          go_wp2
          refine HK.out _ _ (Below.refl _ _) ?_
          exact r3
        · intro vv W K hB hd HK
          simp only [confRules, conf8Rules, cond7, runFRules] at hd HK
          have r4 := hd
          clear hd
          simp only [] at HK ⊢
          skip
          obtain ⟨prb, lerb, llrb, cerb, clrb, avrb, cvrb, aurb, curb, hh, mrb⟩ := r4
          simp only [hh] at HK ⊢
          clear hh
          go_wp2
          refine HK.out _ _ (Below.refl _ _) ?_
          exact ⟨prb, lerb, llrb, cerb, clrb, avrb, cvrb, aurb, curb, rfl, mrb⟩
        · intro vv W K hB hd HK
          simp only [confRules, conf8Rules, cond7, runFRules] at hd HK
          have r4 := hd
          clear hd
          simp only [] at HK ⊢
          skip
          obtain ⟨prb, lerb, llrb, cerb, clrb, avrb, cvrb, aurb, curb, hh, mrb⟩ := r4
          simp only [hh] at HK ⊢
          clear hh
          go_wp2
          refine HK.out _ _ (Below.refl _ _) ?_
          rfl
        · intro vv W K hB hd HK
          simp only [] at HK
          clear hd
          go_wp2
          refine HK.out _ _ hB.size ((Below.refl _ _).alloc (Nat.le_refl _) _) (heap_alloc_new _ _)
        · intro vv W K g hB hg hr hp hd HK
          simp only [confRules, conf8Rules, cond7, runFRules] at hd HK
          obtain ⟨r5, r3, h0, h1, h2, _, r4, _⟩ := hd
          simp only [hp, h0, h1, h2] at HK ⊢
          clear h0 h1 h2
          obtain ⟨i1, i2, i3, i4⟩ := r5.row
          go_wp2_with (refine wpList_store_row rfl 35 _ _ rfl g (rowT (vv 5)) rfl i4 35 ResZ hr i1 i2 i3 ?_)
          refine HK.out _ _ rfl ?_
          rfl
      case rbhend =>
      intro vv W grb hB hf e7 lrb rrb
      have e5 := hf 5 (by decide) (by decide)
      simp only [conf8Rules, runFRules] at e5
      obtain ⟨prb, lerb, llrb, cerb, clrb, avrb, cvrb, aurb, curb, e5, mrb⟩ := e5
      have e6 := hf 6 (by decide) (by decide)
      simp only [conf8Rules] at e6
      rw [e5] at rrb
      simp only [e5, e6, e7, dropRules]
      clear hf e7 e5 e6
      have HG7 := Lib.hid ((hB.block gra (Array.getElem?_eq_some_iff.1 HG6.out).1).trans HG6.out)
      have HB7 := Lib.hid (HB6.out.trans (hB.mono HB6.out.size))
      obtain ⟨-, x1, x2, -, -⟩ := resR_cells HG7.out
      obtain ⟨-, y1, y2, -, -⟩ := resR_cells rrb
      have hlaw := cuts_law g epoch next cut l2 (madeEs g l1) RA RB HEA.out.1 (by rw [HLL.out]; exact HEB.out.1)
      rw [HEA.out.2.1, HEB.out.2.1, HEA.out.2.2.1, HEB.out.2.2.1] at hlaw
      have HT3 : Hid (∀ x : Int, x = max (min (next + (nA : Nat)) cut) next → (next + (nB : Nat) == x) = true) := Lib.hid (fun x hx => by rw [hx, hlaw.1]; simp)
      have t4 : decide (stB.applied ≤ stA.applied) = true := decide_eq_true hlaw.2
      have t3 : ((next + (nB : Nat) : Int) == max (min (next + (nA : Nat)) cut) next) = true := HT3.out _ rfl
      have HL := Lib.hid hlaw.1
      clear rrb mrb hB hlaw
      go_wp2
      go_ret
      exact ⟨rfl, HB7.out⟩
end Go.Proofs.Ytoiephmngdecaaa
