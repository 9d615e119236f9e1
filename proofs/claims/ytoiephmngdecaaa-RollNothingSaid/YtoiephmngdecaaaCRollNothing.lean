/- Proved here, one behind the other: Proved here: the walk of the law on a list without records of the epoch. -/
import Derived.LoopTactic
import Derived.WalkLawsBesides
import Derived.Test.YtoiephmngdecaaaQa
import Derived.Test.YtoiephmngdecaaaQb
import Derived.Test.YtoiephmngdecaaaQc
import Derived.Test.YtoiephmngdecaaaQd
import Derived.Test.YtoiephmngdecaaaQe
import Derived.Test.YtoiephmngdecaaaQf
import Derived.Test.YtoiephmngdecaaaQg
import Derived.Test.YtoiephmngdecaaaQh
namespace Go.Proofs.Ytoiephmngdecaaa
open Go.RowKit Go.Rv Rl Frm
set_option linter.unusedVariables false
attribute [local go_sem] Oper.semAt_some
namespace Rl
theorem filter_takeN {α : Type} (p : α → Bool) {l : List α} {k : Nat} {x : α} (h : l[k]? = some x) : (l.take (k + 1)).filter p = (l.take k).filter p ++ (if p x = true then [x] else []) := by
  rw [List.take_add_one, h, List.filter_append]
  simp only [Option.toList_some]
  congr 1
  by_cases hp : p x = true <;> simp [hp]
end Rl
namespace Rl
theorem singles_zero : ∀ (n b : Nat), singles (List.replicate n 0) b = []
  | 0, _ => rfl
  | n + 1, b => by
    show (if (0 : Int) < 0 then _ else singles (List.replicate n 0) (b + 1)) = _
    rw [if_neg (by decide)]
    exact singles_zero n (b + 1)
theorem runSt_nil (g : Geo.G) (es : List BE) (next : Int) : runSt g es next [] = st0 g es := by
  unfold runSt
  rw [runLen_nil]
  rfl
theorem zonesOf_nil : zonesOf [] = [] := by
  unfold zonesOf zones
  exact List.eq_nil_of_length_eq_zero (by have := compact_le (sortedI ([] : List Int)); rw [sortedI_length] at this; simpa using this)
theorem st0_singles (g : Geo.G) (es : List BE) : (singles (st0 g es).single 0).length = 0 := by
  unfold st0
  simp only
  rw [singles_zero]
  rfl
end Rl
theorem callsIn_roundR {P : Program} {rr n : Nat} {f : FuncId} {args : Array Value} {w : World} {R : Ending → World → Prop} (h : Calls P f args w R) : CallsIn (Fence.wide.inRound rr) n P f args w R := (callsIn_wide (n := n)).2 h
set_option maxRecDepth 100000 in
set_option maxHeartbeats 32000000 in
theorem roll_nothing_walk (w : World) (g : Geo.G) (a1 : Option Addr) (l1 : List (Int × BE)) (c1 : Nat) (epoch next : Int) (a2 : Option Addr) (l2 : List Fnd) (c2 : Nat) (hI1 : RowOf w 7 opC Op64 a1 l1) (hI2 : RowOf w 51 fndC FndQ a2 l2) :
    Calls Try.prog 8 #[.agg (GC g), .slice a1 l1.length c1, .int .i64 epoch, .int .i64 next, .slice a2 l2.length c2] w fun e w' => e = .returned (.bool true) ∧ Below w.heap.size w w' := by
  have HA := Lib.hid (fun (W : World) => roll_anchor W)
  have HGI := Lib.hid (gsize (g := g))
  have HMA : Hid (∀ W, Below w.heap.size w W → Calls Try.prog 10 #[.agg (GC g), .slice a1 l1.length c1, .int .i64 epoch, .int .i64 next] W (MadePost17 W g l1 epoch next)) := Lib.hid (fun W hW => made17_any g a1 l1 c1 epoch next W (hI1.below hW))
  have HNW := Lib.hid (fun (W : World) => new_any W)
  have hzs := (zero_of_info Try.infoSnz).1
  have hzf := (zero_of_info Try.infoFnd).1
  have hzr := (zero_of_info Try.infoRes).1
  have HI2 := Lib.hid hI2
  obtain ⟨W0, hW0⟩ : ∃ W, (w.alloc (.cells (GC g) 23)).alloc (.cells #[.bool false] 4) = W := ⟨_, rfl⟩
  have hb0 : Below w.heap.size w W0 := by rw [← hW0]; exact ((Below.refl _ _).alloc (Nat.le_refl _) _).alloc (by simp) _
  have hg0 : W0.heap[w.heap.size]? = some (.cells (GC g) 23 (0, 0)) := by rw [← hW0]; exact heap_alloc2_old w _ _
  have hc0 : W0.heap[w.heap.size + 1]? = some (.cells #[.bool false] 4 (0, 0)) := by rw [← hW0]; exact heap_alloc2_new w _ _
  have zg0 : w.heap.size + 1 < W0.heap.size := (Array.getElem?_eq_some_iff.1 hc0).1
  have HC0 := Lib.hid hc0
  have HW0 := Lib.hid hW0
  have HG0 := Lib.hid hg0
  have HB0 := Lib.hid hb0
  obtain ⟨GX, hGX⟩ : ∃ X, GC g = X := ⟨_, rfl⟩
  rw [hGX] at HGI HMA HW0 HG0 ⊢
  have HGX := Lib.hid hGX
  obtain ⟨TV, hTV⟩ : ∃ T, Tb.tabV = T := ⟨_, rfl⟩
  rw [hTV] at HNW
  have HTV := Lib.hid hTV
  obtain ⟨n1, hn1⟩ : ∃ n, l1.length = n := ⟨_, rfl⟩
  rw [hn1] at HMA ⊢
  obtain ⟨n2, hn2⟩ : ∃ n, l2.length = n := ⟨_, rfl⟩
  rw [hn2]
  have HN2 := Lib.hid hn2
  obtain ⟨XZ, hXZ⟩ : ∃ X, SZ = X := ⟨_, rfl⟩
  rw [hXZ] at hzs
  have HXZ := Lib.hid hXZ
  clear hI1 hI2 hW0 hb0 hg0 hc0 hGX hTV hn1 hn2 hXZ
  refine calls_of_marks Try.func8 rfl ?_
  simp only [Try.ntmps8, List.size_toArray, List.length_cons, List.length_nil, Nat.reduceAdd, Nat.reduceSub, Array.replicate_succ, Array.replicate_zero, List.push_toArray, List.append_toArray, List.nil_append, List.cons_append]
  go_upto_region 1 with (fail)
  rw [HW0.out]
  go_wp2_with fail
  refine (HA.out _).mono ?_
  rintro e1 w1 ⟨rfl, hB1⟩
  have z1 := hB1.size
  have HG1 := Lib.hid ((hB1.block w.heap.size (by omega)).trans HG0.out)
  have HC1 := Lib.hid ((hB1.block (w.heap.size + 1) zg0).trans HC0.out)
  have HB1 := Lib.hid (HB0.out.trans (hB1.mono HB0.out.size))
  clear hB1
  go_wp2_with (refine wpList_load_row rfl 23 _ rfl w.heap.size rfl 23 _ _ _ HG1.out Try.underlying23 rfl HGI.out ?_)
  refine (HMA.out _ HB1.out).mono ?_
  rintro e3 w3 ⟨S1, v3, ok, rfl, ⟨hS1, hS2, hS3⟩, hB3, hmade⟩
  have z3 := hB3.size
  have HS1 := Lib.hid hS1
  have HS2 := Lib.hid hS2
  rw [HXZ.out] at hS3
  have HS3 := Lib.hid hS3
  have HB3 := Lib.hid (HB1.out.trans (hB3.mono HB1.out.size))
  obtain ⟨W4, hW4⟩ : ∃ W, w3.alloc (.cells S1 29) = W := ⟨_, rfl⟩
  have hb4 : Below w3.heap.size w3 W4 := by rw [← hW4]; exact (Below.refl _ _).alloc (Nat.le_refl _) _
  have hs4 : W4.heap[w3.heap.size]? = some (.cells S1 29 (0, 0)) := by rw [← hW4]; exact heap_alloc_new w3 _
  have zs4 : w3.heap.size < W4.heap.size := (Array.getElem?_eq_some_iff.1 hs4).1
  have HS4 := Lib.hid hs4
  have HB4 := Lib.hid (HB3.out.trans (hb4.mono HB3.out.size))
  have HC4 := Lib.hid ((hb4.block (w.heap.size + 1) (by omega)).trans ((hB3.block (w.heap.size + 1) (by omega)).trans HC1.out))
  have HG4 := Lib.hid ((hb4.block w.heap.size (by omega)).trans ((hB3.block w.heap.size (by omega)).trans HG1.out))
  have HI4 := Lib.hid (HI2.out.below HB4.out)
  have HW4 := Lib.hid hW4
  have HMD := Lib.hid hmade
  have HK4 := Lib.hid hb4
  clear hB3 hS1 hS2 hS3 hb4 hs4 hW4 hmade
  go_upto_region 4 with (refine wpList_store_row rfl 29 _ _ rfl w3.heap.size S1 rfl rfl 29 XZ (heap_alloc_new w3 _) HS1.out HS3.out HS2.out ?_; rw [World.setRow_alloc_new])
  rw [HW4.out]
  try rw [put_none]
  obtain ⟨bs, hbs⟩ : ∃ b, w3.heap.size = b := ⟨_, rfl⟩
  have HBS := Lib.hid hbs
  rw [hbs] at HS4 zs4 ⊢
  clear hbs
  rcases HMD.out with ⟨rfl, -, -⟩ | ⟨hok, hgr, p, le, ll, rfl, hbm, hmo, -, -⟩
  · clear zs4
    have hcr := cell_of_one HC4.out
    have hfr := free_of_one HC4.out
    go_wp2
    refine leave_marks (v := .bool true) [] _ (by simp) (by simp) ?_
    intro W' hO'
    have hr' := hO'.get (one_setCell HC4.out) (by simp)
    have hc' := cell_of_one hr'
    refine ⟨by simp [results, Try.results8, go_sem, hc'], rfl, ?_⟩
    have h2 : Only [w.heap.size + 1] W4 (W4.setCell ⟨w.heap.size + 1, 0, none⟩ (.bool true)) := (Only.refl _ _).setCell (.inl (by simp)) _
    have h3 : Below w.heap.size w (W4.setCell ⟨w.heap.size + 1, 0, none⟩ (.bool true)) := HB4.out.trans (h2.below (by simp) HB4.out.size)
    exact h3.trans (hO'.below (by simp) h3.size)
  cases hrt : Sn.right 1 epoch next (madeEs g l1)
  · rw [hrt] at hok
    subst hok
    clear hgr hbm hmo hrt
    have hcr := cell_of_one HC4.out
    have hfr := free_of_one HC4.out
    go_wp2
    refine leave_marks (v := .bool true) [] _ (by simp) (by simp) ?_
    intro W' hO'
    have hr' := hO'.get (one_setCell HC4.out) (by simp)
    have hc' := cell_of_one hr'
    refine ⟨by simp [results, Try.results8, go_sem, hc'], rfl, ?_⟩
    have h2 : Only [w.heap.size + 1] W4 (W4.setCell ⟨w.heap.size + 1, 0, none⟩ (.bool true)) := (Only.refl _ _).setCell (.inl (by simp)) _
    have h3 : Below w.heap.size w (W4.setCell ⟨w.heap.size + 1, 0, none⟩ (.bool true)) := HB4.out.trans (h2.below (by simp) HB4.out.size)
    exact h3.trans (hO'.below (by simp) h3.size)
  rw [hrt] at hok
  subst hok
  have HBM4 := Lib.hid (hbm.below (HK4.out))
  have HOK := Lib.hid hmo
  have HGR := Lib.hid hgr
  have HRT := Lib.hid hrt
  clear hgr hbm hmo hrt HMD
  by_cases hbig : 60 < n2
  · have t1 : decide (60 < n2) = true := decide_eq_true hbig
    have t2 : decide ((60 : Int) < (n2 : Int)) = true := decide_eq_true (by omega)
    have hcr := cell_of_one HC4.out
    have hfr := free_of_one HC4.out
    go_wp2
    refine leave_marks (v := .bool true) [] _ (by simp) (by simp) ?_
    intro W' hO'
    have hr' := hO'.get (one_setCell HC4.out) (by simp)
    have hc' := cell_of_one hr'
    refine ⟨by simp [results, Try.results8, go_sem, hc'], rfl, ?_⟩
    have h2 : Only [w.heap.size + 1] W4 (W4.setCell ⟨w.heap.size + 1, 0, none⟩ (.bool true)) := (Only.refl _ _).setCell (.inl (by simp)) _
    have h3 : Below w.heap.size w (W4.setCell ⟨w.heap.size + 1, 0, none⟩ (.bool true)) := HB4.out.trans (h2.below (by simp) HB4.out.size)
    exact h3.trans (hO'.below (by simp) h3.size)
  have t1 : decide (60 < n2) = false := decide_eq_false hbig
  have t2 : decide ((60 : Int) < (n2 : Int)) = false := decide_eq_false (by omega)
  go_upto_region 6 with (fail)
  clear t1 t2
  obtain ⟨B, hB⟩ : ∃ B, W4.heap.size = B := ⟨_, rfl⟩
  have hsB : bs < B := by omega
  have hcB : w.heap.size + 1 < B := by have h1 := (Array.getElem?_eq_some_iff.1 HC4.out).1; omega
  have HB := Lib.hid hB
  go_wp2
  go_loopw [14, 43] (fun x u wr => ∃ (k : Nat) (v : Value), k ≤ n2 ∧ u = .int .i64 k ∧ v = x ∧ OwnM wr 70 51 fndC FndQ B v ((l2.take k).filter fun f => (f.fr.epoch != epoch)) ∧ Below B W4 wr) (fun _ u _ => n2 - (intOf u).toNat)
  case atStart => exact ⟨0, _, Nat.zero_le _, rfl, rfl, OwnM.nil _ _ _ _ _ _, Below.refl _ _⟩
  case round =>
    obtain ⟨k, v, hk, rfl, rfl, hown, hBr⟩ := hrel
    have zr := hBr.size
    rw [hB] at zr
    have HOW := Lib.hid hown
    have HBR := Lib.hid hBr
    clear hown hBr hB
    by_cases hlt : k < n2
    · obtain ⟨f, hf⟩ : ∃ f, l2[k]? = some f := ⟨_, List.getElem?_eq_getElem (by rw [HN2.out]; exact hlt)⟩
      have hq := HI2.out.all f (List.mem_of_getElem? hf)
      obtain ⟨ab, ao, rfl, -, -, -⟩ := HI2.out.at hf
      have HGF := Lib.hid (Rl2.rowOf_range (HI4.out.below (by rw [HB.out]; exact HBR.out)) kinFnd.size hf)
      have hft := filter_takeN (fun f : Fnd => (f.fr.epoch != epoch)) hf
      have HIF1 := Lib.hid (size_fnd hq)
      have HIL1 : Hid ((Try.prog.info? 70).map (·.size) = some (fndC f).toList.length) := Lib.hid (size_fnd hq)
      have HZF1 : Hid ((fndC fnd0).size = (fndC f).size) := Lib.hid (by rw [kinFnd.size f hq]; rfl)
      have HOF1 := Lib.hid (kinFnd.one f hq)
      have HLF : Hid (((l2.take k).filter fun f => (f.fr.epoch != epoch)).length ≤ 1000) := Lib.hid (by have h1 := List.length_filter_le (fun f : Fnd => (f.fr.epoch != epoch)) (l2.take k); rw [List.length_take] at h1; omega)
      have HQ := Lib.hid hq
      obtain ⟨W5, hW5⟩ : ∃ W, wr.alloc (.cells (fndC f) 70) = W := ⟨_, rfl⟩
      have hb5 : Below wr.heap.size wr W5 := by rw [← hW5]; exact (Below.refl _ _).alloc (Nat.le_refl _) _
      have hf5 : W5.heap[wr.heap.size]? = some (.cells (fndC f) 70 (0, 0)) := by rw [← hW5]; exact heap_alloc_new wr _
      have HF5 := Lib.hid hf5
      have HO5 := Lib.hid (HOW.out.below hb5)
      have HB5 := Lib.hid (HBR.out.trans (hb5.mono zr))
      have c6 := (fnd_cells hf5).2.2.2.2.1
      obtain ⟨CF, hCF⟩ : ∃ C, fndC f = C := ⟨_, rfl⟩
      rw [hCF] at hW5 HGF HIF1 HIL1 HZF1 HOF1 HF5
      have HW5 := Lib.hid hW5
      have HCF := Lib.hid hCF
      obtain ⟨sq, hsq⟩ : ∃ s, f.fr.epoch = s := ⟨_, rfl⟩
      rw [hsq] at c6 hft
      have hcase : ((sq != epoch) = true ∧ ((l2.take (k + 1)).filter fun f => (f.fr.epoch != epoch)) = ((l2.take k).filter fun f => (f.fr.epoch != epoch)) ++ [f]) ∨ ((sq != epoch) = false ∧ ((l2.take (k + 1)).filter fun f => (f.fr.epoch != epoch)) = ((l2.take k).filter fun f => (f.fr.epoch != epoch))) := by
        cases h : (sq != epoch)
        · exact .inr ⟨rfl, by rw [hft, if_neg (by rw [h]; simp), List.append_nil]⟩
        · exact .inl ⟨rfl, by rw [hft, if_pos h]⟩
      have HCASE := Lib.hid hcase
      obtain ⟨FZ, hFZ⟩ : ∃ Z, fndC fnd0 = Z := ⟨_, rfl⟩
      rw [hFZ] at hzf HZF1
      clear hf hq hft hb5 hf5 hW5 hCF hsq hcase hFZ
      go_upto_region 10 with (first | (refine wpList_load_mid rfl 70 _ rfl ab (ao + k * 51) rfl CF.toList _ HGF.out Try.underlying70 rfl HIL1.out ?_) | (refine wpList_store_row rfl 70 _ _ rfl wr.heap.size CF rfl rfl 70 FZ (heap_alloc_new wr _) HIF1.out HZF1.out HOF1.out ?_; rw [World.setRow_alloc_new]))
      rw [HW5.out]
      try rw [put_none]
      rcases HCASE.out with ⟨t1, hst⟩ | ⟨t1, hst⟩
      · have HST := Lib.hid hst
        clear hst
        obtain ⟨W6, hW6⟩ : ∃ W, W5.alloc (.cells CF 70) = W := ⟨_, rfl⟩
        have hb6 : Below W5.heap.size W5 W6 := by rw [← hW6]; exact (Below.refl _ _).alloc (Nat.le_refl _) _
        have hf6 : W6.heap[W5.heap.size]? = some (.cells CF 70 (0, 0)) := by rw [← hW6]; exact heap_alloc_new W5 _
        have HR6 : Hid (RowOf W6 51 fndC FndQ (some ⟨W5.heap.size, 0, none⟩) [f]) := Lib.hid (one_rowOf (t := 70) (fr := (0, 0)) (by rw [HCF.out]; exact hf6) HQ.out)
        have HO6 := Lib.hid (HO5.out.below hb6)
        have hs6 : B ≤ W6.heap.size := by have h1 := HB5.out.size; have h2 := hb6.size; have h3 := HB.out; omega
        have HB6 := Lib.hid (HB5.out.trans (hb6.mono (by have h1 := HB5.out.size; have h3 := HB.out; omega)))
        have HW6 := Lib.hid hW6
        clear hW6 hb6 hf6
        go_upto_region 11 with (fail)
        clear c6
        go_wp2_with (first | (refine wpList_load_row rfl 70 _ rfl wr.heap.size rfl 70 _ _ _ HF5.out Try.underlying70 rfl HIF1.out ?_) | (refine wpList_slice1f rfl (.tmp 53) rfl f HQ.out.2.2.1.1 CF HCF.out rfl ?_; rw [HW6.out]) | (at_builtin; refine wpList_appendM rfl (.tmp 52) (.tmp 54) 25 rfl 70 51 fndC FndQ kinFnd (by decide) (.agg (fndC fnd0)) 104 Try.underlying25 Try.infoFnd3 rfl B _ ((l2.take k).filter fun f => (f.fr.epoch != epoch)) rfl HO6.out (some ⟨W5.heap.size, 0, none⟩) 1 [f] (by rfl) HR6.out (by simp) (by have := HLF.out; unfold maxLen; simp; omega) (by have := HLF.out; simp; omega) hs6 ?_; intro v11 w11 hv11 hg11 _; have HV11 := Lib.hid hv11; have HB11 := Lib.hid (HB6.out.trans (HO6.out.grown hg11 hs6)); clear hv11 hg11))
        have hv := HV11.out
        rw [← HST.out] at hv
        first | exact ⟨⟨k + 1, _, by omega, by go_num, rfl, hv, HB11.out⟩, by simp [intOf]; omega⟩ | (refine ⟨⟨_, _, _, ⟨k + 1, by omega, ?_, hv, HB11.out⟩, rfl, rfl, rfl⟩, by simp [intOf]; omega⟩; go_num)
      · have HST := Lib.hid hst
        clear hst
        go_wp2
        have hv := HO5.out
        rw [← HST.out] at hv
        first | exact ⟨⟨k + 1, _, by omega, by go_num, rfl, hv, HB5.out⟩, by simp [intOf]; omega⟩ | (refine ⟨⟨_, _, _, ⟨k + 1, by omega, ?_, hv, HB5.out⟩, rfl, rfl, rfl⟩, by simp [intOf]; omega⟩; go_num)
    · have hkn : k = n2 := by omega
      have hown := HOW.out
      rw [hkn, List.take_of_length_le (by rw [HN2.out]; exact Nat.le_refl _)] at hown
      obtain ⟨LL, hLL⟩ : ∃ L, (l2.filter fun f => (f.fr.epoch != epoch)) = L := ⟨_, rfl⟩
      have hll : LL.length ≤ 1000 := by have h1 := List.length_filter_le (fun f : Fnd => (f.fr.epoch != epoch)) l2; rw [hLL, HN2.out] at h1; omega
      have hnil : recs g epoch next LL = [] := recs_none (fun f hf => by rw [← hLL] at hf; have := (List.mem_filter.1 hf).2; left; simpa using this)
      rw [hLL] at hown
      obtain ⟨a5, c5, rfl, hr5, -, -, -, -⟩ := hown.shape kinFnd
      obtain ⟨n5, hn5⟩ : ∃ n, LL.length = n := ⟨_, rfl⟩
      have HN5 := Lib.hid hn5
      have HNIL := Lib.hid hnil
      have HR5 := Lib.hid hr5
      have hbw : Below W4.heap.size W4 wr := by rw [HB.out]; exact HBR.out
      have HBMr := Lib.hid (HBM4.out.below hbw)
      have HSr := Lib.hid ((hbw.block bs (by rw [HB.out]; exact hsB)).trans HS4.out)
      have HCr := Lib.hid ((hbw.block (w.heap.size + 1) (by rw [HB.out]; exact hcB)).trans HC4.out)
      have HGr := Lib.hid ((hbw.block w.heap.size (by rw [HB.out]; omega)).trans HG4.out)
      have zsr : bs < wr.heap.size := by omega
      have HBr := Lib.hid (HB4.out.trans (hbw.mono HB4.out.size))
      have hl5 : n5 ≤ 1000 := by omega
      rw [hn5]
      clear hown hLL hnil hr5 hn5 hll hbw hkn
      obtain ⟨ES, hES⟩ : ∃ e, madeEs g l1 = e := ⟨_, rfl⟩
      rw [hES] at HBMr HOK HRT
      have HRUNA : Hid (∀ W, Below wr.heap.size wr W → Calls Try.prog 11 #[.agg TV, .agg (SnC 1 epoch next p), .slice a5 n5 c5] W fun e w' => ∃ u, e = .returned u ∧ RunT wr.heap.size g next 0 (st0 g ES) [] u w' ∧ Below W.heap.size W w') := Lib.hid (fun W hW => by
        have h1 := rrun_fact W p le ll _ _ g ES HGR.out (HBMr.out.below hW) HOK.out 1 epoch next HRT.out a5 LL c5 (HR5.out.below hW) (by have := HN5.out; omega) hW.size
        rw [HTV.out, HN5.out, HNIL.out, runLen_nil, zonesOf_nil, runSt_nil] at h1
        exact h1)
      clear hES
      go_upto_region 13 with (fail)
      clear hlt hk
      refine wp_region_conf13 9 [Fact.eq (.agg TV), Fact.eq (.agg (SnC 1 epoch next p)), Fact.eq (.slice a5 n5 c5), Fact.runT wr.heap.size g next 0 (st0 g ES) [], Fact.runT wr.heap.size g next 0 (st0 g ES) [], Fact.runA wr.heap.size g next 0 (st0 g ES) [], Fact.eq (.int .i64 0), Fact.eq undef, Fact.eq undef] 7 8 5 ResZ 35 ?raA (by kernel_rfl) (by kernel_rfl) (by kernel_rfl) (by kernel_rfl) ?rahA ?rahs ?raho ?rahend
      case rahA =>
        intro vv
        simp only [putRules, Nat.reduceAdd]
        rfl
      case rahs =>
        intro j u W gg C hj hg hr hp
        match j, hj with
        | 0, _ => exact hp
        | 1, _ => exact hp
        | 2, _ => exact hp
        | 3, _ => exact RunT.setRow (show RunT wr.heap.size g next 0 (st0 g ES) [] u W from hp) hr C
        | 4, _ => exact RunT.setRow (show RunT wr.heap.size g next 0 (st0 g ES) [] u W from hp) hr C
        | 5, _ => exact RunA.setRow (show RunA wr.heap.size g next 0 (st0 g ES) [] u W from hp) hr C
        | 6, _ => exact hp
        | 7, _ => exact hp
        | 8, _ => exact hp
      case raho =>
        refine ⟨?_, ?_, ?_, ?_, ?_, ?_, ?_, ?_, ?_, trivial⟩
        · intro vv W K hB hd HK
          simp only [conf8Rules] at HK
          clear hd
          go_wp2_with (refine (HNW.out _).mono ?_; rintro e w9 ⟨rfl, hB9⟩)
          refine HK.out _ _ hB9 ?_
          rfl
        · intro vv W K hB hd HK
          simp only [conf8Rules] at HK
          clear hd
          have hT := (hB.block bs zsr).trans HSr.out
          go_wp2_with (refine wpList_load_row rfl 29 _ rfl bs rfl 29 _ _ _ hT Try.underlying29 rfl (snsize _ _ _ _) ?_)
          refine HK.out _ _ (Below.refl _ _) ?_
          rfl
        · intro vv W K hB hd HK
          simp only [conf8Rules] at HK
          clear hd
          go_wp2
          refine HK.out _ _ (Below.refl _ _) ?_
          rfl
        · intro vv W K hB hd HK
          simp only [confRules, conf8Rules, cond7, runFRules] at hd HK
          obtain ⟨h0, h1, h2, _⟩ := hd
          simp only [h0, h1, h2] at HK ⊢
          clear h0 h1 h2
          go_wp2_with (refine (HRUNA.out _ hB).mono ?_; rintro e w9 ⟨u9, rfl, hr9, hB9⟩)
          refine HK.out _ _ hB9 ?_
          exact hr9
        · intro vv W K hB hd HK
          simp only [confRules, conf8Rules, cond7, runFRules] at hd HK
          have r3 := hd
          clear hd
          simp only [] at HK ⊢
          skip
          go_wp2
          refine HK.out _ _ (Below.refl _ _) ?_
          exact r3
        · intro vv W K hB hd HK
          simp only [confRules, conf8Rules, cond7, runFRules] at hd HK
          have r4 := hd
          clear hd
          simp only [] at HK ⊢
          skip
          obtain ⟨pra, lera, llra, cera, clra, avra, cvra, aura, cura, hh, mra⟩ := r4
          simp only [hh] at HK ⊢
          clear hh
          go_wp2
          refine HK.out _ _ (Below.refl _ _) ?_
          exact ⟨pra, lera, llra, cera, clra, avra, cvra, aura, cura, rfl, mra⟩
        · intro vv W K hB hd HK
          simp only [confRules, conf8Rules, cond7, runFRules] at hd HK
          have r4 := hd
          clear hd
          simp only [] at HK ⊢
          skip
          obtain ⟨pra, lera, llra, cera, clra, avra, cvra, aura, cura, hh, mra⟩ := r4
          simp only [hh] at HK ⊢
          clear hh
          go_wp2
          refine HK.out _ _ (Below.refl _ _) ?_
          rfl
        · intro vv W K hB hd HK
          simp only [] at HK
          clear hd
          go_wp2
          refine HK.out _ _ hB.size ((Below.refl _ _).alloc (Nat.le_refl _) _) (heap_alloc_new _ _)
        · intro vv W K g hB hg hr hp hd HK
          simp only [confRules, conf8Rules, cond7, runFRules] at hd HK
          obtain ⟨r5, r3, h0, h1, h2, _, r4, _⟩ := hd
          simp only [hp, h0, h1, h2] at HK ⊢
          clear h0 h1 h2
          obtain ⟨i1, i2, i3, i4⟩ := r5.row
          go_wp2_with (refine wpList_store_row rfl 35 _ _ rfl g (rowT (vv 5)) rfl i4 35 ResZ hr i1 i2 i3 ?_)
          refine HK.out _ _ rfl ?_
          rfl
      case rahend =>
      intro vv W gra hB hf e7 lra rra
      have e5 := hf 5 (by decide) (by decide)
      simp only [conf8Rules, runFRules] at e5
      obtain ⟨pra, lera, llra, cera, clra, avra, cvra, aura, cura, e5, mra⟩ := e5
      have e6 := hf 6 (by decide) (by decide)
      simp only [conf8Rules] at e6
      rw [e5] at rra
      simp only [e5, e6, e7, dropRules]
      clear hf e7 e5 e6
      have HBM6 := Lib.hid (HBMr.out.below hB)
      have HS6 := Lib.hid ((hB.block bs zsr).trans HSr.out)
      have HC6 := Lib.hid ((hB.block (w.heap.size + 1) (by omega)).trans HCr.out)
      have HG6 := Lib.hid ((hB.block w.heap.size (by omega)).trans HGr.out)
      have HB6 := Lib.hid (HBr.out.trans (hB.mono HBr.out.size))
      have HM6 := Lib.hid mra
      have z6 := hB.size
      obtain ⟨x0, x1, x2, x3, x4⟩ := resR_cells rra
      rw [show next + ((0 : Nat) : Int) = next by omega] at x1
      rw [st0_singles] at x3
      have x2' : W.cell? ⟨gra, 2, none⟩ = some (.int .i64 0) := x2
      have hAL := ball_any W pra _ _ _ mra.bm.cells.1
      have HAL := Lib.hid hAL
      have hesn : ES.length ≤ 256 := by have h1 := HOK.out.len; have h2 := ((Geo.right_iff g).1 HGR.out).1.2.2.2.1.2; omega
      clear rra mra hB x2 hAL
      have t3 : (next != next) = false := by simp
      go_upto_region 16 with (fail)
      clear x1 x2' x3 x4 t3
      go_wp2_with fail
      refine HAL.out.mono ?_
      rintro e7 w7 ⟨rfl, rfl⟩
      obtain ⟨W1, hW1⟩ : ∃ W1, W.alloc (.cells #[.slice (some ⟨lera, 0, none⟩) (st0 g ES).es.length cera] 115) = W1 := ⟨_, rfl⟩
      have hb1 : Below W.heap.size W W1 := by rw [← hW1]; exact (Below.refl _ _).alloc (Nat.le_refl _) _
      have hsl : W1.heap[W.heap.size]? = some (.cells #[.slice (some ⟨lera, 0, none⟩) ES.length cera] 115 (0, 0)) := by rw [← hW1]; exact heap_alloc_new W _
      have hm1 : BmIs W1 pra lera llra cera clra g ES (liveL (nz g) ES) := HM6.out.bm.below hb1
      have hlt := hm1.lt
      have HSTP := Lib.hid (eall1_stops 7 (by omega) W.heap.size lera (some ⟨lera, 0, none⟩) cera ES W1 (cell_of_one hsl) hm1.rows (fun x e => by cases e; rfl) hlt.2.1 (by omega))
      have z1 : W.heap.size < W1.heap.size := (Array.getElem?_eq_some_iff.1 hsl).1
      have HBM7 := Lib.hid (HBM6.out.below hb1)
      have HS7 := Lib.hid ((hb1.block bs (by omega)).trans HS6.out)
      have HC7 := Lib.hid ((hb1.block (w.heap.size + 1) (by omega)).trans HC6.out)
      have HG7 := Lib.hid ((hb1.block w.heap.size (by omega)).trans HG6.out)
      have HB7 := Lib.hid (HB6.out.trans (hb1.mono HB6.out.size))
      have HIE := Lib.hid (fun e => esize e)
      have HON := Lib.hid (fun e => BEC_one e)
      have hz := (zero_of_info Try.infoEnt).1
      have HSZ : Hid (∀ e : BE, (BEC BE.zero).size = (BEC e).size) := Lib.hid (fun e => by rw [BEC_size, BEC_size])
      have hc1z : w.heap.size + 1 < W1.heap.size := (Array.getElem?_eq_some_iff.1 HC7.out).1
      rw [hW1]
      clear x0 hW1 hb1 hsl hm1 hlt
      go_wp2
      refine (wpIn_wide (n := 8)).1 (wpIn_rangeT2 (encs := ieV) rfl (by omega) (gf := 57) (lb := #[.pointer (some ⟨W.heap.size, 0, none⟩)]) rfl trivial (enters_of Try.func57 (by kernel_rfl) rfl)
        HSTP.out (Below.refl _ _) (fun _ => rfl)
        [] (by simp) (by simp)
        (fun pre W => Only [] W1 W)
        (fun _ _ _ => False)
        (AbT.only (Nat.le_refl _) (by simp))
        (fun _ => AbT.pure _ _ _) (Only.refl _ _)
        ?fr (fun x Be W' => W'.heap[Be]? = some (.cells (BEC x.1) 54 (0, 0))) (fun x Be => AbT.row (fun _ => BEC x.1) (by simp)) ?assign ?body ?done ?stop)
      case assign =>
        intro rr pre x W2 K _ hI hK
        have HK2 := Lib.hid hK
        clear hK
        unfold ieV
        gi_wp2_with (refine wpListIn_store_row (by rfl) 54 _ _ rfl W2.heap.size (BEC x.1) rfl rfl 54 (BEC BE.zero) (heap_alloc_new W2 _) (HIE.out _) (HSZ.out _) (HON.out _) ?_; rw [World.setRow_alloc_new])
        obtain ⟨Be, hBe⟩ : ∃ Be, W2.heap.size = Be := ⟨_, rfl⟩
        have hn := heap_alloc_new W2 (.cells (BEC x.1) 54)
        rw [hBe] at hn ⊢
        exact HK2.out Be _ ((Only.refl _ _).alloc _) hn
      case body =>
        rintro rr pre x Be W2 _ hrr hO2 hE hlen hsp
        obtain ⟨e1, e2, e3, e4⟩ := zip_next hsp
        have hmem := List.mem_of_getElem? e2
        have h64 := (HOK.out.ok _ hmem).2
        have hbr := (HOK.out.ok _ hmem).1
        obtain ⟨e, i⟩ := x
        simp only at e1 e2 h64 hE hbr
        subst e1
        obtain ⟨st, hst⟩ : ∃ s, e.st = s := ⟨_, rfl⟩
        have k0 : W2.cell? ⟨Be, 0, none⟩ = some (.int .i64 st) := (cell_of_row _ _ _ _ _ _ hE).trans (by rw [← hst]; rfl)
        have HNB : Hid (∀ W, (Op.equalIn 10000 54 (.agg (BEC e)) (.agg (BEC e))).run Try.prog W = .ok true W) := Lib.hid (fun W => by have := eq_be e e h64 h64 W; rwa [decide_eq_true rfl] at this)
        have zO := hO2.size
        have zB : Be < W2.heap.size := (Array.getElem?_eq_some_iff.1 hE).1
        have HE2 := Lib.hid hE
        have HO2 := Lib.hid hO2
        have ks : W2.cell? ⟨bs, 3, none⟩ = some (.pointer (some ⟨p, 0, none⟩)) := (sn_cells (hO2.get HS7.out (by simp))).2.2.2
        have HGET := Lib.hid (callsIn_roundR (rr := rr) (n := 6 - 1) (bget_in W2 p le ll _ _ g ES _ (HBM7.out.only hO2 (by simp) (by simp) (by simp)) pre.length e e2 (by omega)))
        have HRGT : Hid (∀ W, CallsIn (Fence.wide.inRound rr) (6 - 1) Try.prog 21 #[.agg (BEC e), .agg GX] W fun x w' => x = .returned (.bool true) ∧ Below W.heap.size W w') := Lib.hid (fun W => callsIn_roundR (rr := rr) (n := 6 - 1) (by have h1 := bright_any g e W HGR.out h64; rw [hbr, HGX.out] at h1; exact h1))
        have HG2 := Lib.hid (hO2.get HG7.out (by simp))
        have hpl : pre.length < ES.length := by assumption
        clear hE hO2 e2 h64 hbr hst hsp hlen hmem e4
        gi_wp2_with fail
        refine ⟨trivial, ?_⟩
        refine HGET.out.mono ?_
        rintro y w4 ⟨rfl, hB4⟩
        have z4 := hB4.size
        obtain ⟨W5, hW5⟩ : ∃ W5, w4.alloc (.cells (BEC e) 54) = W5 := ⟨_, rfl⟩
        have hB5 : Below W2.heap.size W2 W5 := by rw [← hW5]; exact hB4.alloc z4 _
        have H5 : Hid (W5.heap[w4.heap.size]? = some (.cells (BEC e) 54 (0, 0))) := Lib.hid (by rw [← hW5]; exact heap_alloc_new w4 _)
        have HE5 := Lib.hid ((hB5.block Be zB).trans HE2.out)
        have HG5 := Lib.hid ((hB5.block w.heap.size (by omega)).trans HG2.out)
        have HO5 : Hid (Only [] W2 W5) := Lib.hid (Only.of_below hB5)
        have HW5 := Lib.hid hW5
        have k5 : W5.cell? ⟨Be, 0, none⟩ = some (.int .i64 st) := (World.cell?_of_block (a := ⟨Be, 0, none⟩) (hB5.block Be zB)).trans k0
        clear hB4 hB5 hW5 HGET k0 ks
        by_cases h1 : st = 1
        · have t1 : (st == 1) = true := by simp [h1]
          clear h1
          gi_wp2_with (first | (refine wpListIn_store_row (by rfl) 54 _ _ rfl w4.heap.size (BEC e) rfl rfl 54 (BEC BE.zero) (heap_alloc_new w4 _) (HIE.out _) (HSZ.out _) (HON.out _) ?_; rw [World.setRow_alloc_new, HW5.out]) | (refine wpListIn_row_on (by rfl) 54 _ rfl w4.heap.size rfl 54 _ _ _ H5.out Try.underlying54 rfl (HIE.out _) ?_) | (refine wpListIn_row_on (by rfl) 54 _ rfl Be rfl 54 _ _ _ HE5.out Try.underlying54 rfl (HIE.out _) ?_) | (refine wpListIn_row_on (by rfl) 23 _ rfl w.heap.size rfl 23 _ _ _ HG5.out Try.underlying23 rfl HGI.out ?_) | (refine wpListIn_neq_on (by rfl) 54 54 _ _ rfl (BEC e) (BEC e) rfl rfl (by kernel_rfl) true HNB.out ?_))
          refine ⟨trivial, ?_⟩
          refine (HRGT.out _).mono ?_
          rintro y9 w9 ⟨rfl, hB9⟩
          have HO9 : Hid (Only [] W2 w9) := Lib.hid (HO5.out.trans (Only.of_below hB9))
          clear hB9 k5
          gi_wp2
          exact ⟨HO9.out, HO2.out.trans HO9.out⟩
        · have t1 : (st == 1) = false := by simp [h1]
          clear h1
          gi_wp2_with (first | (refine wpListIn_store_row (by rfl) 54 _ _ rfl w4.heap.size (BEC e) rfl rfl 54 (BEC BE.zero) (heap_alloc_new w4 _) (HIE.out _) (HSZ.out _) (HON.out _) ?_; rw [World.setRow_alloc_new, HW5.out]) | (refine wpListIn_row_on (by rfl) 54 _ rfl w4.heap.size rfl 54 _ _ _ H5.out Try.underlying54 rfl (HIE.out _) ?_) | (refine wpListIn_row_on (by rfl) 54 _ rfl Be rfl 54 _ _ _ HE5.out Try.underlying54 rfl (HIE.out _) ?_) | (refine wpListIn_neq_on (by rfl) 54 54 _ _ rfl (BEC e) (BEC e) rfl rfl (by kernel_rfl) true HNB.out ?_))
          refine ⟨trivial, ?_⟩
          gi_wp2
          exact ⟨HO5.out, HO2.out.trans HO5.out⟩
      case done =>
        rintro D xs W2 hD rfl hO2 hK
        have zO := hO2.size
        have zD : D < W2.heap.size := (Array.getElem?_eq_some_iff.1 hK).1
        have HKD := Lib.hid hK
        have HC8 := Lib.hid (hO2.get HC7.out (by simp))
        have HB8 := Lib.hid (HB7.out.trans (hO2.below (B := w.heap.size) (by simp) HB7.out.size))
        clear hK
        have hcr := cell_of_one HC8.out
        have hfr := free_of_one HC8.out
        go_wp2
        refine leave_marks (v := .bool true) [D] _ (by simp) (by intro E hE; rw [List.mem_singleton.1 hE]; exact ((Only.refl [w.heap.size + 1] _).setCell (.inl (by simp)) _).get HKD.out (by simp; omega)) ?_
        intro W' hO'
        have hr' := hO'.get (one_setCell HC8.out) (by simp; omega)
        have hc' := cell_of_one hr'
        refine ⟨by simp [results, Try.results8, go_sem, hc'], rfl, ?_⟩
        have h2 : Only [w.heap.size + 1] W2 (W2.setCell ⟨w.heap.size + 1, 0, none⟩ (.bool true)) := (Only.refl _ _).setCell (.inl (by simp)) _
        have h3 : Below w.heap.size w (W2.setCell ⟨w.heap.size + 1, 0, none⟩ (.bool true)) := HB8.out.trans (h2.below (by simp) HB8.out.size)
        exact h3.trans (hO'.below (by simp; omega) h3.size)
      case stop =>
        rintro D c pre W _ _ h _
        exact h.elim
end Go.Proofs.Ytoiephmngdecaaa
