/- Proved here: the laws' anchor: both copies of a group of two Data, and the first alone; Small laws, over any program: in a row of things that the call itself made one is written anew; plain facts on the document's choice of a record; the document's word on whether there is a sector (layer 17); the contract of the document's Right of a frame. -/
import Derived.Deep.MidRow
import Derived.Test.YtoiephmngdecaaaKab
import Derived.Test.YtoiephmngdecaaaKag
import Derived.Test.YtoiephmngdecaaaKak
import Derived.Test.YtoiephmngdecaaaKal
import Derived.Test.YtoiephmngdecaaaKao
import Derived.Test.YtoiephmngdecaaaKas
import Derived.Test.YtoiephmngdecaaaKax
namespace Go.Proofs.Ytoiephmngdecaaa
open Go.RowKit Go.Rv Rl Frm
set_option linter.unusedVariables false
attribute [local go_sem] Oper.semAt_some
theorem rowOf_take1 {α : Type} {w : World} {n : Nat} {X : α → Array Value} {Q : α → Prop} {a : Option Addr} {xs : List α} (h : RowOf w n X Q a xs) (k : Nat) : RowOf w n X Q a (xs.take k) := by
  rcases h with h | ⟨b, o, e, hb, hx⟩
  · exact .inl (by rw [h]; simp)
  · refine .inr ⟨b, o, e, hb, fun j x hj => hx j x ?_⟩
    rw [List.getElem?_take] at hj; split at hj
    · exact hj
    · cases hj
theorem built_gA : Try.prog.built 23 [(0, .int .i64 3), (1, .int .i64 8), (2, .int .i64 8), (3, .int .i64 4), (5, .int .i64 4)] = some (GC gA) := by kernel_rfl
set_option maxRecDepth 100000 in
set_option maxHeartbeats 32000000 in
theorem roll_anchor (w : World) : Calls Try.prog 9 #[] w fun e w' => e = .returned (.bool true) ∧ Below w.heap.size w w' := by
  have hzg := (zero_of_info Try.infoGeoZ).1; have hzs := (zero_of_info Try.infoSnz).1; have hzr := (zero_of_info Try.infoRes).1; have HGI := Lib.hid (gsize (g := gA)); have HGB := Lib.hid built_gA; have HGO : Hid ((GC gA).all (·.oneCell') = true) := Lib.hid (by simp [GC, Value.oneCell']); have HGZ : Hid ((GC ⟨0, 0, 0, 0, 0, 0⟩).size = (GC gA).size) := Lib.hid rfl; have HSB := Lib.hid (fun p => built_snm 1 1 5 p); have HSI := Lib.hid (fun p => snsize 1 1 5 p); have HSO : Hid (∀ p, (SnC 1 1 5 p).all (·.oneCell') = true) := Lib.hid (fun p => by simp [SnC, Value.oneCell']); have HSZ : Hid (∀ p, SZ.size = (SnC 1 1 5 p).size) := Lib.hid (fun p => rfl); have HNW := Lib.hid (fun (W : World) => new_any W); have HBN := Lib.hid (fun (W : World) => bnew_any gA gA_right W); have HC0 := Lib.hid (fun (W : World) => copies_any 0 (.inl rfl) W); have HC1 := Lib.hid (fun (W : World) => copies_any 1 (.inr rfl) W); obtain ⟨GX, hGX⟩ : ∃ X, GC gA = X := ⟨_, rfl⟩; rw [hGX] at HGI HGB HGO HGZ HBN; obtain ⟨GZ, hGZ⟩ : ∃ X, GC ⟨0, 0, 0, 0, 0, 0⟩ = X := ⟨_, rfl⟩; rw [hGZ] at hzg HGZ; obtain ⟨XZ, hXZ⟩ : ∃ X, SZ = X := ⟨_, rfl⟩; rw [hXZ] at hzs HSZ; clear hGX hGZ hXZ; obtain ⟨W1, hW1⟩ : ∃ W, w.alloc (.cells GX 23) = W := ⟨_, rfl⟩; have hb1 : Below w.heap.size w W1 := by rw [← hW1]; exact (Below.refl _ _).alloc (Nat.le_refl _) _
  have hg1 : W1.heap[w.heap.size]? = some (.cells GX 23 (0, 0)) := by rw [← hW1]; exact heap_alloc_new w _
  have HG1 := Lib.hid hg1; have HB1 := Lib.hid hb1; have HW1 := Lib.hid hW1; clear hb1 hg1 hW1; go_enter Try.func9, Try.ntmps9; go_upto_region 2 with (first | (refine wpList_build_on (by rfl) 23 _ rfl #[(0, .int .i64 3), (1, .int .i64 8), (2, .int .i64 8), (3, .int .i64 4), (5, .int .i64 4)] (by simp [Act.eval, Act.put]) _ HGB.out ?_) | (refine wpList_store_row rfl 23 _ _ rfl w.heap.size GX rfl rfl 23 GZ (heap_alloc_new w _) HGI.out HGZ.out HGO.out ?_; rw [World.setRow_alloc_new])); rw [HW1.out]
  try rw [put_none]
  go_wp2_with (refine wpList_load_row rfl 23 _ rfl w.heap.size rfl 23 _ _ _ HG1.out Try.underlying23 rfl HGI.out ?_); refine (HBN.out _).mono ?_; rintro e2 w2 ⟨p, le, ll, rfl, hbm2, -, -, -, hB2⟩; have HBM2 := Lib.hid hbm2; have HB2 := Lib.hid (HB1.out.trans (hB2.mono HB1.out.size)); clear hbm2 hB2; obtain ⟨W5, hW5⟩ : ∃ W, w2.alloc (.cells (SnC 1 1 5 p) 29) = W := ⟨_, rfl⟩; have hb5 : Below w2.heap.size w2 W5 := by rw [← hW5]; exact (Below.refl _ _).alloc (Nat.le_refl _) _
  have hs5 : W5.heap[w2.heap.size]? = some (.cells (SnC 1 1 5 p) 29 (0, 0)) := by rw [← hW5]; exact heap_alloc_new w2 _
  have zs5 : w2.heap.size < W5.heap.size := (Array.getElem?_eq_some_iff.1 hs5).1; have HBM5 := Lib.hid (HBM2.out.below hb5); have HS5 := Lib.hid hs5; have HB5 := Lib.hid (HB2.out.trans (hb5.mono HB2.out.size)); have HW5 := Lib.hid hW5; clear hb5 hs5 hW5; go_upto_region 6 with (first | (refine wpList_build_on (by rfl) 29 _ rfl #[(0, .int .i64 1), (1, .int .i64 1), (2, .int .i64 5), (3, .pointer (some ⟨p, 0, none⟩))] (by simp [Act.eval, Act.put]) _ (HSB.out p) ?_) | (refine wpList_store_row rfl 29 _ _ rfl w2.heap.size (SnC 1 1 5 p) rfl rfl 29 XZ (heap_alloc_new w2 _) (HSI.out p) (HSZ.out p) (HSO.out p) ?_; rw [World.setRow_alloc_new])); rw [HW5.out]
  try rw [put_none]
  obtain ⟨bs, hbs⟩ : ∃ b, w2.heap.size = b := ⟨_, rfl⟩; rw [hbs] at HS5 zs5 ⊢; clear hbs; go_wp2_with fail; refine (HC0.out _).mono ?_; rintro e6 w6 ⟨u6, rfl, ho6, hB6⟩; have z6 := hB6.size; have HO6 := Lib.hid ho6; have HBM6 := Lib.hid (HBM5.out.below hB6); have HS6 := Lib.hid ((hB6.block bs zs5).trans HS5.out); have HB6 := Lib.hid (HB5.out.trans (hB6.mono HB5.out.size)); have HB56 := Lib.hid hB6; clear hB6 ho6; go_wp2_with fail; refine (HC1.out _).mono ?_; rintro e7 w7 ⟨u7, rfl, ho7, hB7⟩; have z7 := hB7.size; obtain ⟨a7, c7, rfl, hr7, hn7, -, -, -⟩ := ho7.shape kinFnd; have HO7 := Lib.hid (HO6.out.below hB7); have HR7 := Lib.hid hr7; have HN7 := Lib.hid hn7; have HBM7 := Lib.hid (HBM6.out.below hB7); have HS7 := Lib.hid ((hB7.block bs (by omega)).trans HS6.out); have HB7 := Lib.hid (HB6.out.trans (hB7.mono HB6.out.size)); have hs7 : W5.heap.size ≤ w7.heap.size := by omega
  have HB57 := Lib.hid (HB56.out.trans (hB7.mono z6)); clear hB7 ho7 hr7 hn7; go_upto_region 7 with (at_builtin; refine wpList_appendM rfl (.tmp 20) (.tmp 21) 25 rfl 70 51 fndC FndQ kinFnd (by decide) (.agg (fndC fnd0)) 104 Try.underlying25 Try.infoFnd3 rfl W5.heap.size _ [fndA 0 0 8, fndA 0 8 0] rfl HO7.out a7 c7 [fndA 1 0 8, fndA 1 8 0] (by rfl) HR7.out HN7.out (by unfold maxLen; simp) (by simp) hs7 ?_; intro v8 w8 hv8 hg8 _; have HV8 := Lib.hid hv8; have HB8S := Lib.hid (HO7.out.grown hg8 hs7); clear hv8 hg8); have hv8 : OwnM w8 70 51 fndC FndQ W5.heap.size v8 LA := HV8.out; have hB58 := HB8S.out; obtain ⟨a8, c8, rfl, hr8, hn8, hc8, -, -⟩ := hv8.shape kinFnd; obtain ⟨b8, o8, rfl, -, -, -⟩ := hr8.at (k := 0) (x := fndA 0 0 8) rfl; have HR8 := Lib.hid hr8; have hb8 := HB57.out.trans hB58; have HBM8 := Lib.hid (show BmIs w8 p le ll gA.b.toNat (nz gA) gA esA (liveL (nz gA) esA) from HBM5.out.below hb8); have HS8 := Lib.hid ((hb8.block bs zs5).trans HS5.out); have HB8 := Lib.hid (HB5.out.trans (hb8.mono HB5.out.size)); have zs8 : bs < w8.heap.size := by have := hb8.size; omega
  have hok : MapOk gA esA := mapOk_new gA gA_right; have HRUN : Hid (∀ W, Below w8.heap.size w8 W → Calls Try.prog 11 #[.agg Tb.tabV, .agg (SnC 1 1 5 p), .slice (some ⟨b8, o8, none⟩) 4 c8] W fun e w' => ∃ u, e = .returned u ∧ RunT w8.heap.size gA 5 (runLen (recs gA 1 5 LA) 5) (runSt gA esA 5 (recs gA 1 5 LA)) (zonesOf (recs gA 1 5 LA)) u w' ∧ Below W.heap.size W w') := Lib.hid (fun W hW => rrun_fact W p le ll _ _ gA esA gA_right (HBM8.out.below hW) hok 1 1 5 sA_right (some ⟨b8, o8, none⟩) LA c8 (HR8.out.below hW) (by decide) hW.size); have h2A := rA2; have h3A := rA3; have h1A := rA1; obtain ⟨stA, hstA⟩ : ∃ s, runSt gA esA 5 (recs gA 1 5 LA) = s := ⟨_, rfl⟩; obtain ⟨zsA, hzsA⟩ : ∃ z, zonesOf (recs gA 1 5 LA) = z := ⟨_, rfl⟩; rw [hstA] at h2A h3A HRUN; rw [h1A, hzsA] at HRUN; have HA23 := Lib.hid (And.intro h2A h3A); have hc8' : 4 ≤ c8 := hc8; have e4 : LA.length = 4 := rfl; rw [e4]; obtain ⟨TV, hTV⟩ : ∃ T, Tb.tabV = T := ⟨_, rfl⟩; rw [hTV] at HNW HRUN; have HTV := Lib.hid hTV; clear hv8 hB58 hr8 hn8 hc8 hb8 hok h1A h2A h3A hstA hzsA e4 hTV; refine wp_region_conf13 9 [Fact.eq (.agg TV), Fact.eq (.agg (SnC 1 1 5 p)), Fact.eq (.slice (some ⟨b8, o8, none⟩) 4 c8), Fact.runT w8.heap.size gA 5 2 stA zsA, Fact.runT w8.heap.size gA 5 2 stA zsA, Fact.runA w8.heap.size gA 5 2 stA zsA, Fact.eq (.int .i64 0), Fact.eq undef, Fact.eq undef] 7 8 5 ResZ 35 ?raA (by kernel_rfl) (by kernel_rfl) (by kernel_rfl) (by kernel_rfl) ?rahA ?rahs ?raho ?rahend
  case rahA =>
    intro vv; simp only [putRules, Nat.reduceAdd]; rfl
  case rahs =>
    intro j u W g C hj hg hr hp
    match j, hj with
    | 0, _ => exact hp
    | 1, _ => exact hp
    | 2, _ => exact hp
    | 3, _ => exact RunT.setRow (show RunT w8.heap.size gA 5 2 stA zsA u W from hp) hr C
    | 4, _ => exact RunT.setRow (show RunT w8.heap.size gA 5 2 stA zsA u W from hp) hr C
    | 5, _ => exact RunA.setRow (show RunA w8.heap.size gA 5 2 stA zsA u W from hp) hr C
    | 6, _ => exact hp
    | 7, _ => exact hp
    | 8, _ => exact hp
  case raho =>
    refine ⟨?_, ?_, ?_, ?_, ?_, ?_, ?_, ?_, ?_, trivial⟩
    · intro vv W K hB hd HK; simp only [conf8Rules] at HK; clear hd; go_wp2_with (refine (HNW.out _).mono ?_; rintro e w9 ⟨rfl, hB9⟩); refine HK.out _ _ hB9 ?_; rfl
    · intro vv W K hB hd HK; simp only [conf8Rules] at HK; clear hd; have hT := (hB.block bs zs8).trans HS8.out; go_wp2_with (refine wpList_load_row rfl 29 _ rfl bs rfl 29 _ _ _ hT Try.underlying29 rfl (snsize _ _ _ _) ?_); refine HK.out _ _ (Below.refl _ _) ?_; rfl
    · intro vv W K hB hd HK; simp only [conf8Rules] at HK; clear hd; go_wp2; refine HK.out _ _ (Below.refl _ _) ?_; rfl
    · intro vv W K hB hd HK; simp only [confRules, conf8Rules, cond7, runFRules] at hd HK; obtain ⟨h0, h1, h2, _⟩ := hd; simp only [h0, h1, h2] at HK ⊢; clear h0 h1 h2; go_wp2_with (refine (HRUN.out _ hB).mono ?_; rintro e w9 ⟨u9, rfl, hr9, hB9⟩); refine HK.out _ _ hB9 ?_; exact hr9
    · intro vv W K hB hd HK; simp only [confRules, conf8Rules, cond7, runFRules] at hd HK; have r3 := hd; clear hd; simp only [] at HK ⊢; skip; go_wp2; refine HK.out _ _ (Below.refl _ _) ?_; exact r3
    · intro vv W K hB hd HK; simp only [confRules, conf8Rules, cond7, runFRules] at hd HK; have r4 := hd; clear hd; simp only [] at HK ⊢; skip; obtain ⟨pra, lera, llra, cera, clra, avra, cvra, aura, cura, hh, mra⟩ := r4; simp only [hh] at HK ⊢; clear hh; go_wp2; refine HK.out _ _ (Below.refl _ _) ?_; exact ⟨pra, lera, llra, cera, clra, avra, cvra, aura, cura, rfl, mra⟩
    · intro vv W K hB hd HK; simp only [confRules, conf8Rules, cond7, runFRules] at hd HK; have r4 := hd; clear hd; simp only [] at HK ⊢; skip; obtain ⟨pra, lera, llra, cera, clra, avra, cvra, aura, cura, hh, mra⟩ := r4; simp only [hh] at HK ⊢; clear hh; go_wp2; refine HK.out _ _ (Below.refl _ _) ?_; rfl
    · intro vv W K hB hd HK; simp only [] at HK; clear hd; go_wp2; refine HK.out _ _ hB.size ((Below.refl _ _).alloc (Nat.le_refl _) _) (heap_alloc_new _ _)
    · intro vv W K g hB hg hr hp hd HK; simp only [confRules, conf8Rules, cond7, runFRules] at hd HK; obtain ⟨r5, r3, h0, h1, h2, _, r4, _⟩ := hd; simp only [hp, h0, h1, h2] at HK ⊢; clear h0 h1 h2; obtain ⟨i1, i2, i3, i4⟩ := r5.row; go_wp2_with (refine wpList_store_row rfl 35 _ _ rfl g (rowT (vv 5)) rfl i4 35 ResZ hr i1 i2 i3 ?_); refine HK.out _ _ rfl ?_; rfl
  case rahend =>
  intro vv W gra hB hf e7 lra rra; have e5 := hf 5 (by decide) (by decide); simp only [conf8Rules, runFRules] at e5; obtain ⟨pra, lera, llra, cera, clra, avra, cvra, aura, cura, e5, mra⟩ := e5; have e6 := hf 6 (by decide) (by decide); simp only [conf8Rules] at e6; rw [e5] at rra; simp only [e5, e6, e7, dropRules]; clear hf e7 e5 e6; have zs9 : bs < W.heap.size := by have := hB.size; omega
  have HBM9 := Lib.hid (HBM8.out.below hB); have HS9 := Lib.hid ((hB.block bs zs8).trans HS8.out); have HR9 := Lib.hid (HR8.out.below hB); have HB9 := Lib.hid (HB8.out.trans (hB.mono HB8.out.size)); have HM9 := Lib.hid mra; have HG9 := Lib.hid rra; obtain ⟨w9, hw9⟩ : ∃ w9, W = w9 := ⟨_, rfl⟩; rw [hw9] at zs9 HBM9 HS9 HR9 HB9 HM9 HG9 ⊢; clear hw9 hB mra rra; have HLB := Lib.hid (show RowOf w9 51 fndC FndQ (some ⟨b8, o8, none⟩) LB from rowOf_take1 HR9.out 2); have hok : MapOk gA esA := mapOk_new gA gA_right; have HRUN2 : Hid (∀ W, Below w9.heap.size w9 W → Calls Try.prog 11 #[.agg TV, .agg (SnC 1 1 5 p), .slice (some ⟨b8, o8, none⟩) 2 c8] W fun e w' => ∃ u, e = .returned u ∧ RunT w9.heap.size gA 5 (runLen (recs gA 1 5 LB) 5) (runSt gA esA 5 (recs gA 1 5 LB)) (zonesOf (recs gA 1 5 LB)) u w' ∧ Below W.heap.size W w') := Lib.hid (fun W hW => by rw [← HTV.out]; exact rrun_fact W p le ll _ _ gA esA gA_right (HBM9.out.below hW) hok 1 1 5 sA_right (some ⟨b8, o8, none⟩) LB c8 (HLB.out.below hW) (by decide) hW.size); have h1B := rB1; have h3B := rB3; obtain ⟨stB, hstB⟩ : ∃ s, runSt gA esA 5 (recs gA 1 5 LB) = s := ⟨_, rfl⟩; obtain ⟨zsB, hzsB⟩ : ∃ z, zonesOf (recs gA 1 5 LB) = z := ⟨_, rfl⟩; rw [hstB] at h3B HRUN2; rw [h1B, hzsB] at HRUN2; have HB3 := Lib.hid h3B; clear hok h1B h3B hstB hzsB; go_upto_region 8 with (fail); refine wp_region_conf13 10 [Fact.eq (.agg TV), Fact.eq (.agg (SnC 1 1 5 p)), Fact.eq (.slice (some ⟨b8, o8, none⟩) 4 c8), Fact.eq (.slice (some ⟨b8, o8, none⟩) 2 c8), Fact.runT w9.heap.size gA 5 1 stB zsB, Fact.runT w9.heap.size gA 5 1 stB zsB, Fact.runA w9.heap.size gA 5 1 stB zsB, Fact.eq (.int .i64 0), Fact.eq undef, Fact.eq undef] 8 9 6 ResZ 35 ?rbA (by kernel_rfl) (by kernel_rfl) (by kernel_rfl) (by kernel_rfl) ?rbhA ?rbhs ?rbho ?rbhend
  case rbhA =>
    intro vv; simp only [putRules, Nat.reduceAdd]; rfl
  case rbhs =>
    intro j u W g C hj hg hr hp
    match j, hj with
    | 0, _ => exact hp
    | 1, _ => exact hp
    | 2, _ => exact hp
    | 3, _ => exact hp
    | 4, _ => exact RunT.setRow (show RunT w9.heap.size gA 5 1 stB zsB u W from hp) hr C
    | 5, _ => exact RunT.setRow (show RunT w9.heap.size gA 5 1 stB zsB u W from hp) hr C
    | 6, _ => exact RunA.setRow (show RunA w9.heap.size gA 5 1 stB zsB u W from hp) hr C
    | 7, _ => exact hp
    | 8, _ => exact hp
    | 9, _ => exact hp
  case rbho =>
    refine ⟨?_, ?_, ?_, ?_, ?_, ?_, ?_, ?_, ?_, ?_, trivial⟩
    · intro vv W K hB hd HK; simp only [conf8Rules] at HK; clear hd; go_wp2_with (refine (HNW.out _).mono ?_; rintro e w9 ⟨rfl, hB9⟩); refine HK.out _ _ hB9 ?_; rfl
    · intro vv W K hB hd HK; simp only [conf8Rules] at HK; clear hd; have hT := (hB.block bs zs9).trans HS9.out; go_wp2_with (refine wpList_load_row rfl 29 _ rfl bs rfl 29 _ _ _ hT Try.underlying29 rfl (snsize _ _ _ _) ?_); refine HK.out _ _ (Below.refl _ _) ?_; rfl
    · intro vv W K hB hd HK; simp only [conf8Rules] at HK; clear hd; go_wp2; refine HK.out _ _ (Below.refl _ _) ?_; rfl
    · intro vv W K hB hd HK; simp only [confRules, conf8Rules, cond7] at hd HK; have h2 := hd; clear hd; simp only [h2] at HK ⊢; clear h2; go_wp2; refine HK.out _ _ (Below.refl _ _) ?_; rfl
    · intro vv W K hB hd HK; simp only [confRules, conf8Rules, cond7, runFRules] at hd HK; obtain ⟨h0, h1, h3, _⟩ := hd; simp only [h0, h1, h3] at HK ⊢; clear h0 h1 h3; go_wp2_with (refine (HRUN2.out _ hB).mono ?_; rintro e w9 ⟨u9, rfl, hr9, hB9⟩); refine HK.out _ _ hB9 ?_; exact hr9
    · intro vv W K hB hd HK; simp only [confRules, conf8Rules, cond7, runFRules] at hd HK; have r4 := hd; clear hd; simp only [] at HK ⊢; skip; go_wp2; refine HK.out _ _ (Below.refl _ _) ?_; exact r4
    · intro vv W K hB hd HK; simp only [confRules, conf8Rules, cond7, runFRules] at hd HK; have r5 := hd; clear hd; simp only [] at HK ⊢; skip; obtain ⟨prb, lerb, llrb, cerb, clrb, avrb, cvrb, aurb, curb, hh, mrb⟩ := r5; simp only [hh] at HK ⊢; clear hh; go_wp2; refine HK.out _ _ (Below.refl _ _) ?_; exact ⟨prb, lerb, llrb, cerb, clrb, avrb, cvrb, aurb, curb, rfl, mrb⟩
    · intro vv W K hB hd HK; simp only [confRules, conf8Rules, cond7, runFRules] at hd HK; have r5 := hd; clear hd; simp only [] at HK ⊢; skip; obtain ⟨prb, lerb, llrb, cerb, clrb, avrb, cvrb, aurb, curb, hh, mrb⟩ := r5; simp only [hh] at HK ⊢; clear hh; go_wp2; refine HK.out _ _ (Below.refl _ _) ?_; rfl
    · intro vv W K hB hd HK; simp only [] at HK; clear hd; go_wp2; refine HK.out _ _ hB.size ((Below.refl _ _).alloc (Nat.le_refl _) _) (heap_alloc_new _ _)
    · intro vv W K g hB hg hr hp hd HK; simp only [confRules, conf8Rules, cond7, runFRules] at hd HK; obtain ⟨r6, r4, h0, h1, h2, h3, _, r5, _⟩ := hd; simp only [hp, h0, h1, h2, h3] at HK ⊢; clear h0 h1 h2 h3; obtain ⟨i1, i2, i3, i4⟩ := r6.row; go_wp2_with (refine wpList_store_row rfl 35 _ _ rfl g (rowT (vv 6)) rfl i4 35 ResZ hr i1 i2 i3 ?_); refine HK.out _ _ rfl ?_; rfl
  case rbhend =>
  intro vv W grb hB hf e8 lrb rrb; have e6 := hf 6 (by decide) (by decide); simp only [conf8Rules, runFRules] at e6; obtain ⟨prb, lerb, llrb, cerb, clrb, avrb, cvrb, aurb, curb, e6, mrb⟩ := e6; have e7 := hf 7 (by decide) (by decide); simp only [conf8Rules] at e7; rw [e6] at rrb; simp only [e6, e7, e8, dropRules]; clear hf e8 e6 e7; have HM10 := Lib.hid (HM9.out.below hB); have HG10 := Lib.hid ((hB.block gra (Array.getElem?_eq_some_iff.1 HG9.out).1).trans HG9.out); have HB10 := Lib.hid (HB9.out.trans (hB.mono HB9.out.size)); have HMB := Lib.hid mrb; obtain ⟨x0, -, x2, -, -⟩ := resR_cells HG10.out; obtain ⟨y0, y1, -, -, -⟩ := resR_cells rrb; rw [HA23.out.1] at x2; have hesA : stA.es.length ≤ 100000 := by have h1 := HM10.out.ok.len; have h2 : gA.b = 4 := rfl; omega
  have hesB : stB.es.length ≤ 100000 := by have h1 := HMB.out.ok.len; have h2 : gA.b = 4 := rfl; omega
  have HCA := Lib.hid (bcount_any W pra lera llra cera clra gA stA.es _ HM10.out.bm 1 hesA); have HCB : Hid (∀ W', Below W.heap.size W W' → Calls Try.prog 24 #[.pointer (some ⟨prb, 0, none⟩), .int .i64 1] W' fun e w' => e = .returned (.int .i64 (countB stB.es 1 : Nat)) ∧ Below W'.heap.size W' w') := Lib.hid (fun W' hW => bcount_any W' prb lerb llrb cerb clrb gA stB.es _ (HMB.out.bm.below hW) 1 hesB); rw [HA23.out.2] at HCA; rw [HB3.out] at HCB; have HY := Lib.hid (fun (W' : World) (hW : Below W.heap.size W W') => resR_cells ((hW.block grb (Array.getElem?_eq_some_iff.1 rrb).1).trans rrb)); clear rrb mrb hesA hesB y0 y1 hB; go_wp2_with fail; refine HCA.out.mono ?_; rintro e11 w11 ⟨rfl, hB11⟩; obtain ⟨y0, y1, -, -, -⟩ := HY.out w11 hB11; have HB11 := Lib.hid (HB10.out.trans (hB11.mono HB10.out.size)); have HCB11 := Lib.hid (HCB.out w11 hB11); clear hB11 x0 x2; go_wp2_with fail; refine HCB11.out.mono ?_; rintro e12 w12 ⟨rfl, hB12⟩; have HB12 := Lib.hid (HB11.out.trans (hB12.mono HB11.out.size)); clear hB12 y0 y1; go_wp2; go_ret; exact ⟨rfl, HB12.out⟩
end Go.Proofs.Ytoiephmngdecaaa
namespace Go.Rv
open Go.RowKit
set_option linter.unusedVariables false
theorem flatM_set {α : Type} {n : Nat} {X : α → Array Value} : ∀ {xs : List α}, (∀ x ∈ xs, (X x).size = n) → ∀ {k : Nat} {x : α}, k < xs.length → (X x).size = n → flatM X (xs.set k x) = splice (flatM X xs) (k * n) (X x).toList
  | [], _, _, _, h, _ => by simp at h
  | y :: ys, h, 0, x, _, hx => by
    have h1 := h y (by simp); simp only [List.set_cons_zero, flatM, List.flatMap_cons, Nat.zero_mul]; unfold splice; rw [List.take_zero, List.nil_append, Nat.zero_add, Array.length_toList, hx, List.drop_append, List.drop_of_length_le (by rw [Array.length_toList]; omega), Array.length_toList, h1, Nat.sub_self]; rfl
  | y :: ys, h, k + 1, x, hk, hx => by
    have ih := flatM_set (X := X) (xs := ys) (fun z hz => h z (by simp [hz])) (k := k) (x := x) (by simpa using hk) hx; have h1 := h y (by simp); simp only [List.set_cons_succ, flatM, List.flatMap_cons] at ih ⊢; rw [ih, show (k + 1) * n = n + k * n by rw [Nat.add_mul]; omega]; exact (splice_right _ _ _ _ _ (by rw [Array.length_toList]; exact h1)).symm
theorem splice_left {α : Type} (T R cs : List α) (o : Nat) (h : o + cs.length ≤ T.length) : splice (T ++ R) o cs = splice T o cs ++ R := by
  unfold splice; rw [List.take_append_of_le_length (by omega), List.drop_append_of_le_length (by omega)]; simp only [List.append_assoc]
theorem splice_length {α : Type} (T cs : List α) (o : Nat) (h : o + cs.length ≤ T.length) : (splice T o cs).length = T.length := by
  unfold splice; simp; omega
theorem OwnM.real {α : Type} {w : World} {e : TypeId} {n : Nat} {X : α → Array Value} {Q : α → Prop} {base : Nat} {v : Value} {xs : List α} (h : OwnM w e n X Q base v xs) (hne : 0 < xs.length) :
    ∃ g cap, v = .slice (some ⟨g, 0, none⟩) xs.length cap ∧ base ≤ g ∧ g < w.heap.size ∧ xs.length ≤ cap := by
  rcases h.1.2 with ⟨_, h0⟩ | ⟨g, cap, cur, hv, hb, hg, hnc, -⟩
  · omega
  · exact ⟨g, cap, hv, hb, (Array.getElem?_eq_some_iff.1 hg).1, hnc⟩
theorem mul_in {k l n : Nat} (h : k < l) : k * n + n ≤ l * n := by
  calc k * n + n = (k + 1) * n := by rw [Nat.add_mul, Nat.one_mul]
    _ ≤ l * n := Nat.mul_le_mul_right n h
theorem OwnM.setAt {α : Type} {w : World} {e : TypeId} {n : Nat} {X : α → Array Value} {Q : α → Prop} (hK : Kin n X Q) {base g cap : Nat} {xs : List α} (h : OwnM w e n X Q base (.slice (some ⟨g, 0, none⟩) xs.length cap) xs) {k : Nat} (hk : k < xs.length) {x : α} (hx : Q x) :
    OwnM (w.setCells g (k * n) (X x).toList) e n X Q base (.slice (some ⟨g, 0, none⟩) xs.length cap) (xs.set k x) := by
  obtain ⟨⟨hl, hr⟩, hq⟩ := h; have hs := hK.size x hx; have hm := mul_in (n := n) hk; have hfs : flatM X (xs.set k x) = splice (flatM X xs) (k * n) (X x).toList := flatM_set (fun y hy => hK.size y (hq y hy)) hk hs
  have hq' : ∀ y ∈ xs.set k x, Q y := fun y hy => by
    rcases List.mem_or_eq_of_mem_set hy with h1 | h1
    · exact hq y h1
    · rw [h1]; exact hx
  refine ⟨⟨by rw [hfs, splice_length _ _ _ (by rw [Array.length_toList, hl]; omega), hl, List.length_set], .inr ?_⟩, hq'⟩; rcases hr with ⟨h0, _⟩ | ⟨g', cap', cur, hv, hb, hg, hnc, hcm, hcs, htake⟩
  · cases h0
  · cases hv; have hcl : cur.toList.length = cap * n := by rw [Array.length_toList]; exact hcs
    have hcc : xs.length * n ≤ cap * n := Nat.mul_le_mul_right n hnc; have h2 := heap_setCells_row g e (X x).toList (k * n) cur.toList w (by simpa using hg) (by rw [Array.length_toList]; omega); refine ⟨g, cap, _, by rw [List.length_set], hb, h2, by rw [List.length_set]; exact hnc, hcm, ?_, ?_⟩
    · rw [List.size_toArray, splice_length _ _ _ (by rw [Array.length_toList]; omega)]; exact hcl
    · rw [List.length_set, hfs]; have h3 : cur.toList = flatM X xs ++ cur.toList.drop (xs.length * n) := by rw [← htake, List.take_append_drop]
      rw [h3, splice_left _ _ _ _ (by rw [Array.length_toList, hl]; omega)]; rw [List.take_append_of_le_length (by rw [splice_length _ _ _ (by rw [Array.length_toList, hl]; omega), hl]; exact Nat.le_refl _)]; exact List.take_of_length_le (by rw [splice_length _ _ _ (by rw [Array.length_toList, hl]; omega), hl]; exact Nat.le_refl _)
theorem OwnM.thereAt {α : Type} {w : World} {e : TypeId} {n : Nat} {X : α → Array Value} {Q : α → Prop} {base g cap : Nat} {xs : List α} (h : OwnM w e n X Q base (.slice (some ⟨g, 0, none⟩) xs.length cap) xs) {k : Nat} (hk : k < xs.length) : w.there g (k * n) n := by
  obtain ⟨⟨hl, hr⟩, hq⟩ := h; have hm := mul_in (n := n) hk; rcases hr with ⟨h0, _⟩ | ⟨g', cap', cur, hv, hb, hg, hnc, hcm, hcs, htake⟩
  · cases h0
  · cases hv; have hcc : xs.length * n ≤ cap * n := Nat.mul_le_mul_right n hnc; intro j hj; refine ⟨?_, frozen_of_row _ _ _ _ _ hg⟩; rw [cell_of_row _ _ _ _ _ _ hg, Array.getElem?_eq_getElem (by omega)]; rfl
end Go.Rv
namespace Go.Proofs.Ytoiephmngdecaaa
open Go.RowKit Go.Rv Rl Frm
/-- a whole number in a row of such -/
theorem OwnM.setInt {w : World} {e : TypeId} {base g cap : Nat} {xs : List Int} (h : OwnM w e 1 iC (fun _ => True) base (.slice (some ⟨g, 0, none⟩) xs.length cap) xs) {k : Nat} (hk : k < xs.length) (x : Int) :
    OwnM (w.setCell ⟨g, k, none⟩ (.int .i64 x)) e 1 iC (fun _ => True) base (.slice (some ⟨g, 0, none⟩) xs.length cap) (xs.set k x) := by
  have h1 := OwnM.setAt kinI h hk (x := x) trivial; rw [Nat.mul_one] at h1; exact h1
end Go.Proofs.Ytoiephmngdecaaa
namespace Go.Proofs.Ytoiephmngdecaaa
open Go.RowKit Go.Rv Rl Frm
set_option linter.unusedVariables false
namespace Rl
/-- the record of a number -/
def pF (g : Geo.G) (epoch s : Int) (f : Fnd) : Option Rec :=
  match recE g epoch f with
  | none => none
  | some e => if f.fr.seq = s then some ⟨e, f.zone, f.off⟩ else none
/-- the records of a number -/
def atS (g : Geo.G) (epoch s : Int) (l : List Fnd) : List Rec := l.filterMap (pF g epoch s)
theorem atS_recs {g : Geo.G} {epoch next s : Int} (h : next ≤ s) : ∀ l : List Fnd, atSeq (recs g epoch next l) s = atS g epoch s l
  | [] => rfl
  | f :: r => by
    have ih := atS_recs (g := g) (epoch := epoch) h r; unfold recs atS at ih ⊢
    cases hx : recE g epoch f with
    | none =>
      rw [List.filterMap_cons_none (by unfold recF; rw [hx]), List.filterMap_cons_none (by unfold pF; rw [hx])]; exact ih
    | some e =>
      have e1 : recF g epoch next f = if f.fr.seq < next then none else some (f.fr.seq, ⟨e, f.zone, f.off⟩) := by unfold recF; rw [hx]
      have e2 : pF g epoch s f = if f.fr.seq = s then some ⟨e, f.zone, f.off⟩ else none := by unfold pF; rw [hx]
      by_cases hn : f.fr.seq < next
      · rw [if_pos hn] at e1; rw [if_neg (by omega)] at e2; rw [List.filterMap_cons_none e1, List.filterMap_cons_none e2]; exact ih
      · rw [if_neg hn] at e1; rw [List.filterMap_cons_some e1]; by_cases hs : f.fr.seq = s
        · rw [if_pos hs] at e2; rw [List.filterMap_cons_some e2, ← ih]; simp [atSeq, hs]
        · rw [if_neg hs] at e2; rw [List.filterMap_cons_none e2, ← ih]; simp [atSeq, hs]
theorem drop_at {α : Type} {l : List α} {i : Nat} {x : α} (h : l[i]? = some x) : l.drop i = x :: l.drop (i + 1) := by
  obtain ⟨hi, rfl⟩ := List.getElem?_eq_some_iff.1 h; exact List.drop_eq_getElem_cons hi
theorem atS_skip {g : Geo.G} {epoch s : Int} {l : List Fnd} {i : Nat} {f : Fnd} (h : l[i]? = some f) (hp : pF g epoch s f = none) : atS g epoch s (l.drop i) = atS g epoch s (l.drop (i + 1)) := by
  rw [drop_at h]; unfold atS; rw [List.filterMap_cons_none hp]
theorem atS_cons {g : Geo.G} {epoch s : Int} {l : List Fnd} {i : Nat} {f : Fnd} {a : Rec} (h : l[i]? = some f) (hp : pF g epoch s f = some a) : atS g epoch s (l.drop i) = a :: atS g epoch s (l.drop (i + 1)) := by
  rw [drop_at h]; unfold atS; rw [List.filterMap_cons_some hp]
theorem pF_some {g : Geo.G} {epoch s : Int} {f : Fnd} {e : En.E} (h : recE g epoch f = some e) (hs : f.fr.seq = s) : pF g epoch s f = some ⟨e, f.zone, f.off⟩ := by
  unfold pF; rw [h]; exact if_pos hs
theorem pF_none {g : Geo.G} {epoch s : Int} {f : Fnd} (h : recE g epoch f = none ∨ f.fr.seq ≠ s) : pF g epoch s f = none := by
  unfold pF
  cases hx : recE g epoch f with
  | none => rfl
  | some e =>
    rcases h with h | h
    · rw [hx] at h; cases h
    · exact if_neg h
/-- what the document chooses -/
def ChosenAt (g : Geo.G) (epoch s : Int) (l : List Fnd) (e : En.E) (f : Fnd) (b k : Bool) : Prop :=
  (k = true ∧ f ∈ l ∧ recE g epoch f = some e ∧ f.fr.seq = s ∧ choose (atS g epoch s l) = ⟨⟨e, f.zone, f.off⟩, b⟩ ∧ atS g epoch s l ≠ []) ∨
  (k = false ∧ b = false ∧ e = En.E.zero ∧ f = fnd0 ∧ atS g epoch s l = [])
/-- the first loop: no pair among those ahead -/
def Inv1 (g : Geo.G) (epoch s : Int) (l : List Fnd) (i : Nat) : Prop := firstPair (atS g epoch s l) = firstPair (atS g epoch s (l.drop i))
/-- the loop within: no mate so far -/
def Inv2 (g : Geo.G) (epoch s : Int) (l : List Fnd) (i : Nat) (a : Rec) (k : Nat) : Prop := (atS g epoch s (l.drop (i + 1))).any (mates a) = (atS g epoch s (l.drop k)).any (mates a)
/-- the last loop: none so far -/
def Inv3 (g : Geo.G) (epoch s : Int) (l : List Fnd) (i : Nat) : Prop := atS g epoch s l = atS g epoch s (l.drop i)
theorem Inv1.skip {g : Geo.G} {epoch s : Int} {l : List Fnd} {i : Nat} {f : Fnd} (h : Inv1 g epoch s l i) (hf : l[i]? = some f) (hp : pF g epoch s f = none) : Inv1 g epoch s l (i + 1) := by
  unfold Inv1 at h ⊢; rw [h, atS_skip hf hp]
theorem Inv1.next {g : Geo.G} {epoch s : Int} {l : List Fnd} {i : Nat} {f : Fnd} {a : Rec} (h : Inv1 g epoch s l i) (hf : l[i]? = some f) (hp : pF g epoch s f = some a) (h2 : Inv2 g epoch s l i a l.length) : Inv1 g epoch s l (i + 1) := by
  unfold Inv1 at h ⊢; unfold Inv2 at h2; rw [h, atS_cons hf hp]; rw [List.drop_length] at h2
  conv => lhs; unfold firstPair
  rw [h2]; simp [atS]
theorem Inv2.skip {g : Geo.G} {epoch s : Int} {l : List Fnd} {i : Nat} {a : Rec} {k : Nat} {f : Fnd} (h : Inv2 g epoch s l i a k) (hf : l[k]? = some f) (hp : pF g epoch s f = none ∨ ∃ b, pF g epoch s f = some b ∧ mates a b = false) : Inv2 g epoch s l i a (k + 1) := by
  unfold Inv2 at h ⊢; rw [h]; rcases hp with hp | ⟨b, hp, hm⟩
  · rw [atS_skip hf hp]
  · rw [atS_cons hf hp, List.any_cons, hm, Bool.false_or]
theorem Inv3.skip {g : Geo.G} {epoch s : Int} {l : List Fnd} {i : Nat} {f : Fnd} (h : Inv3 g epoch s l i) (hf : l[i]? = some f) (hp : pF g epoch s f = none) : Inv3 g epoch s l (i + 1) := by
  unfold Inv3 at h ⊢; rw [h, atS_skip hf hp]
/-- a pair is found -/
theorem chosen_pair {g : Geo.G} {epoch s : Int} {l : List Fnd} {i k : Nat} {f h : Fnd} {x y : En.E} (h1 : Inv1 g epoch s l i) (hf : l[i]? = some f) (hx : recE g epoch f = some x) (hs : f.fr.seq = s) (h2 : Inv2 g epoch s l i ⟨x, f.zone, f.off⟩ k) (hh : l[k]? = some h) (hy : recE g epoch h = some y) (ht : h.fr.seq = s)
    (hm : mates ⟨x, f.zone, f.off⟩ ⟨y, h.zone, h.off⟩ = true) : ChosenAt g epoch s l x f false true := by
  have hc := atS_cons hf (pF_some hx hs)
  have hany : (atS g epoch s (l.drop (i + 1))).any (mates ⟨x, f.zone, f.off⟩) = true := by
    unfold Inv2 at h2; rw [h2, atS_cons hh (pF_some hy ht), List.any_cons, hm, Bool.true_or]
  have hfp : firstPair (atS g epoch s l) = some ⟨x, f.zone, f.off⟩ := by
    unfold Inv1 at h1; rw [h1, hc]; unfold firstPair; rw [if_pos hany]
  refine .inl ⟨rfl, List.mem_of_getElem? hf, hx, hs, ?_, fun hn => ?_⟩
  · unfold choose; rw [hfp]
  · rw [hn] at hfp; cases hfp
/-- a single one is found -/
theorem chosen_single {g : Geo.G} {epoch s : Int} {l : List Fnd} {i : Nat} {f : Fnd} {x : En.E} (h1 : Inv1 g epoch s l l.length) (h3 : Inv3 g epoch s l i) (hf : l[i]? = some f) (hx : recE g epoch f = some x) (hs : f.fr.seq = s) : ChosenAt g epoch s l x f true true := by
  have hc := atS_cons hf (pF_some hx hs); unfold Inv3 at h3; unfold Inv1 at h1; rw [List.drop_length] at h1; refine .inl ⟨rfl, List.mem_of_getElem? hf, hx, hs, ?_, by rw [h3, hc]; simp⟩; unfold choose; rw [h1]; simp only [atS, List.filterMap_nil, firstPair]; show (⟨(atS g epoch s l).headD rec0, true⟩ : Ch) = _; rw [h3, hc]; rfl
theorem chosen_none {g : Geo.G} {epoch s : Int} {l : List Fnd} (h3 : Inv3 g epoch s l l.length) : ChosenAt g epoch s l En.E.zero fnd0 false false := by
  unfold Inv3 at h3; rw [List.drop_length] at h3; exact .inr ⟨rfl, rfl, rfl, rfl, h3⟩
end Rl
end Go.Proofs.Ytoiephmngdecaaa
namespace Go.Proofs.Ytoiephmngdecaaa
open Go.RowKit Go.Rv
set_option linter.unusedVariables false
attribute [local go_sem] Oper.semAt_some
def hold17 (g : Geo.G) (z o : Int) : Bool := decide (0 ≤ z) && (decide (z < g.d * g.z) && (decide (0 ≤ o) && decide (o < g.s)))
set_option maxRecDepth 100000 in
set_option maxHeartbeats 2000000 in
theorem hold17_any (g : Geo.G) (zone off : Int) (w : World) (h : Geo.Small g) :
    Calls Try.prog 44 #[.agg (GC g), .int .i64 zone, .int .i64 off] w fun e w' => e = .returned (.bool (hold17 g zone off)) ∧ Below w.heap.size w w' := by
  have hg := heap_alloc_new w (.cells (GC g) 47); have hB : Below w.heap.size w (w.alloc (.cells (GC g) 47)) := (Below.refl _ _).alloc (Nat.le_refl _) _; obtain ⟨c0, c1, c2, -, -, -⟩ := geo_cells hg; obtain ⟨hd, hz, hs, -⟩ := id h; have hdz := Geo.dz_bd h; obtain ⟨d, hde⟩ : ∃ d, g.d = d := ⟨_, rfl⟩; obtain ⟨z, hze⟩ : ∃ z, g.z = z := ⟨_, rfl⟩; obtain ⟨s, hse⟩ : ∃ s, g.s = s := ⟨_, rfl⟩; unfold hold17; rw [hde, hze, hse]; rw [hde] at c0 hd hdz; rw [hze] at c1 hz hdz; rw [hse] at c2 hs; generalize GC g = C at *; clear hg h hde hze hse; go_enter Try.func44, Try.ntmps44; cases t1 : decide (0 ≤ zone)
  · simp only [Bool.false_and]; go_wp2; go_ret; exact ⟨rfl, hB⟩
  · cases t2 : decide (zone < d * z)
    · simp only [Bool.true_and, Bool.false_and]; go_wp2; go_ret; exact ⟨rfl, hB⟩
    · cases t3 : decide (0 ≤ off)
      · simp only [Bool.true_and, Bool.false_and]; go_wp2; go_ret; exact ⟨rfl, hB⟩
      · cases t4 : decide (off < s)
        · simp only [Bool.true_and]; go_wp2; go_ret; exact ⟨rfl, hB⟩
        · simp only [Bool.true_and]; go_wp2; go_ret; exact ⟨rfl, hB⟩
end Go.Proofs.Ytoiephmngdecaaa
namespace Go.Proofs.Ytoiephmngdecaaa
open Go.RowKit Go.Rv Frm
set_option linter.unusedVariables false
set_option maxRecDepth 100000 in
set_option maxHeartbeats 4000000 in
theorem rfright_at (k z o e s : Int) (C : Array Value) (d : Bool) (hd : d = decide (1 ≤ k ∧ k ≤ 5 ∧ 0 ≤ z ∧ z ≤ 65535 ∧ 0 ≤ o ∧ o ≤ 65535 ∧ 1 ≤ e ∧ e ≤ 4294967295 ∧ 0 ≤ s ∧ s ≤ 281474976710655)) (w : World)
    (c0 : (w.alloc (.cells C 59)).cell? ⟨w.heap.size, 0, none⟩ = some (.int .i64 k)) (c1 : (w.alloc (.cells C 59)).cell? ⟨w.heap.size, 1, none⟩ = some (.int .i64 z)) (c2 : (w.alloc (.cells C 59)).cell? ⟨w.heap.size, 2, none⟩ = some (.int .i64 o)) (c3 : (w.alloc (.cells C 59)).cell? ⟨w.heap.size, 3, none⟩ = some (.int .i64 e)) (c4 : (w.alloc (.cells C 59)).cell? ⟨w.heap.size, 4, none⟩ = some (.int .i64 s)) :
    Calls Try.prog 43 #[.agg C] w fun e w' => e = .returned (.bool d) ∧ Below w.heap.size w w' := by
  have hB : Below w.heap.size w (w.alloc (.cells C 59)) := (Below.refl _ _).alloc (Nat.le_refl _) _; by_cases h0 : 1 ≤ k
  case neg =>
    have HD : Hid (d = false) := by rw [hd]; exact decide_eq_false (by rintro ⟨a0, a1, a2, a3, a4, a5, a6, a7, a8, a9⟩; exact h0 a0)
    have t0 : decide (1 ≤ k) = false := decide_eq_false h0; clear hd h0; go_enter Try.func43, Try.ntmps43; go_wp2; go_ret; exact ⟨by rw [HD.out]; rfl, hB⟩
  by_cases h1 : k ≤ 5
  case neg =>
    have HD : Hid (d = false) := by rw [hd]; exact decide_eq_false (by rintro ⟨a0, a1, a2, a3, a4, a5, a6, a7, a8, a9⟩; exact h1 a1)
    have t0 : decide (1 ≤ k) = true := decide_eq_true h0; have t1 : decide (k ≤ 5) = false := decide_eq_false h1; clear hd h0 h1; go_enter Try.func43, Try.ntmps43; go_wp2; go_ret; exact ⟨by rw [HD.out]; rfl, hB⟩
  by_cases h2 : 0 ≤ z
  case neg =>
    have HD : Hid (d = false) := by rw [hd]; exact decide_eq_false (by rintro ⟨a0, a1, a2, a3, a4, a5, a6, a7, a8, a9⟩; exact h2 a2)
    have t0 : decide (1 ≤ k) = true := decide_eq_true h0; have t1 : decide (k ≤ 5) = true := decide_eq_true h1; have t2 : decide (0 ≤ z) = false := decide_eq_false h2; clear hd h0 h1 h2; go_enter Try.func43, Try.ntmps43; go_wp2; go_ret; exact ⟨by rw [HD.out]; rfl, hB⟩
  by_cases h3 : z ≤ 65535
  case neg =>
    have HD : Hid (d = false) := by rw [hd]; exact decide_eq_false (by rintro ⟨a0, a1, a2, a3, a4, a5, a6, a7, a8, a9⟩; exact h3 a3)
    have t0 : decide (1 ≤ k) = true := decide_eq_true h0; have t1 : decide (k ≤ 5) = true := decide_eq_true h1; have t2 : decide (0 ≤ z) = true := decide_eq_true h2; have t3 : decide (z ≤ 65535) = false := decide_eq_false h3; clear hd h0 h1 h2 h3; go_enter Try.func43, Try.ntmps43; go_wp2; go_ret; exact ⟨by rw [HD.out]; rfl, hB⟩
  by_cases h4 : 0 ≤ o
  case neg =>
    have HD : Hid (d = false) := by rw [hd]; exact decide_eq_false (by rintro ⟨a0, a1, a2, a3, a4, a5, a6, a7, a8, a9⟩; exact h4 a4)
    have t0 : decide (1 ≤ k) = true := decide_eq_true h0; have t1 : decide (k ≤ 5) = true := decide_eq_true h1; have t2 : decide (0 ≤ z) = true := decide_eq_true h2; have t3 : decide (z ≤ 65535) = true := decide_eq_true h3; have t4 : decide (0 ≤ o) = false := decide_eq_false h4; clear hd h0 h1 h2 h3 h4; go_enter Try.func43, Try.ntmps43; go_wp2; go_ret; exact ⟨by rw [HD.out]; rfl, hB⟩
  by_cases h5 : o ≤ 65535
  case neg =>
    have HD : Hid (d = false) := by rw [hd]; exact decide_eq_false (by rintro ⟨a0, a1, a2, a3, a4, a5, a6, a7, a8, a9⟩; exact h5 a5)
    have t0 : decide (1 ≤ k) = true := decide_eq_true h0; have t1 : decide (k ≤ 5) = true := decide_eq_true h1; have t2 : decide (0 ≤ z) = true := decide_eq_true h2; have t3 : decide (z ≤ 65535) = true := decide_eq_true h3; have t4 : decide (0 ≤ o) = true := decide_eq_true h4; have t5 : decide (o ≤ 65535) = false := decide_eq_false h5; clear hd h0 h1 h2 h3 h4 h5; go_enter Try.func43, Try.ntmps43; go_wp2; go_ret; exact ⟨by rw [HD.out]; rfl, hB⟩
  by_cases h6 : 1 ≤ e
  case neg =>
    have HD : Hid (d = false) := by rw [hd]; exact decide_eq_false (by rintro ⟨a0, a1, a2, a3, a4, a5, a6, a7, a8, a9⟩; exact h6 a6)
    have t0 : decide (1 ≤ k) = true := decide_eq_true h0; have t1 : decide (k ≤ 5) = true := decide_eq_true h1; have t2 : decide (0 ≤ z) = true := decide_eq_true h2; have t3 : decide (z ≤ 65535) = true := decide_eq_true h3; have t4 : decide (0 ≤ o) = true := decide_eq_true h4; have t5 : decide (o ≤ 65535) = true := decide_eq_true h5; have t6 : decide (1 ≤ e) = false := decide_eq_false h6; clear hd h0 h1 h2 h3 h4 h5 h6; go_enter Try.func43, Try.ntmps43; go_wp2; go_ret; exact ⟨by rw [HD.out]; rfl, hB⟩
  by_cases h7 : e ≤ 4294967295
  case neg =>
    have HD : Hid (d = false) := by rw [hd]; exact decide_eq_false (by rintro ⟨a0, a1, a2, a3, a4, a5, a6, a7, a8, a9⟩; exact h7 a7)
    have t0 : decide (1 ≤ k) = true := decide_eq_true h0; have t1 : decide (k ≤ 5) = true := decide_eq_true h1; have t2 : decide (0 ≤ z) = true := decide_eq_true h2; have t3 : decide (z ≤ 65535) = true := decide_eq_true h3; have t4 : decide (0 ≤ o) = true := decide_eq_true h4; have t5 : decide (o ≤ 65535) = true := decide_eq_true h5; have t6 : decide (1 ≤ e) = true := decide_eq_true h6; have t7 : decide (e ≤ 4294967295) = false := decide_eq_false h7; clear hd h0 h1 h2 h3 h4 h5 h6 h7; go_enter Try.func43, Try.ntmps43; go_wp2; go_ret; exact ⟨by rw [HD.out]; rfl, hB⟩
  by_cases h8 : 0 ≤ s
  case neg =>
    have HD : Hid (d = false) := by rw [hd]; exact decide_eq_false (by rintro ⟨a0, a1, a2, a3, a4, a5, a6, a7, a8, a9⟩; exact h8 a8)
    have t0 : decide (1 ≤ k) = true := decide_eq_true h0; have t1 : decide (k ≤ 5) = true := decide_eq_true h1; have t2 : decide (0 ≤ z) = true := decide_eq_true h2; have t3 : decide (z ≤ 65535) = true := decide_eq_true h3; have t4 : decide (0 ≤ o) = true := decide_eq_true h4; have t5 : decide (o ≤ 65535) = true := decide_eq_true h5; have t6 : decide (1 ≤ e) = true := decide_eq_true h6; have t7 : decide (e ≤ 4294967295) = true := decide_eq_true h7; have t8 : decide (0 ≤ s) = false := decide_eq_false h8; clear hd h0 h1 h2 h3 h4 h5 h6 h7 h8; go_enter Try.func43, Try.ntmps43; go_wp2; go_ret; exact ⟨by rw [HD.out]; rfl, hB⟩
  by_cases h9 : s ≤ 281474976710655
  case neg =>
    have HD : Hid (d = false) := by rw [hd]; exact decide_eq_false (by rintro ⟨a0, a1, a2, a3, a4, a5, a6, a7, a8, a9⟩; exact h9 a9)
    have t0 : decide (1 ≤ k) = true := decide_eq_true h0; have t1 : decide (k ≤ 5) = true := decide_eq_true h1; have t2 : decide (0 ≤ z) = true := decide_eq_true h2; have t3 : decide (z ≤ 65535) = true := decide_eq_true h3; have t4 : decide (0 ≤ o) = true := decide_eq_true h4; have t5 : decide (o ≤ 65535) = true := decide_eq_true h5; have t6 : decide (1 ≤ e) = true := decide_eq_true h6; have t7 : decide (e ≤ 4294967295) = true := decide_eq_true h7; have t8 : decide (0 ≤ s) = true := decide_eq_true h8; have t9 : decide (s ≤ 281474976710655) = false := decide_eq_false h9; clear hd h0 h1 h2 h3 h4 h5 h6 h7 h8 h9; go_enter Try.func43, Try.ntmps43; go_wp2; go_ret; exact ⟨by rw [HD.out]; rfl, hB⟩
  have HD : Hid (d = true) := by rw [hd]; exact decide_eq_true ⟨h0, h1, h2, h3, h4, h5, h6, h7, h8, h9⟩
  have t0 : decide (1 ≤ k) = true := decide_eq_true h0; have t1 : decide (k ≤ 5) = true := decide_eq_true h1; have t2 : decide (0 ≤ z) = true := decide_eq_true h2; have t3 : decide (z ≤ 65535) = true := decide_eq_true h3; have t4 : decide (0 ≤ o) = true := decide_eq_true h4; have t5 : decide (o ≤ 65535) = true := decide_eq_true h5; have t6 : decide (1 ≤ e) = true := decide_eq_true h6; have t7 : decide (e ≤ 4294967295) = true := decide_eq_true h7; have t8 : decide (0 ≤ s) = true := decide_eq_true h8; have t9 : decide (s ≤ 281474976710655) = true := decide_eq_true h9; clear hd h0 h1 h2 h3 h4 h5 h6 h7 h8 h9; go_enter Try.func43, Try.ntmps43; go_wp2; go_ret; exact ⟨by rw [HD.out]; rfl, hB⟩
theorem rfright_any (f : Fr) (w : World) :
    Calls Try.prog 43 #[.agg (FC f)] w fun e w' => e = .returned (.bool (rightF f)) ∧ Below w.heap.size w w' := by
  obtain ⟨c0, c1, c2, c3, c4⟩ := frame_cells (heap_alloc_new w (.cells (FC f) 59)); exact rfright_at f.kind f.zone f.off f.epoch f.seq (FC f) (rightF f) rfl w c0 c1 c2 c3 c4
end Go.Proofs.Ytoiephmngdecaaa
