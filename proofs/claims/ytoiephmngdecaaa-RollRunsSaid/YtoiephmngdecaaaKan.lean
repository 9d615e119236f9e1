/- Proved here: the entry of a record (roll's Record). -/
import Derived.Deep.MidRow
import Derived.Test.YtoiephmngdecaaaKag
import Derived.Test.YtoiephmngdecaaaKaj
import Derived.Test.YtoiephmngdecaaaKam
namespace Go.Proofs.Ytoiephmngdecaaa
open Go.RowKit Go.Rv Rl Frm
set_option linter.unusedVariables false
attribute [local go_sem] Oper.semAt_some
theorem fnd_cells {w : World} {b : Nat} {f : Fnd} {t : TypeId} (h : w.heap[b]? = some (.cells (fndC f) t (0, 0))) : w.cell? ⟨b, 0, none⟩ = some (.int .i64 f.zone) ∧ w.cell? ⟨b, 1, none⟩ = some (.int .i64 f.off) ∧ w.cell? ⟨b, 3, none⟩ = some (.int .i64 f.fr.zone) ∧ w.cell? ⟨b, 4, none⟩ = some (.int .i64 f.fr.off) ∧ w.cell? ⟨b, 5, none⟩ = some (.int .i64 f.fr.epoch) ∧ w.cell? ⟨b, 6, none⟩ = some (.int .i64 f.fr.seq) := by
  have key : ∀ j, (fndC f)[2 + j]? = (FC f.fr)[j]? := fun j => by
    unfold fndC; rw [Array.getElem?_append_right (by simp)]; simp
  obtain ⟨h0, h1, h2, h3, h4⟩ := FC_num f.fr; refine ⟨(cell_of_row _ _ _ _ _ _ h).trans ?_, (cell_of_row _ _ _ _ _ _ h).trans ?_, (cell_of_row _ _ _ _ _ _ h).trans ((key 1).trans h1), (cell_of_row _ _ _ _ _ _ h).trans ((key 2).trans h2), (cell_of_row _ _ _ _ _ _ h).trans ((key 3).trans h3), (cell_of_row _ _ _ _ _ _ h).trans ((key 4).trans h4)⟩
  · unfold fndC; rw [Array.getElem?_append_left (by simp)]; rfl
  · unfold fndC; rw [Array.getElem?_append_left (by simp)]; rfl
theorem fnd_range {w : World} {b : Nat} {f : Fnd} {t : TypeId} (h : w.heap[b]? = some (.cells (fndC f) t (0, 0))) : w.rangeAt b 2 (FC f.fr).toList := fun j v hv => by
  rw [cell_of_row _ _ _ _ _ _ h, ← hv, Array.getElem?_toList]; unfold fndC; rw [Array.getElem?_append_right (by simp)]; simp
/-- the entry that Read gives, and whether it is a record's -/
theorem readE_ok {f : Fr} (hf : Body f.body) (h : (readE f).2 = 0) : En.right (readE f).1 = true := by
  rcases readE_cases f hf with ⟨-, h1⟩ | ⟨-, -, h1⟩ | ⟨-, -, -, h1⟩ | ⟨-, -, -, -, h1⟩ | ⟨h0, -, -, -, h1, -⟩
  · rw [h1] at h; cases h
  · rw [h1] at h; cases h
  · rw [h1] at h; cases h
  · rw [h1] at h; cases h
  · rw [h1]; unfold En.ofE at h0 ⊢; split
    · assumption
    · rename_i hn; rw [if_neg hn] at h0; cases h0
theorem holdsG_small {g : Geo.G} {z o : Int} (h : holdsG g z o = true) : Geo.Small g := by
  unfold holdsG at h; rw [Bool.and_eq_true] at h; exact ((Geo.right_iff g).1 h.1).1
theorem readE_body (f : Fr) (hf : Body f.body) : EBody (readE f).1 := by
  unfold readE; split
  · exact zero_ebody
  · split
    · exact zero_ebody
    · exact ofE_body hf.1 hf.2
set_option maxRecDepth 100000 in
set_option maxHeartbeats 8000000 in
theorem rrecord_core (w : World) (CF CE : Array Value) (g : Geo.G) (epoch zone off fz fo fe mate block many x : Int) (h1 h2 rb : Bool) (d1 d2 : Int) (XL : List Value)
    (hCF : ∀ (W : World) (b : Nat), W.heap[b]? = some (.cells CF 70 (0, 0)) → W.cell? ⟨b, 0, none⟩ = some (.int .i64 zone) ∧ W.cell? ⟨b, 1, none⟩ = some (.int .i64 off) ∧ W.cell? ⟨b, 3, none⟩ = some (.int .i64 fz) ∧ W.cell? ⟨b, 4, none⟩ = some (.int .i64 fo) ∧ W.cell? ⟨b, 5, none⟩ = some (.int .i64 fe) ∧ W.rangeAt b 2 XL)
    (hCE : ∀ (W : World) (b : Nat), W.heap[b]? = some (.cells CE 65 (0, 0)) → W.cell? ⟨b, 3, none⟩ = some (.int .i64 block) ∧ W.cell? ⟨b, 4, none⟩ = some (.int .i64 many) ∧ W.cell? ⟨b, 5, none⟩ = some (.int .i64 mate))
    (hIF : (Try.prog.info? 70).map (·.size) = some CF.size) (hIX : (Try.prog.info? 68).map (·.size) = some XL.length) (hIE : (Try.prog.info? 65).map (·.size) = some CE.size) (hSE : (EC En.E.zero).size = CE.size) (hOE : CE.all (·.oneCell') = true)
    (HR : ∀ W, Calls Try.prog 39 #[.agg XL.toArray] W fun e w' => e = .returned (.tuple #[.agg CE, .int .i64 x]) ∧ Below W.heap.size W w')
    (HH1 : ∀ W, Calls Try.prog 40 #[.agg (GC g), .int .i64 zone, .int .i64 off] W fun e w' => e = .returned (.bool h1) ∧ Below W.heap.size W w')
    (HH2 : ∀ W, Calls Try.prog 40 #[.agg (GC g), .int .i64 mate, .int .i64 off] W fun e w' => e = .returned (.bool h2) ∧ Below W.heap.size W w')
    (HD1 : h1 = true → h2 = true → ∀ W, Calls Try.prog 41 #[.agg (GC g), .int .i64 zone] W fun e w' => e = .returned (.int .i64 d1) ∧ Below W.heap.size W w')
    (HD2 : h1 = true → h2 = true → ∀ W, Calls Try.prog 41 #[.agg (GC g), .int .i64 mate] W fun e w' => e = .returned (.int .i64 d2) ∧ Below W.heap.size W w')
    (hbd : x = 0 → (0 ≤ block ∧ block ≤ 255) ∧ (0 ≤ many ∧ many ≤ 256))
    (hc : ((x != 0) = true ∧ rb = false) ∨ (x = 0 ∧ (fe != epoch) = true ∧ rb = false) ∨ (x = 0 ∧ epoch = fe ∧ (fz != zone) = true ∧ rb = false) ∨ (x = 0 ∧ epoch = fe ∧ zone = fz ∧ (fo != off) = true ∧ rb = false) ∨
      (x = 0 ∧ epoch = fe ∧ zone = fz ∧ off = fo ∧ ((h1 = false ∧ rb = false) ∨ (h1 = true ∧ h2 = false ∧ rb = false) ∨ (h1 = true ∧ h2 = true ∧ d1 = d2 ∧ rb = false) ∨ (h1 = true ∧ h2 = true ∧ (d1 == d2) = false ∧ ((decide (g.b < block + max many 1) = true ∧ rb = false) ∨ (decide (g.b < block + max many 1) = false ∧ rb = true)))))) :
    Calls Try.prog 17 #[.agg (GC g), .int .i64 epoch, .agg CF] w fun e w' => e = .returned (.tuple #[.agg (if rb = true then CE else EC En.E.zero), .bool rb]) ∧ Below w.heap.size w w' := by
  have hz := (zero_of_info Try.infoEntry).1; have HCF := Lib.hid hCF; have HCE := Lib.hid hCE; have HIF := Lib.hid hIF; have HIX := Lib.hid hIX; have HIE := Lib.hid hIE; have HSE := Lib.hid hSE; have HOE := Lib.hid hOE; have HRR := Lib.hid HR; have HHA := Lib.hid HH1; have HHB := Lib.hid HH2; have HDA := Lib.hid HD1; have HDB := Lib.hid HD2; have HBD := Lib.hid hbd; have HGI := Lib.hid (gsize (g := g)); have HGC : Hid (∀ (W : World) (b : Nat), W.heap[b]? = some (.cells (GC g) 23 (0, 0)) → W.cell? ⟨b, 3, none⟩ = some (.int .i64 g.b)) := Lib.hid (fun W b h => (geo_cells h).2.2.2.1); have HIZ := Lib.hid (size_ent (e := En.E.zero) (by simp [En.E.zero])); have HOZ := Lib.hid (EC_one En.E.zero); have HBZ := Lib.hid built_ent0; obtain ⟨Z, hZ⟩ : ∃ Z, EC En.E.zero = Z := ⟨_, rfl⟩; rw [hZ] at hz HIZ HOZ HBZ HSE ⊢; obtain ⟨CG, hCG⟩ : ∃ C, GC g = C := ⟨_, rfl⟩; obtain ⟨gb, hgb⟩ : ∃ b, g.b = b := ⟨_, rfl⟩; rw [hCG] at HHA HHB HDA HDB HGI HGC ⊢; rw [hgb] at HGC hc; have hB0 : Below w.heap.size w (((w.alloc (.cells CG 23)).alloc (.cells CF 70)).alloc (.cells Z 65)) := (((Below.refl _ _).alloc (Nat.le_refl _) _).alloc (by simp) _).alloc (by simp; omega) _; obtain ⟨W0, hW0⟩ : ∃ W0, ((w.alloc (.cells CG 23)).alloc (.cells CF 70)).alloc (.cells Z 65) = W0 := ⟨_, rfl⟩; have hG0 : W0.heap[w.heap.size]? = some (.cells CG 23 (0, 0)) := by rw [← hW0, alloc_old _ _ (by simp; omega), alloc_old _ _ (by simp)]; exact alloc_new _ _ rfl
  have hF0 : W0.heap[w.heap.size + 1]? = some (.cells CF 70 (0, 0)) := by rw [← hW0, alloc_old _ _ (by simp)]; exact alloc_new _ _ (by simp)
  have hR0 : W0.heap[w.heap.size + 1 + 1]? = some (.cells Z 65 (0, 0)) := by rw [← hW0]; exact alloc_new _ _ (by simp)
  rw [hW0] at hB0; have HW0 := Lib.hid hW0; have HB0 := Lib.hid hB0; have HG0 := Lib.hid hG0; have HF0 := Lib.hid hF0; have HR0 := Lib.hid hR0; have z0 : w.heap.size + 1 + 1 < W0.heap.size := (Array.getElem?_eq_some_iff.1 hR0).1; have HRG := Lib.hid (HCF.out W0 _ hF0).2.2.2.2.2; have HFIN : Hid (∀ (W : World) (X : Array Value) (b : Bool), Below W0.heap.size W0 W → X.size = Z.size → Below w.heap.size w (W.setRow (w.heap.size + 1 + 1) X) ∧ (W.setRow (w.heap.size + 1 + 1) X).heap[w.heap.size + 1 + 1]? = some (.cells X 65 (0, 0))) := Lib.hid (fun W X b hB hs => ⟨below_setRow (hB0.trans (hB.mono (by omega))) (by omega) _, setRow_heap _ _ _ _ _ _ ((hB.block _ z0).trans hR0)⟩); clear hCF hCE hIF hIX hIE hSE hOE HR HH1 HH2 HD1 HD2 hbd hZ hCG hgb hB0 hW0 hG0 hF0 hR0; go_enter Try.func17, Try.ntmps17; go_upto_region 1 with (fail); rw [HW0.out]; go_wp2_with (refine wpList_load_mid rfl 68 _ rfl (w.heap.size + 1) 2 rfl XL _ HRG.out Try.underlying68 rfl HIX.out ?_); refine (HRR.out _).mono ?_; rintro e1 w1 ⟨rfl, hB1⟩; have z1 := hB1.size; obtain ⟨W2, hW2⟩ : ∃ W2, w1.alloc (.cells CE 65) = W2 := ⟨_, rfl⟩; have hb2 : Below W0.heap.size W0 W2 := by rw [← hW2]; exact hB1.alloc z1 _
  have hE2 : W2.heap[w1.heap.size]? = some (.cells CE 65 (0, 0)) := by rw [← hW2]; exact heap_alloc_new w1 _
  have HB2 := Lib.hid hb2; have HW2 := Lib.hid hW2; have z2 := hb2.size; have zE2 : w1.heap.size < W2.heap.size := (Array.getElem?_eq_some_iff.1 hE2).1; have HE2 := Lib.hid hE2; have HKE : Hid (∀ W, Below W2.heap.size W2 W → W.cell? ⟨w1.heap.size, 3, none⟩ = some (.int .i64 block) ∧ W.cell? ⟨w1.heap.size, 4, none⟩ = some (.int .i64 many) ∧ W.cell? ⟨w1.heap.size, 5, none⟩ = some (.int .i64 mate)) := Lib.hid (fun W hB => HCE.out W _ ((hB.block _ zE2).trans hE2))
  have HKF : Hid (∀ W, Below W2.heap.size W2 W → W.cell? ⟨w.heap.size + 1, 0, none⟩ = some (.int .i64 zone) ∧ W.cell? ⟨w.heap.size + 1, 1, none⟩ = some (.int .i64 off) ∧ W.cell? ⟨w.heap.size + 1, 3, none⟩ = some (.int .i64 fz) ∧ W.cell? ⟨w.heap.size + 1, 4, none⟩ = some (.int .i64 fo) ∧ W.cell? ⟨w.heap.size + 1, 5, none⟩ = some (.int .i64 fe)) := Lib.hid (fun W hB => by
    obtain ⟨c0, c1, c2, c3, c4, -⟩ := HCF.out W (w.heap.size + 1) (((hB.block _ (by omega)).trans (hb2.block _ (by omega))).trans HF0.out); exact ⟨c0, c1, c2, c3, c4⟩)
  have HKG : Hid (∀ W, Below W2.heap.size W2 W → W.heap[w.heap.size]? = some (.cells CG 23 (0, 0))) := Lib.hid (fun W hB => ((hB.block _ (by omega)).trans (hb2.block _ (by omega))).trans HG0.out); obtain ⟨f0, f1, f2, f3, f4⟩ := HKF.out W2 (Below.refl _ _); clear hB1 hb2 hE2 hW2; go_upto_region 2 with (refine wpList_store_row rfl 65 _ _ rfl w1.heap.size CE rfl rfl 65 Z (heap_alloc_new w1 _) HIE.out HSE.out HOE.out ?_; rw [World.setRow_alloc_new]); rw [HW2.out]; rcases hc with ⟨t1, rfl⟩ | ⟨rfl, t1, rfl⟩ | ⟨rfl, rfl, t1, rfl⟩ | ⟨rfl, rfl, rfl, t1, rfl⟩ | ⟨rfl, rfl, rfl, rfl, hc⟩
  · have hr2 := (HB2.out.block _ z0).trans HR0.out; go_upto_region 3 with (fail); go_wp2_with (first | (refine wpList_build_on (by rfl) 65 _ rfl #[] (by simp) Z HBZ.out ?_) | (refine wpList_store_row rfl 65 _ _ rfl (w.heap.size + 1 + 1) Z rfl rfl 65 Z hr2 HIZ.out rfl HOZ.out ?_)); obtain ⟨r1, r2⟩ := HFIN.out W2 Z false HB2.out rfl; refine bodyPost_ret (res_row_tmp rfl _ _ (w.heap.size + 1 + 1) 65 Z _ _ rfl r2 Try.underlying65 rfl HIZ.out) rfl ?_; exact ⟨rfl, r1⟩
  · have hr2 := (HB2.out.block _ z0).trans HR0.out; go_upto_region 3 with (fail); go_wp2_with (first | (refine wpList_build_on (by rfl) 65 _ rfl #[] (by simp) Z HBZ.out ?_) | (refine wpList_store_row rfl 65 _ _ rfl (w.heap.size + 1 + 1) Z rfl rfl 65 Z hr2 HIZ.out rfl HOZ.out ?_)); obtain ⟨r1, r2⟩ := HFIN.out W2 Z false HB2.out rfl; refine bodyPost_ret (res_row_tmp rfl _ _ (w.heap.size + 1 + 1) 65 Z _ _ rfl r2 Try.underlying65 rfl HIZ.out) rfl ?_; exact ⟨rfl, r1⟩
  · have hr2 := (HB2.out.block _ z0).trans HR0.out; go_upto_region 3 with (fail); go_wp2_with (first | (refine wpList_build_on (by rfl) 65 _ rfl #[] (by simp) Z HBZ.out ?_) | (refine wpList_store_row rfl 65 _ _ rfl (w.heap.size + 1 + 1) Z rfl rfl 65 Z hr2 HIZ.out rfl HOZ.out ?_)); obtain ⟨r1, r2⟩ := HFIN.out W2 Z false HB2.out rfl; refine bodyPost_ret (res_row_tmp rfl _ _ (w.heap.size + 1 + 1) 65 Z _ _ rfl r2 Try.underlying65 rfl HIZ.out) rfl ?_; exact ⟨rfl, r1⟩
  · have hr2 := (HB2.out.block _ z0).trans HR0.out; go_upto_region 3 with (fail); go_wp2_with (first | (refine wpList_build_on (by rfl) 65 _ rfl #[] (by simp) Z HBZ.out ?_) | (refine wpList_store_row rfl 65 _ _ rfl (w.heap.size + 1 + 1) Z rfl rfl 65 Z hr2 HIZ.out rfl HOZ.out ?_)); obtain ⟨r1, r2⟩ := HFIN.out W2 Z false HB2.out rfl; refine bodyPost_ret (res_row_tmp rfl _ _ (w.heap.size + 1 + 1) 65 Z _ _ rfl r2 Try.underlying65 rfl HIZ.out) rfl ?_; exact ⟨rfl, r1⟩
  · go_upto_region 4 with (fail); rcases hc with ⟨rfl, rfl⟩ | ⟨rfl, rfl, rfl⟩ | ⟨rfl, rfl, rfl, rfl⟩ | ⟨rfl, rfl, td, hc⟩
    · clear HDA HDB; refine wp_region_conf2 27 [Fact.eq (.agg CG), Fact.eq (.pointer (some ⟨w.heap.size + 1, 0, none⟩)), Fact.eq (.int .i64 zone), Fact.eq (.pointer (some ⟨w.heap.size + 1, 1, none⟩)), Fact.eq (.int .i64 off), Fact.eq (.bool false), Fact.eq (.bool true), Fact.eq (.bool true), Fact.eq undef, Fact.eq undef, Fact.eq undef, Fact.eq undef, Fact.eq undef, Fact.eq undef, Fact.eq undef, Fact.eq (.bool true), Fact.eq (.bool true), Fact.eq undef, Fact.eq undef, Fact.eq undef, Fact.eq undef, Fact.eq undef, Fact.eq undef, Fact.eq undef, Fact.eq undef, Fact.eq undef, Fact.eq (.bool true)] ?raA (by kernel_rfl) (by kernel_rfl) ?rahA ?raho ?rahend
      case rahA =>
        intro vv; simp only [putRules, Nat.reduceAdd]; rfl
      case raho =>
        refine ⟨?_, ?_, ?_, ?_, ?_, ?_, ?_, ?_, ?_, ?_, ?_, ?_, ?_, ?_, ?_, ?_, ?_, ?_, ?_, ?_, ?_, ?_, ?_, ?_, ?_, ?_, ?_, trivial⟩
        · intro vv W K hB hd HK; simp only [confRules] at HK; clear hd; refine wpList_load_row rfl 23 _ rfl w.heap.size rfl 23 _ _ _ (HKG.out W hB) Try.underlying23 rfl HGI.out ?_; refine HK.out _ _ (Below.refl _ _) ?_; rfl
        · intro vv W K hB hd HK; simp only [confRules] at HK; clear hd; go_wp2; refine HK.out _ _ (Below.refl _ _) ?_; rfl
        · intro vv W K hB hd HK; simp only [confRules] at hd HK; have h1 := hd; clear hd; simp only [h1] at HK ⊢; clear h1; obtain ⟨c0, -, -, -, -⟩ := HKF.out W hB; go_wp2; refine HK.out _ _ (Below.refl _ _) ?_; rfl
        · intro vv W K hB hd HK; simp only [confRules] at HK; clear hd; go_wp2; refine HK.out _ _ (Below.refl _ _) ?_; rfl
        · intro vv W K hB hd HK; simp only [confRules] at hd HK; have h3 := hd; clear hd; simp only [h3] at HK ⊢; clear h3; obtain ⟨-, c1, -, -, -⟩ := HKF.out W hB; go_wp2; refine HK.out _ _ (Below.refl _ _) ?_; rfl
        · intro vv W K hB hd HK; simp only [confRules] at hd HK; obtain ⟨h0, h2, h4⟩ := hd; simp only [h0, h2, h4] at HK ⊢; clear h0 h2 h4; go_wp2_with (refine (HHA.out _).mono ?_; rintro e w9 ⟨rfl, hB9⟩); refine HK.out _ _ hB9 ?_; rfl
        · intro vv W K hB hd HK; simp only [confRules] at hd HK; have h5 := hd; clear hd; simp only [h5] at HK ⊢; clear h5; go_wp2; refine HK.out _ _ (Below.refl _ _) ?_; rfl
        · intro vv W K hB hd HK; simp only [confRules] at hd HK; obtain ⟨h6, h5⟩ := hd; simp only [h6, h5] at HK ⊢; clear h6 h5; go_wp2; refine HK.out _ _ (Below.refl _ _) ?_; rfl
        · intro vv W K hB hd HK; simp only [confRules] at hd HK; have h7 := hd; clear hd; simp only [h7] at HK ⊢; clear h7; refine wpList_guard_no (by rfl) ?_; refine HK.out _ _ (Below.refl _ _) ?_; rfl
        · intro vv W K hB hd HK; simp only [confRules] at hd HK; have h7 := hd; clear hd; simp only [h7] at HK ⊢; clear h7; refine wpList_guard_no (by rfl) ?_; refine HK.out _ _ (Below.refl _ _) ?_; rfl
        · intro vv W K hB hd HK; simp only [confRules] at hd HK; obtain ⟨h9, h7⟩ := hd; simp only [h9, h7] at HK ⊢; clear h9 h7; refine wpList_guard_no (by rfl) ?_; refine HK.out _ _ (Below.refl _ _) ?_; rfl
        · intro vv W K hB hd HK; simp only [confRules] at hd HK; have h7 := hd; clear hd; simp only [h7] at HK ⊢; clear h7; refine wpList_guard_no (by rfl) ?_; refine HK.out _ _ (Below.refl _ _) ?_; rfl
        · intro vv W K hB hd HK; simp only [confRules] at hd HK; obtain ⟨h11, h7⟩ := hd; simp only [h11, h7] at HK ⊢; clear h11 h7; refine wpList_guard_no (by rfl) ?_; refine HK.out _ _ (Below.refl _ _) ?_; rfl
        · intro vv W K hB hd HK; simp only [confRules] at hd HK; obtain ⟨h8, h10, h12, h7, _⟩ := hd; simp only [h8, h10, h12, h7] at HK ⊢; clear h8 h10 h12 h7; refine wpList_guard_no (by rfl) ?_; refine HK.out _ _ (Below.refl _ _) ?_; rfl
        · intro vv W K hB hd HK; simp only [confRules] at hd HK; obtain ⟨h13, h7⟩ := hd; simp only [h13, h7] at HK ⊢; clear h13 h7; refine wpList_guard_no (by rfl) ?_; refine HK.out _ _ (Below.refl _ _) ?_; rfl
        · intro vv W K hB hd HK; simp only [confRules] at hd HK; obtain ⟨h7, h14⟩ := hd; simp only [h7, h14] at HK ⊢; clear h7 h14; go_wp2; refine HK.out _ _ (Below.refl _ _) ?_; rfl
        · intro vv W K hB hd HK; simp only [confRules] at hd HK; obtain ⟨h15, h13⟩ := hd; simp only [h15, h13] at HK ⊢; clear h15 h13; go_wp2; refine HK.out _ _ (Below.refl _ _) ?_; rfl
        · intro vv W K hB hd HK; simp only [confRules] at hd HK; have h16 := hd; clear hd; simp only [h16] at HK ⊢; clear h16; refine wpList_guard_no (by rfl) ?_; refine HK.out _ _ (Below.refl _ _) ?_; rfl
        · intro vv W K hB hd HK; simp only [confRules] at hd HK; have h16 := hd; clear hd; simp only [h16] at HK ⊢; clear h16; refine wpList_guard_no (by rfl) ?_; refine HK.out _ _ (Below.refl _ _) ?_; rfl
        · intro vv W K hB hd HK; simp only [confRules] at hd HK; obtain ⟨h18, h16⟩ := hd; simp only [h18, h16] at HK ⊢; clear h18 h16; refine wpList_guard_no (by rfl) ?_; refine HK.out _ _ (Below.refl _ _) ?_; rfl
        · intro vv W K hB hd HK; simp only [confRules] at hd HK; obtain ⟨h17, h19, h16, _⟩ := hd; simp only [h17, h19, h16] at HK ⊢; clear h17 h19 h16; refine wpList_guard_no (by rfl) ?_; refine HK.out _ _ (Below.refl _ _) ?_; rfl
        · intro vv W K hB hd HK; simp only [confRules] at hd HK; have h16 := hd; clear hd; simp only [h16] at HK ⊢; clear h16; refine wpList_guard_no (by rfl) ?_; refine HK.out _ _ (Below.refl _ _) ?_; rfl
        · intro vv W K hB hd HK; simp only [confRules] at hd HK; have h16 := hd; clear hd; simp only [h16] at HK ⊢; clear h16; refine wpList_guard_no (by rfl) ?_; refine HK.out _ _ (Below.refl _ _) ?_; rfl
        · intro vv W K hB hd HK; simp only [confRules] at hd HK; obtain ⟨h22, h16⟩ := hd; simp only [h22, h16] at HK ⊢; clear h22 h16; refine wpList_guard_no (by rfl) ?_; refine HK.out _ _ (Below.refl _ _) ?_; rfl
        · intro vv W K hB hd HK; simp only [confRules] at hd HK; obtain ⟨h21, h23, h20, h16⟩ := hd; simp only [h21, h23, h20, h16] at HK ⊢; clear h21 h23 h20 h16; refine wpList_guard_no (by rfl) ?_; refine HK.out _ _ (Below.refl _ _) ?_; rfl
        · intro vv W K hB hd HK; simp only [confRules] at hd HK; obtain ⟨h20, h24, h16⟩ := hd; simp only [h20, h24, h16] at HK ⊢; clear h20 h24 h16; refine wpList_guard_no (by rfl) ?_; refine HK.out _ _ (Below.refl _ _) ?_; rfl
        · intro vv W K hB hd HK; simp only [confRules] at hd HK; obtain ⟨h16, h25⟩ := hd; simp only [h16, h25] at HK ⊢; clear h16 h25; go_wp2; refine HK.out _ _ (Below.refl _ _) ?_; rfl
      case rahend =>
        intro vv W hB hf; have e26 := hf 26 (by decide); simp only [endRules] at e26; simp only [e26, dropRules]; clear hf e26; have hr4 := (hB.block _ (by omega)).trans ((HB2.out.block _ z0).trans HR0.out); have hb4 := HB2.out.trans (hB.mono z2); obtain ⟨c3, c4, -⟩ := HKE.out W hB; have c5 := HGC.out W w.heap.size (HKG.out W hB); go_wp2_with (first | (refine wpList_build_on (by rfl) 65 _ rfl #[] (by simp) Z HBZ.out ?_) | (refine wpList_store_row rfl 65 _ _ rfl (w.heap.size + 1 + 1) Z rfl rfl 65 Z hr4 HIZ.out rfl HOZ.out ?_)); obtain ⟨r1, r2⟩ := HFIN.out W Z false hb4 rfl; refine bodyPost_ret (res_row_tmp rfl _ _ (w.heap.size + 1 + 1) 65 Z _ _ rfl r2 Try.underlying65 rfl HIZ.out) rfl ?_; exact ⟨rfl, r1⟩
    · clear HDA HDB; refine wp_region_conf2 27 [Fact.eq (.agg CG), Fact.eq (.pointer (some ⟨w.heap.size + 1, 0, none⟩)), Fact.eq (.int .i64 zone), Fact.eq (.pointer (some ⟨w.heap.size + 1, 1, none⟩)), Fact.eq (.int .i64 off), Fact.eq (.bool true), Fact.eq (.bool false), Fact.eq (.bool false), Fact.eq (.agg CG), Fact.eq (.pointer (some ⟨w1.heap.size, 5, none⟩)), Fact.eq (.int .i64 mate), Fact.eq (.pointer (some ⟨w.heap.size + 1, 1, none⟩)), Fact.eq (.int .i64 off), Fact.eq (.bool false), Fact.eq (.bool true), Fact.eq (.bool true), Fact.eq (.bool true), Fact.eq undef, Fact.eq undef, Fact.eq undef, Fact.eq undef, Fact.eq undef, Fact.eq undef, Fact.eq undef, Fact.eq undef, Fact.eq undef, Fact.eq (.bool true)] ?rbA (by kernel_rfl) (by kernel_rfl) ?rbhA ?rbho ?rbhend
      case rbhA =>
        intro vv; simp only [putRules, Nat.reduceAdd]; rfl
      case rbho =>
        refine ⟨?_, ?_, ?_, ?_, ?_, ?_, ?_, ?_, ?_, ?_, ?_, ?_, ?_, ?_, ?_, ?_, ?_, ?_, ?_, ?_, ?_, ?_, ?_, ?_, ?_, ?_, ?_, trivial⟩
        · intro vv W K hB hd HK; simp only [confRules] at HK; clear hd; refine wpList_load_row rfl 23 _ rfl w.heap.size rfl 23 _ _ _ (HKG.out W hB) Try.underlying23 rfl HGI.out ?_; refine HK.out _ _ (Below.refl _ _) ?_; rfl
        · intro vv W K hB hd HK; simp only [confRules] at HK; clear hd; go_wp2; refine HK.out _ _ (Below.refl _ _) ?_; rfl
        · intro vv W K hB hd HK; simp only [confRules] at hd HK; have h1 := hd; clear hd; simp only [h1] at HK ⊢; clear h1; obtain ⟨c0, -, -, -, -⟩ := HKF.out W hB; go_wp2; refine HK.out _ _ (Below.refl _ _) ?_; rfl
        · intro vv W K hB hd HK; simp only [confRules] at HK; clear hd; go_wp2; refine HK.out _ _ (Below.refl _ _) ?_; rfl
        · intro vv W K hB hd HK; simp only [confRules] at hd HK; have h3 := hd; clear hd; simp only [h3] at HK ⊢; clear h3; obtain ⟨-, c1, -, -, -⟩ := HKF.out W hB; go_wp2; refine HK.out _ _ (Below.refl _ _) ?_; rfl
        · intro vv W K hB hd HK; simp only [confRules] at hd HK; obtain ⟨h0, h2, h4⟩ := hd; simp only [h0, h2, h4] at HK ⊢; clear h0 h2 h4; go_wp2_with (refine (HHA.out _).mono ?_; rintro e w9 ⟨rfl, hB9⟩); refine HK.out _ _ hB9 ?_; rfl
        · intro vv W K hB hd HK; simp only [confRules] at hd HK; have h5 := hd; clear hd; simp only [h5] at HK ⊢; clear h5; go_wp2; refine HK.out _ _ (Below.refl _ _) ?_; rfl
        · intro vv W K hB hd HK; simp only [confRules] at hd HK; obtain ⟨h6, h5⟩ := hd; simp only [h6, h5] at HK ⊢; clear h6 h5; go_wp2; refine HK.out _ _ (Below.refl _ _) ?_; rfl
        · intro vv W K hB hd HK; simp only [confRules] at hd HK; have h7 := hd; clear hd; simp only [h7] at HK ⊢; clear h7; refine wpList_guard_yes (by rfl) ?_; refine wpList_load_row rfl 23 _ rfl w.heap.size rfl 23 _ _ _ (HKG.out W hB) Try.underlying23 rfl HGI.out ?_; refine HK.out _ _ (Below.refl _ _) ?_; rfl
        · intro vv W K hB hd HK; simp only [confRules] at hd HK; have h7 := hd; clear hd; simp only [h7] at HK ⊢; clear h7; refine wpList_guard_yes (by rfl) ?_; go_wp2; refine HK.out _ _ (Below.refl _ _) ?_; rfl
        · intro vv W K hB hd HK; simp only [confRules] at hd HK; obtain ⟨h9, h7⟩ := hd; simp only [h9, h7] at HK ⊢; clear h9 h7; refine wpList_guard_yes (by rfl) ?_; obtain ⟨-, -, c2⟩ := HKE.out W hB; go_wp2; refine HK.out _ _ (Below.refl _ _) ?_; rfl
        · intro vv W K hB hd HK; simp only [confRules] at hd HK; have h7 := hd; clear hd; simp only [h7] at HK ⊢; clear h7; refine wpList_guard_yes (by rfl) ?_; go_wp2; refine HK.out _ _ (Below.refl _ _) ?_; rfl
        · intro vv W K hB hd HK; simp only [confRules] at hd HK; obtain ⟨h11, h7⟩ := hd; simp only [h11, h7] at HK ⊢; clear h11 h7; refine wpList_guard_yes (by rfl) ?_; obtain ⟨-, c1, -, -, -⟩ := HKF.out W hB; go_wp2; refine HK.out _ _ (Below.refl _ _) ?_; rfl
        · intro vv W K hB hd HK; simp only [confRules] at hd HK; obtain ⟨h8, h10, h12, h7, _⟩ := hd; simp only [h8, h10, h12, h7] at HK ⊢; clear h8 h10 h12 h7; refine wpList_guard_yes (by rfl) ?_; go_wp2_with (refine (HHB.out _).mono ?_; rintro e w9 ⟨rfl, hB9⟩); refine HK.out _ _ hB9 ?_; rfl
        · intro vv W K hB hd HK; simp only [confRules] at hd HK; obtain ⟨h13, h7⟩ := hd; simp only [h13, h7] at HK ⊢; clear h13 h7; refine wpList_guard_yes (by rfl) ?_; go_wp2; refine HK.out _ _ (Below.refl _ _) ?_; rfl
        · intro vv W K hB hd HK; simp only [confRules] at hd HK; obtain ⟨h7, h14⟩ := hd; simp only [h7, h14] at HK ⊢; clear h7 h14; go_wp2; refine HK.out _ _ (Below.refl _ _) ?_; rfl
        · intro vv W K hB hd HK; simp only [confRules] at hd HK; obtain ⟨h15, h13⟩ := hd; simp only [h15, h13] at HK ⊢; clear h15 h13; go_wp2; refine HK.out _ _ (Below.refl _ _) ?_; rfl
        · intro vv W K hB hd HK; simp only [confRules] at hd HK; have h16 := hd; clear hd; simp only [h16] at HK ⊢; clear h16; refine wpList_guard_no (by rfl) ?_; refine HK.out _ _ (Below.refl _ _) ?_; rfl
        · intro vv W K hB hd HK; simp only [confRules] at hd HK; have h16 := hd; clear hd; simp only [h16] at HK ⊢; clear h16; refine wpList_guard_no (by rfl) ?_; refine HK.out _ _ (Below.refl _ _) ?_; rfl
        · intro vv W K hB hd HK; simp only [confRules] at hd HK; obtain ⟨h18, h16⟩ := hd; simp only [h18, h16] at HK ⊢; clear h18 h16; refine wpList_guard_no (by rfl) ?_; refine HK.out _ _ (Below.refl _ _) ?_; rfl
        · intro vv W K hB hd HK; simp only [confRules] at hd HK; obtain ⟨h17, h19, h16, _⟩ := hd; simp only [h17, h19, h16] at HK ⊢; clear h17 h19 h16; refine wpList_guard_no (by rfl) ?_; refine HK.out _ _ (Below.refl _ _) ?_; rfl
        · intro vv W K hB hd HK; simp only [confRules] at hd HK; have h16 := hd; clear hd; simp only [h16] at HK ⊢; clear h16; refine wpList_guard_no (by rfl) ?_; refine HK.out _ _ (Below.refl _ _) ?_; rfl
        · intro vv W K hB hd HK; simp only [confRules] at hd HK; have h16 := hd; clear hd; simp only [h16] at HK ⊢; clear h16; refine wpList_guard_no (by rfl) ?_; refine HK.out _ _ (Below.refl _ _) ?_; rfl
        · intro vv W K hB hd HK; simp only [confRules] at hd HK; obtain ⟨h22, h16⟩ := hd; simp only [h22, h16] at HK ⊢; clear h22 h16; refine wpList_guard_no (by rfl) ?_; refine HK.out _ _ (Below.refl _ _) ?_; rfl
        · intro vv W K hB hd HK; simp only [confRules] at hd HK; obtain ⟨h21, h23, h20, h16⟩ := hd; simp only [h21, h23, h20, h16] at HK ⊢; clear h21 h23 h20 h16; refine wpList_guard_no (by rfl) ?_; refine HK.out _ _ (Below.refl _ _) ?_; rfl
        · intro vv W K hB hd HK; simp only [confRules] at hd HK; obtain ⟨h20, h24, h16⟩ := hd; simp only [h20, h24, h16] at HK ⊢; clear h20 h24 h16; refine wpList_guard_no (by rfl) ?_; refine HK.out _ _ (Below.refl _ _) ?_; rfl
        · intro vv W K hB hd HK; simp only [confRules] at hd HK; obtain ⟨h16, h25⟩ := hd; simp only [h16, h25] at HK ⊢; clear h16 h25; go_wp2; refine HK.out _ _ (Below.refl _ _) ?_; rfl
      case rbhend =>
        intro vv W hB hf; have e26 := hf 26 (by decide); simp only [endRules] at e26; simp only [e26, dropRules]; clear hf e26; have hr4 := (hB.block _ (by omega)).trans ((HB2.out.block _ z0).trans HR0.out); have hb4 := HB2.out.trans (hB.mono z2); obtain ⟨c3, c4, -⟩ := HKE.out W hB; have c5 := HGC.out W w.heap.size (HKG.out W hB); go_wp2_with (first | (refine wpList_build_on (by rfl) 65 _ rfl #[] (by simp) Z HBZ.out ?_) | (refine wpList_store_row rfl 65 _ _ rfl (w.heap.size + 1 + 1) Z rfl rfl 65 Z hr4 HIZ.out rfl HOZ.out ?_)); obtain ⟨r1, r2⟩ := HFIN.out W Z false hb4 rfl; refine bodyPost_ret (res_row_tmp rfl _ _ (w.heap.size + 1 + 1) 65 Z _ _ rfl r2 Try.underlying65 rfl HIZ.out) rfl ?_; exact ⟨rfl, r1⟩
    · have HDX := Lib.hid (HDA.out rfl rfl); have HDY := Lib.hid (HDB.out rfl rfl); clear HDA HDB; refine wp_region_conf2 27 [Fact.eq (.agg CG), Fact.eq (.pointer (some ⟨w.heap.size + 1, 0, none⟩)), Fact.eq (.int .i64 zone), Fact.eq (.pointer (some ⟨w.heap.size + 1, 1, none⟩)), Fact.eq (.int .i64 off), Fact.eq (.bool true), Fact.eq (.bool false), Fact.eq (.bool false), Fact.eq (.agg CG), Fact.eq (.pointer (some ⟨w1.heap.size, 5, none⟩)), Fact.eq (.int .i64 mate), Fact.eq (.pointer (some ⟨w.heap.size + 1, 1, none⟩)), Fact.eq (.int .i64 off), Fact.eq (.bool true), Fact.eq (.bool false), Fact.eq (.bool false), Fact.eq (.bool false), Fact.eq (.agg CG), Fact.eq (.pointer (some ⟨w.heap.size + 1, 0, none⟩)), Fact.eq (.int .i64 zone), Fact.eq (.int .i64 d1), Fact.eq (.agg CG), Fact.eq (.pointer (some ⟨w1.heap.size, 5, none⟩)), Fact.eq (.int .i64 mate), Fact.eq (.int .i64 d1), Fact.eq (.bool true), Fact.eq (.bool true)] ?rcA (by kernel_rfl) (by kernel_rfl) ?rchA ?rcho ?rchend
      case rchA =>
        intro vv; simp only [putRules, Nat.reduceAdd]; rfl
      case rcho =>
        refine ⟨?_, ?_, ?_, ?_, ?_, ?_, ?_, ?_, ?_, ?_, ?_, ?_, ?_, ?_, ?_, ?_, ?_, ?_, ?_, ?_, ?_, ?_, ?_, ?_, ?_, ?_, ?_, trivial⟩
        · intro vv W K hB hd HK; simp only [confRules] at HK; clear hd; refine wpList_load_row rfl 23 _ rfl w.heap.size rfl 23 _ _ _ (HKG.out W hB) Try.underlying23 rfl HGI.out ?_; refine HK.out _ _ (Below.refl _ _) ?_; rfl
        · intro vv W K hB hd HK; simp only [confRules] at HK; clear hd; go_wp2; refine HK.out _ _ (Below.refl _ _) ?_; rfl
        · intro vv W K hB hd HK; simp only [confRules] at hd HK; have h1 := hd; clear hd; simp only [h1] at HK ⊢; clear h1; obtain ⟨c0, -, -, -, -⟩ := HKF.out W hB; go_wp2; refine HK.out _ _ (Below.refl _ _) ?_; rfl
        · intro vv W K hB hd HK; simp only [confRules] at HK; clear hd; go_wp2; refine HK.out _ _ (Below.refl _ _) ?_; rfl
        · intro vv W K hB hd HK; simp only [confRules] at hd HK; have h3 := hd; clear hd; simp only [h3] at HK ⊢; clear h3; obtain ⟨-, c1, -, -, -⟩ := HKF.out W hB; go_wp2; refine HK.out _ _ (Below.refl _ _) ?_; rfl
        · intro vv W K hB hd HK; simp only [confRules] at hd HK; obtain ⟨h0, h2, h4⟩ := hd; simp only [h0, h2, h4] at HK ⊢; clear h0 h2 h4; go_wp2_with (refine (HHA.out _).mono ?_; rintro e w9 ⟨rfl, hB9⟩); refine HK.out _ _ hB9 ?_; rfl
        · intro vv W K hB hd HK; simp only [confRules] at hd HK; have h5 := hd; clear hd; simp only [h5] at HK ⊢; clear h5; go_wp2; refine HK.out _ _ (Below.refl _ _) ?_; rfl
        · intro vv W K hB hd HK; simp only [confRules] at hd HK; obtain ⟨h6, h5⟩ := hd; simp only [h6, h5] at HK ⊢; clear h6 h5; go_wp2; refine HK.out _ _ (Below.refl _ _) ?_; rfl
        · intro vv W K hB hd HK; simp only [confRules] at hd HK; have h7 := hd; clear hd; simp only [h7] at HK ⊢; clear h7; refine wpList_guard_yes (by rfl) ?_; refine wpList_load_row rfl 23 _ rfl w.heap.size rfl 23 _ _ _ (HKG.out W hB) Try.underlying23 rfl HGI.out ?_; refine HK.out _ _ (Below.refl _ _) ?_; rfl
        · intro vv W K hB hd HK; simp only [confRules] at hd HK; have h7 := hd; clear hd; simp only [h7] at HK ⊢; clear h7; refine wpList_guard_yes (by rfl) ?_; go_wp2; refine HK.out _ _ (Below.refl _ _) ?_; rfl
        · intro vv W K hB hd HK; simp only [confRules] at hd HK; obtain ⟨h9, h7⟩ := hd; simp only [h9, h7] at HK ⊢; clear h9 h7; refine wpList_guard_yes (by rfl) ?_; obtain ⟨-, -, c2⟩ := HKE.out W hB; go_wp2; refine HK.out _ _ (Below.refl _ _) ?_; rfl
        · intro vv W K hB hd HK; simp only [confRules] at hd HK; have h7 := hd; clear hd; simp only [h7] at HK ⊢; clear h7; refine wpList_guard_yes (by rfl) ?_; go_wp2; refine HK.out _ _ (Below.refl _ _) ?_; rfl
        · intro vv W K hB hd HK; simp only [confRules] at hd HK; obtain ⟨h11, h7⟩ := hd; simp only [h11, h7] at HK ⊢; clear h11 h7; refine wpList_guard_yes (by rfl) ?_; obtain ⟨-, c1, -, -, -⟩ := HKF.out W hB; go_wp2; refine HK.out _ _ (Below.refl _ _) ?_; rfl
        · intro vv W K hB hd HK; simp only [confRules] at hd HK; obtain ⟨h8, h10, h12, h7, _⟩ := hd; simp only [h8, h10, h12, h7] at HK ⊢; clear h8 h10 h12 h7; refine wpList_guard_yes (by rfl) ?_; go_wp2_with (refine (HHB.out _).mono ?_; rintro e w9 ⟨rfl, hB9⟩); refine HK.out _ _ hB9 ?_; rfl
        · intro vv W K hB hd HK; simp only [confRules] at hd HK; obtain ⟨h13, h7⟩ := hd; simp only [h13, h7] at HK ⊢; clear h13 h7; refine wpList_guard_yes (by rfl) ?_; go_wp2; refine HK.out _ _ (Below.refl _ _) ?_; rfl
        · intro vv W K hB hd HK; simp only [confRules] at hd HK; obtain ⟨h7, h14⟩ := hd; simp only [h7, h14] at HK ⊢; clear h7 h14; go_wp2; refine HK.out _ _ (Below.refl _ _) ?_; rfl
        · intro vv W K hB hd HK; simp only [confRules] at hd HK; obtain ⟨h15, h13⟩ := hd; simp only [h15, h13] at HK ⊢; clear h15 h13; go_wp2; refine HK.out _ _ (Below.refl _ _) ?_; rfl
        · intro vv W K hB hd HK; simp only [confRules] at hd HK; have h16 := hd; clear hd; simp only [h16] at HK ⊢; clear h16; refine wpList_guard_yes (by rfl) ?_; refine wpList_load_row rfl 23 _ rfl w.heap.size rfl 23 _ _ _ (HKG.out W hB) Try.underlying23 rfl HGI.out ?_; refine HK.out _ _ (Below.refl _ _) ?_; rfl
        · intro vv W K hB hd HK; simp only [confRules] at hd HK; have h16 := hd; clear hd; simp only [h16] at HK ⊢; clear h16; refine wpList_guard_yes (by rfl) ?_; go_wp2; refine HK.out _ _ (Below.refl _ _) ?_; rfl
        · intro vv W K hB hd HK; simp only [confRules] at hd HK; obtain ⟨h18, h16⟩ := hd; simp only [h18, h16] at HK ⊢; clear h18 h16; refine wpList_guard_yes (by rfl) ?_; obtain ⟨c0, -, -, -, -⟩ := HKF.out W hB; go_wp2; refine HK.out _ _ (Below.refl _ _) ?_; rfl
        · intro vv W K hB hd HK; simp only [confRules] at hd HK; obtain ⟨h17, h19, h16, _⟩ := hd; simp only [h17, h19, h16] at HK ⊢; clear h17 h19 h16; refine wpList_guard_yes (by rfl) ?_; go_wp2_with (refine (HDX.out _).mono ?_; rintro e w9 ⟨rfl, hB9⟩); refine HK.out _ _ hB9 ?_; rfl
        · intro vv W K hB hd HK; simp only [confRules] at hd HK; have h16 := hd; clear hd; simp only [h16] at HK ⊢; clear h16; refine wpList_guard_yes (by rfl) ?_; refine wpList_load_row rfl 23 _ rfl w.heap.size rfl 23 _ _ _ (HKG.out W hB) Try.underlying23 rfl HGI.out ?_; refine HK.out _ _ (Below.refl _ _) ?_; rfl
        · intro vv W K hB hd HK; simp only [confRules] at hd HK; have h16 := hd; clear hd; simp only [h16] at HK ⊢; clear h16; refine wpList_guard_yes (by rfl) ?_; go_wp2; refine HK.out _ _ (Below.refl _ _) ?_; rfl
        · intro vv W K hB hd HK; simp only [confRules] at hd HK; obtain ⟨h22, h16⟩ := hd; simp only [h22, h16] at HK ⊢; clear h22 h16; refine wpList_guard_yes (by rfl) ?_; obtain ⟨-, -, c2⟩ := HKE.out W hB; go_wp2; refine HK.out _ _ (Below.refl _ _) ?_; rfl
        · intro vv W K hB hd HK; simp only [confRules] at hd HK; obtain ⟨h21, h23, h20, h16⟩ := hd; simp only [h21, h23, h20, h16] at HK ⊢; clear h21 h23 h20 h16; refine wpList_guard_yes (by rfl) ?_; go_wp2_with (refine (HDY.out _).mono ?_; rintro e w9 ⟨rfl, hB9⟩); refine HK.out _ _ hB9 ?_; rfl
        · intro vv W K hB hd HK; simp only [confRules] at hd HK; obtain ⟨h20, h24, h16⟩ := hd; simp only [h20, h24, h16] at HK ⊢; clear h20 h24 h16; refine wpList_guard_yes (by rfl) ?_; go_wp2; refine HK.out _ _ (Below.refl _ _) ?_; rfl
        · intro vv W K hB hd HK; simp only [confRules] at hd HK; obtain ⟨h16, h25⟩ := hd; simp only [h16, h25] at HK ⊢; clear h16 h25; go_wp2; refine HK.out _ _ (Below.refl _ _) ?_; rfl
      case rchend =>
        intro vv W hB hf; have e26 := hf 26 (by decide); simp only [endRules] at e26; simp only [e26, dropRules]; clear hf e26; have hr4 := (hB.block _ (by omega)).trans ((HB2.out.block _ z0).trans HR0.out); have hb4 := HB2.out.trans (hB.mono z2); obtain ⟨c3, c4, -⟩ := HKE.out W hB; have c5 := HGC.out W w.heap.size (HKG.out W hB); go_wp2_with (first | (refine wpList_build_on (by rfl) 65 _ rfl #[] (by simp) Z HBZ.out ?_) | (refine wpList_store_row rfl 65 _ _ rfl (w.heap.size + 1 + 1) Z rfl rfl 65 Z hr4 HIZ.out rfl HOZ.out ?_)); obtain ⟨r1, r2⟩ := HFIN.out W Z false hb4 rfl; refine bodyPost_ret (res_row_tmp rfl _ _ (w.heap.size + 1 + 1) 65 Z _ _ rfl r2 Try.underlying65 rfl HIZ.out) rfl ?_; exact ⟨rfl, r1⟩
    · have HDX := Lib.hid (HDA.out rfl rfl); have HDY := Lib.hid (HDB.out rfl rfl); clear HDA HDB; refine wp_region_conf2 27 [Fact.eq (.agg CG), Fact.eq (.pointer (some ⟨w.heap.size + 1, 0, none⟩)), Fact.eq (.int .i64 zone), Fact.eq (.pointer (some ⟨w.heap.size + 1, 1, none⟩)), Fact.eq (.int .i64 off), Fact.eq (.bool true), Fact.eq (.bool false), Fact.eq (.bool false), Fact.eq (.agg CG), Fact.eq (.pointer (some ⟨w1.heap.size, 5, none⟩)), Fact.eq (.int .i64 mate), Fact.eq (.pointer (some ⟨w.heap.size + 1, 1, none⟩)), Fact.eq (.int .i64 off), Fact.eq (.bool true), Fact.eq (.bool false), Fact.eq (.bool false), Fact.eq (.bool false), Fact.eq (.agg CG), Fact.eq (.pointer (some ⟨w.heap.size + 1, 0, none⟩)), Fact.eq (.int .i64 zone), Fact.eq (.int .i64 d1), Fact.eq (.agg CG), Fact.eq (.pointer (some ⟨w1.heap.size, 5, none⟩)), Fact.eq (.int .i64 mate), Fact.eq (.int .i64 d2), Fact.eq (.bool false), Fact.eq (.bool false)] ?rdA (by kernel_rfl) (by kernel_rfl) ?rdhA ?rdho ?rdhend
      case rdhA =>
        intro vv; simp only [putRules, Nat.reduceAdd]; rfl
      case rdho =>
        refine ⟨?_, ?_, ?_, ?_, ?_, ?_, ?_, ?_, ?_, ?_, ?_, ?_, ?_, ?_, ?_, ?_, ?_, ?_, ?_, ?_, ?_, ?_, ?_, ?_, ?_, ?_, ?_, trivial⟩
        · intro vv W K hB hd HK; simp only [confRules] at HK; clear hd; refine wpList_load_row rfl 23 _ rfl w.heap.size rfl 23 _ _ _ (HKG.out W hB) Try.underlying23 rfl HGI.out ?_; refine HK.out _ _ (Below.refl _ _) ?_; rfl
        · intro vv W K hB hd HK; simp only [confRules] at HK; clear hd; go_wp2; refine HK.out _ _ (Below.refl _ _) ?_; rfl
        · intro vv W K hB hd HK; simp only [confRules] at hd HK; have h1 := hd; clear hd; simp only [h1] at HK ⊢; clear h1; obtain ⟨c0, -, -, -, -⟩ := HKF.out W hB; go_wp2; refine HK.out _ _ (Below.refl _ _) ?_; rfl
        · intro vv W K hB hd HK; simp only [confRules] at HK; clear hd; go_wp2; refine HK.out _ _ (Below.refl _ _) ?_; rfl
        · intro vv W K hB hd HK; simp only [confRules] at hd HK; have h3 := hd; clear hd; simp only [h3] at HK ⊢; clear h3; obtain ⟨-, c1, -, -, -⟩ := HKF.out W hB; go_wp2; refine HK.out _ _ (Below.refl _ _) ?_; rfl
        · intro vv W K hB hd HK; simp only [confRules] at hd HK; obtain ⟨h0, h2, h4⟩ := hd; simp only [h0, h2, h4] at HK ⊢; clear h0 h2 h4; go_wp2_with (refine (HHA.out _).mono ?_; rintro e w9 ⟨rfl, hB9⟩); refine HK.out _ _ hB9 ?_; rfl
        · intro vv W K hB hd HK; simp only [confRules] at hd HK; have h5 := hd; clear hd; simp only [h5] at HK ⊢; clear h5; go_wp2; refine HK.out _ _ (Below.refl _ _) ?_; rfl
        · intro vv W K hB hd HK; simp only [confRules] at hd HK; obtain ⟨h6, h5⟩ := hd; simp only [h6, h5] at HK ⊢; clear h6 h5; go_wp2; refine HK.out _ _ (Below.refl _ _) ?_; rfl
        · intro vv W K hB hd HK; simp only [confRules] at hd HK; have h7 := hd; clear hd; simp only [h7] at HK ⊢; clear h7; refine wpList_guard_yes (by rfl) ?_; refine wpList_load_row rfl 23 _ rfl w.heap.size rfl 23 _ _ _ (HKG.out W hB) Try.underlying23 rfl HGI.out ?_; refine HK.out _ _ (Below.refl _ _) ?_; rfl
        · intro vv W K hB hd HK; simp only [confRules] at hd HK; have h7 := hd; clear hd; simp only [h7] at HK ⊢; clear h7; refine wpList_guard_yes (by rfl) ?_; go_wp2; refine HK.out _ _ (Below.refl _ _) ?_; rfl
        · intro vv W K hB hd HK; simp only [confRules] at hd HK; obtain ⟨h9, h7⟩ := hd; simp only [h9, h7] at HK ⊢; clear h9 h7; refine wpList_guard_yes (by rfl) ?_; obtain ⟨-, -, c2⟩ := HKE.out W hB; go_wp2; refine HK.out _ _ (Below.refl _ _) ?_; rfl
        · intro vv W K hB hd HK; simp only [confRules] at hd HK; have h7 := hd; clear hd; simp only [h7] at HK ⊢; clear h7; refine wpList_guard_yes (by rfl) ?_; go_wp2; refine HK.out _ _ (Below.refl _ _) ?_; rfl
        · intro vv W K hB hd HK; simp only [confRules] at hd HK; obtain ⟨h11, h7⟩ := hd; simp only [h11, h7] at HK ⊢; clear h11 h7; refine wpList_guard_yes (by rfl) ?_; obtain ⟨-, c1, -, -, -⟩ := HKF.out W hB; go_wp2; refine HK.out _ _ (Below.refl _ _) ?_; rfl
        · intro vv W K hB hd HK; simp only [confRules] at hd HK; obtain ⟨h8, h10, h12, h7, _⟩ := hd; simp only [h8, h10, h12, h7] at HK ⊢; clear h8 h10 h12 h7; refine wpList_guard_yes (by rfl) ?_; go_wp2_with (refine (HHB.out _).mono ?_; rintro e w9 ⟨rfl, hB9⟩); refine HK.out _ _ hB9 ?_; rfl
        · intro vv W K hB hd HK; simp only [confRules] at hd HK; obtain ⟨h13, h7⟩ := hd; simp only [h13, h7] at HK ⊢; clear h13 h7; refine wpList_guard_yes (by rfl) ?_; go_wp2; refine HK.out _ _ (Below.refl _ _) ?_; rfl
        · intro vv W K hB hd HK; simp only [confRules] at hd HK; obtain ⟨h7, h14⟩ := hd; simp only [h7, h14] at HK ⊢; clear h7 h14; go_wp2; refine HK.out _ _ (Below.refl _ _) ?_; rfl
        · intro vv W K hB hd HK; simp only [confRules] at hd HK; obtain ⟨h15, h13⟩ := hd; simp only [h15, h13] at HK ⊢; clear h15 h13; go_wp2; refine HK.out _ _ (Below.refl _ _) ?_; rfl
        · intro vv W K hB hd HK; simp only [confRules] at hd HK; have h16 := hd; clear hd; simp only [h16] at HK ⊢; clear h16; refine wpList_guard_yes (by rfl) ?_; refine wpList_load_row rfl 23 _ rfl w.heap.size rfl 23 _ _ _ (HKG.out W hB) Try.underlying23 rfl HGI.out ?_; refine HK.out _ _ (Below.refl _ _) ?_; rfl
        · intro vv W K hB hd HK; simp only [confRules] at hd HK; have h16 := hd; clear hd; simp only [h16] at HK ⊢; clear h16; refine wpList_guard_yes (by rfl) ?_; go_wp2; refine HK.out _ _ (Below.refl _ _) ?_; rfl
        · intro vv W K hB hd HK; simp only [confRules] at hd HK; obtain ⟨h18, h16⟩ := hd; simp only [h18, h16] at HK ⊢; clear h18 h16; refine wpList_guard_yes (by rfl) ?_; obtain ⟨c0, -, -, -, -⟩ := HKF.out W hB; go_wp2; refine HK.out _ _ (Below.refl _ _) ?_; rfl
        · intro vv W K hB hd HK; simp only [confRules] at hd HK; obtain ⟨h17, h19, h16, _⟩ := hd; simp only [h17, h19, h16] at HK ⊢; clear h17 h19 h16; refine wpList_guard_yes (by rfl) ?_; go_wp2_with (refine (HDX.out _).mono ?_; rintro e w9 ⟨rfl, hB9⟩); refine HK.out _ _ hB9 ?_; rfl
        · intro vv W K hB hd HK; simp only [confRules] at hd HK; have h16 := hd; clear hd; simp only [h16] at HK ⊢; clear h16; refine wpList_guard_yes (by rfl) ?_; refine wpList_load_row rfl 23 _ rfl w.heap.size rfl 23 _ _ _ (HKG.out W hB) Try.underlying23 rfl HGI.out ?_; refine HK.out _ _ (Below.refl _ _) ?_; rfl
        · intro vv W K hB hd HK; simp only [confRules] at hd HK; have h16 := hd; clear hd; simp only [h16] at HK ⊢; clear h16; refine wpList_guard_yes (by rfl) ?_; go_wp2; refine HK.out _ _ (Below.refl _ _) ?_; rfl
        · intro vv W K hB hd HK; simp only [confRules] at hd HK; obtain ⟨h22, h16⟩ := hd; simp only [h22, h16] at HK ⊢; clear h22 h16; refine wpList_guard_yes (by rfl) ?_; obtain ⟨-, -, c2⟩ := HKE.out W hB; go_wp2; refine HK.out _ _ (Below.refl _ _) ?_; rfl
        · intro vv W K hB hd HK; simp only [confRules] at hd HK; obtain ⟨h21, h23, h20, h16⟩ := hd; simp only [h21, h23, h20, h16] at HK ⊢; clear h21 h23 h20 h16; refine wpList_guard_yes (by rfl) ?_; go_wp2_with (refine (HDY.out _).mono ?_; rintro e w9 ⟨rfl, hB9⟩); refine HK.out _ _ hB9 ?_; rfl
        · intro vv W K hB hd HK; simp only [confRules] at hd HK; obtain ⟨h20, h24, h16⟩ := hd; simp only [h20, h24, h16] at HK ⊢; clear h20 h24 h16; refine wpList_guard_yes (by rfl) ?_; go_wp2; refine HK.out _ _ (Below.refl _ _) ?_; rfl
        · intro vv W K hB hd HK; simp only [confRules] at hd HK; obtain ⟨h16, h25⟩ := hd; simp only [h16, h25] at HK ⊢; clear h16 h25; go_wp2; refine HK.out _ _ (Below.refl _ _) ?_; rfl
      case rdhend =>
        intro vv W hB hf; have e26 := hf 26 (by decide); simp only [endRules] at e26; simp only [e26, dropRules]; clear hf e26; have hr4 := (hB.block _ (by omega)).trans ((HB2.out.block _ z0).trans HR0.out); have hb4 := HB2.out.trans (hB.mono z2); obtain ⟨c3, c4, -⟩ := HKE.out W hB; have c5 := HGC.out W w.heap.size (HKG.out W hB); have hE4 := (hB.block _ zE2).trans HE2.out; obtain ⟨hb1, hb2⟩ := HBD.out rfl; rw [show max many 1 = if many < 1 then 1 else many by split <;> omega] at hc
        by_cases hm : many < 1
        · rw [if_pos hm] at hc; rcases hc with ⟨t9, rfl⟩ | ⟨t9, rfl⟩
          · go_wp2_with (first | (refine wpList_build_on (by rfl) 65 _ rfl #[] (by simp) Z HBZ.out ?_) | (refine wpList_store_row rfl 65 _ _ rfl (w.heap.size + 1 + 1) Z rfl rfl 65 Z hr4 HIZ.out rfl HOZ.out ?_)); obtain ⟨r1, r2⟩ := HFIN.out W Z false hb4 rfl; refine bodyPost_ret (res_row_tmp rfl _ _ (w.heap.size + 1 + 1) 65 Z _ _ rfl r2 Try.underlying65 rfl HIZ.out) rfl ?_; exact ⟨rfl, r1⟩
          · go_wp2_with (first | (refine wpList_load_row rfl 65 _ rfl w1.heap.size rfl 65 _ _ _ hE4 Try.underlying65 rfl HIE.out ?_) | (refine wpList_store_row rfl 65 _ _ rfl (w.heap.size + 1 + 1) CE rfl rfl 65 Z hr4 HIE.out HSE.out HOE.out ?_)); obtain ⟨r1, r2⟩ := HFIN.out W CE false hb4 HSE.out.symm; refine bodyPost_ret (res_row_tmp rfl _ _ (w.heap.size + 1 + 1) 65 CE _ _ rfl r2 Try.underlying65 rfl HIE.out) rfl ?_; exact ⟨rfl, r1⟩
        · rw [if_neg hm] at hc; rcases hc with ⟨t9, rfl⟩ | ⟨t9, rfl⟩
          · go_wp2_with (first | (refine wpList_build_on (by rfl) 65 _ rfl #[] (by simp) Z HBZ.out ?_) | (refine wpList_store_row rfl 65 _ _ rfl (w.heap.size + 1 + 1) Z rfl rfl 65 Z hr4 HIZ.out rfl HOZ.out ?_)); obtain ⟨r1, r2⟩ := HFIN.out W Z false hb4 rfl; refine bodyPost_ret (res_row_tmp rfl _ _ (w.heap.size + 1 + 1) 65 Z _ _ rfl r2 Try.underlying65 rfl HIZ.out) rfl ?_; exact ⟨rfl, r1⟩
          · go_wp2_with (first | (refine wpList_load_row rfl 65 _ rfl w1.heap.size rfl 65 _ _ _ hE4 Try.underlying65 rfl HIE.out ?_) | (refine wpList_store_row rfl 65 _ _ rfl (w.heap.size + 1 + 1) CE rfl rfl 65 Z hr4 HIE.out HSE.out HOE.out ?_)); obtain ⟨r1, r2⟩ := HFIN.out W CE false hb4 HSE.out.symm; refine bodyPost_ret (res_row_tmp rfl _ _ (w.heap.size + 1 + 1) 65 CE _ _ rfl r2 Try.underlying65 rfl HIE.out) rfl ?_; exact ⟨rfl, r1⟩
theorem rrecord_any (g : Geo.G) (epoch : Int) (f : Fnd) (w : World) (hq : FndQ f) :
    Calls Try.prog 17 #[.agg (GC g), .int .i64 epoch, .agg (fndC f)] w fun e w' => e = .returned (.tuple #[.agg (EC ((recE g epoch f).getD En.E.zero)), .bool (recE g epoch f).isSome]) ∧ Below w.heap.size w w' := by
  have hqq := hq; obtain ⟨-, -, hbd, -⟩ := hq; have hE := readE_body f.fr hbd; obtain ⟨r, hr⟩ : ∃ r, readE f.fr = r := ⟨_, rfl⟩; rw [hr] at hE; have hok : r.2 = 0 → En.right r.1 = true := fun h => by have := readE_ok hbd (by rw [hr]; exact h); rwa [hr] at this
  have hrec : recE g epoch f = if r.2 = 0 ∧ f.fr.epoch = epoch ∧ f.fr.zone = f.zone ∧ f.fr.off = f.off ∧ Rl.lies g f r.1 = true then some r.1 else none := by unfold recE; rw [hr]
  obtain ⟨rb, hrb⟩ : ∃ b, (recE g epoch f).isSome = b := ⟨_, rfl⟩
  have hres : EC ((recE g epoch f).getD En.E.zero) = if rb = true then EC r.1 else EC En.E.zero := by
    rw [← hrb, hrec]; split <;> rfl
  rw [hres, hrb]; refine rrecord_core w (fndC f) (EC r.1) g epoch f.zone f.off f.fr.zone f.fr.off f.fr.epoch r.1.mate r.1.block r.1.many r.2 (holdsG g f.zone f.off) (holdsG g r.1.mate f.off) rb (domOf g f.zone) (domOf g r.1.mate) (FC f.fr).toList ?_ ?_ (size_fnd hqq) ?_ (size_ent hE.1) (by rw [EC_size, EC_size, hE.1]; rfl) (EC_one _) ?_ (fun W => gholds_any g _ _ W) (fun W => gholds_any g _ _ W) ?_ ?_ ?_ ?_
  · intro W b h; obtain ⟨c0, c1, c2, c3, c4, -⟩ := fnd_cells h; exact ⟨c0, c1, c2, c3, c4, fnd_range h⟩
  · intro W b h; obtain ⟨-, -, -, c3, c4, c5⟩ := ent_cells h; exact ⟨c3, c4, c5⟩
  · rw [Array.length_toList, FC_size, hbd.1]; exact (zero_of_info Try.infoFrame).2
  · intro W; have := eread_any f.fr W hbd; rw [hr] at this; rw [Array.toArray_toList]; exact this
  · intro h1 _ W; exact gdomain_any g _ W (holdsG_small h1)
  · intro h1 _ W; exact gdomain_any g _ W (holdsG_small h1)
  · intro h; obtain ⟨a, b, c, m, t2, he, -, -, -, h4, h5, -⟩ := En.right_nat (hok h); rw [he]; simp only; omega
  · have hb : ∀ p : Prop, [Decidable p] → (recE g epoch f).isSome = decide (r.2 = 0 ∧ f.fr.epoch = epoch ∧ f.fr.zone = f.zone ∧ f.fr.off = f.off ∧ Rl.lies g f r.1 = true) := fun p _ => by
      rw [hrec]; split <;> simp_all
    have hb := hb True; rw [hrb] at hb; unfold Rl.lies at hb; by_cases h0 : r.2 = 0
    · by_cases h1 : f.fr.epoch = epoch
      · by_cases h2 : f.fr.zone = f.zone
        · by_cases h3 : f.fr.off = f.off
          · refine .inr (.inr (.inr (.inr ⟨h0, h1.symm, h2.symm, h3.symm, ?_⟩))); cases k1 : holdsG g f.zone f.off
            · exact .inl ⟨rfl, by rw [hb, k1]; simp⟩
            · cases k2 : holdsG g r.1.mate f.off
              · exact .inr (.inl ⟨rfl, rfl, by rw [hb, k2]; simp⟩)
              · by_cases h4 : domOf g f.zone = domOf g r.1.mate
                · exact .inr (.inr (.inl ⟨rfl, rfl, h4, by rw [hb, h4]; simp⟩))
                · refine .inr (.inr (.inr ⟨rfl, rfl, by simp [h4], ?_⟩)); by_cases h5 : r.1.block + max r.1.many 1 ≤ g.b
                  · exact .inr ⟨decide_eq_false (by omega), by rw [hb, k1, k2]; simp [h0, h1, h2, h3, h4, h5]⟩
                  · exact .inl ⟨decide_eq_true (by omega), by rw [hb]; simp [h5]⟩
          · exact .inr (.inr (.inr (.inl ⟨h0, h1.symm, h2.symm, by simp [h3], by rw [hb]; simp [h3]⟩)))
        · exact .inr (.inr (.inl ⟨h0, h1.symm, by simp [h2], by rw [hb]; simp [h2]⟩))
      · exact .inr (.inl ⟨h0, by simp [h1], by rw [hb]; simp [h1]⟩)
    · exact .inl ⟨by simp [h0], by rw [hb]; simp [h0]⟩
end Go.Proofs.Ytoiephmngdecaaa
