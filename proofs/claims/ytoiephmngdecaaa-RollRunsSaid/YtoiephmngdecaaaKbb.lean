/- Proved here: which record of a number the document chooses. -/
import Derived.LoopTactic
import Derived.Test.YtoiephmngdecaaaKam
import Derived.Test.YtoiephmngdecaaaKaq
import Derived.Test.YtoiephmngdecaaaKas
import Derived.Test.YtoiephmngdecaaaKax
import Derived.Test.YtoiephmngdecaaaKay
import Derived.Test.YtoiephmngdecaaaKba
namespace Go.Rv
theorem res_row2 {P : Program} {fn : Func} {p q r s : Tmp} {ty ty2 : TypeId} (h : fn.results = #[.cell p ty, .cell q ty2, .tmp r, .tmp s]) (tmps : Array Value) (w : World) (g g2 : Nat) (t t2 : TypeId) (cs cs2 : Array Value) (fr fr2 : Nat × Nat) (d d2 : TypeDesc)
    (hp : tmps.getD p undef = .pointer (some ⟨g, 0, none⟩)) (hg : w.heap[g]? = some (.cells cs t fr))
    (hu : P.underlying ty = some d) (hd : (match d with | .struct _ | .array _ _ => true | _ => false) = true) (hi : (P.info? ty).map (·.size) = some cs.size)
    (hp2 : tmps.getD q undef = .pointer (some ⟨g2, 0, none⟩)) (hg2 : w.heap[g2]? = some (.cells cs2 t2 fr2))
    (hu2 : P.underlying ty2 = some d2) (hd2 : (match d2 with | .struct _ | .array _ _ => true | _ => false) = true) (hi2 : (P.info? ty2).map (·.size) = some cs2.size) :
    (results fn tmps).run P w = .ok (.tuple #[.agg cs, .agg cs2, tmps.getD r undef, tmps.getD s undef]) w := by
  have hp' : tmps[p]?.getD undef = .pointer (some ⟨g, 0, none⟩) := by simpa using hp
  have hq' : tmps[q]?.getD undef = .pointer (some ⟨g2, 0, none⟩) := by simpa using hp2
  simp [results, h, hp', hq', asAddr, run_loadVar_row w g t ty cs fr d hg hu hd hi, run_loadVar_row w g2 t2 ty2 cs2 fr2 d2 hg2 hu2 hd2 hi2]
end Go.Rv
namespace Go.Proofs.Ytoiephmngdecaaa
open Go.RowKit Go.Rv Rl Frm
set_option linter.unusedVariables false
attribute [local go_sem] Oper.semAt_some
theorem fndC_at (f : Fnd) : (fndC f)[0]? = some (.int .i64 f.zone) ∧ (fndC f)[1]? = some (.int .i64 f.off) ∧ (fndC f)[6]? = some (.int .i64 f.fr.seq) := by
  refine ⟨?_, ?_, by unfold fndC; rw [Array.getElem?_append_right (by simp)]; exact (FC_num f.fr).2.2.2.2⟩ <;> (unfold fndC; rw [Array.getElem?_append_left (by simp)]; rfl)
theorem fnd0_q : FndQ fnd0 := ⟨rfl, rfl, ⟨by simp [fnd0, Fr.zero], by simp [fnd0, Fr.zero]⟩, rfl, rfl, rfl, rfl, rfl⟩
theorem recE_body (g : Geo.G) (epoch : Int) {f : Fnd} (hq : FndQ f) : EBody ((recE g epoch f).getD En.E.zero) := by
  unfold recE; split
  · exact readE_body f.fr hq.2.2.1
  · exact zero_ebody
/-- what the choice tells -/
def ChPost (B : Nat) (w0 : World) (g : Geo.G) (epoch s : Int) (l : List Fnd) (y : Ending) (w' : World) : Prop :=
  ∃ e f b k, y = .returned (.tuple #[.agg (EC e), .agg (fndC f), .bool b, .bool k]) ∧ ChosenAt g epoch s l e f b k ∧ Below B w0 w'
set_option maxRecDepth 100000 in
set_option maxHeartbeats 64000000 in
theorem chosen_any (g : Geo.G) (hg : Geo.right g = true) (epoch s : Int) (a2 : Option Addr) (l2 : List Fnd) (c2 : Nat) (w : World) (hI2 : RowOf w 51 fndC FndQ a2 l2) (hn : l2.length ≤ 1000) :
    Calls Try.prog 34 #[.agg (GC g), .int .i64 epoch, .int .i64 s, .slice a2 l2.length c2] w (ChPost w.heap.size w g epoch s l2) := by
  have HGI : Hid ((Try.prog.info? 47).map (·.size) = some (GC g).size) := Lib.hid (by rw [GC_size]; exact (zero_of_info Try.infoG5).2); have hz72 := (zero_of_info Try.infoRE).1; have hz61 := (zero_of_info Try.infoF16).1; have HI := Lib.hid hI2; have HRC := Lib.hid (fun (f : Fnd) (W : World) (hq : FndQ f) => rrec17_any g hg epoch f W hq); obtain ⟨GX, hGX⟩ : ∃ X, GC g = X := ⟨_, rfl⟩; rw [hGX] at HGI HRC ⊢; have HBZ4 : Hid (Try.prog.built 72 [] = some (EC En.E.zero)) := Lib.hid (by kernel_rfl); have HBZF : Hid (Try.prog.built 61 [] = some (fndC fnd0)) := Lib.hid (by kernel_rfl); have HIZ4 := Lib.hid (zero_of_info Try.infoRE).2; have HIZF := Lib.hid (zero_of_info Try.infoF16).2; have hs4 : (EC En.E.zero).size = 38 := by rw [EC_size]; rfl
  have hsF : (fndC fnd0).size = 51 := kinFnd.size fnd0 fnd0_q; rw [← hs4] at HIZ4; rw [← hsF] at HIZF; have HOZ4 := Lib.hid (EC_one En.E.zero); have HOZF := Lib.hid (kinFnd.one fnd0 fnd0_q); clear hs4 hsF; obtain ⟨EZ, hEZ⟩ : ∃ Z, EC En.E.zero = Z := ⟨_, rfl⟩; rw [hEZ] at hz72 HBZ4 HIZ4 HOZ4; obtain ⟨FZ, hFZ⟩ : ∃ Z, fndC fnd0 = Z := ⟨_, rfl⟩; rw [hFZ] at hz61 HBZF HIZF HOZF; obtain ⟨W0, hW0⟩ : ∃ W, ((w.alloc (.cells GX 47)).alloc (.cells EZ 72)).alloc (.cells FZ 61) = W := ⟨_, rfl⟩; have hb0 : Below w.heap.size w W0 := by rw [← hW0]; exact (((Below.refl _ _).alloc (Nat.le_refl _) _).alloc (by simp) _).alloc (by simp; omega) _
  obtain ⟨hg0, h80, h90⟩ : W0.heap[w.heap.size]? = some (.cells GX 47 (0, 0)) ∧ W0.heap[w.heap.size + 1]? = some (.cells EZ 72 (0, 0)) ∧ W0.heap[w.heap.size + 1 + 1]? = some (.cells FZ 61 (0, 0)) := by
    rw [← hW0]; refine ⟨?_, ?_, ?_⟩
    · exact (alloc_old _ _ (by simp; omega)).trans ((alloc_old _ _ (by simp)).trans (alloc_new _ _ rfl))
    · exact (alloc_old _ _ (by simp)).trans (alloc_new _ _ (by simp))
    · exact alloc_new _ _ (by simp)
  obtain ⟨n2, hn2⟩ : ∃ n, l2.length = n := ⟨_, rfl⟩; rw [hn2] at hn ⊢; have HN2 := Lib.hid hn2; have HW0 := Lib.hid hW0; have HB0 := Lib.hid hb0; have HI0 := Lib.hid (hI2.below hb0); have HEZ := Lib.hid hEZ; have HFZ := Lib.hid hFZ; clear hI2 hGX hEZ hFZ hW0 hb0 hn2 hg; go_enter Try.func34, Try.ntmps34; go_upto_region 1 with (fail); rw [HW0.out]; obtain ⟨r8, hr8⟩ : ∃ b, w.heap.size + 1 = b := ⟨_, rfl⟩; rw [hr8] at h80 h90 ⊢; obtain ⟨r9, hr9⟩ : ∃ b, r8 + 1 = b := ⟨_, rfl⟩; rw [hr9] at h90 ⊢; have HGB := Lib.hid (show w.heap.size < r8 ∧ r8 < r9 from by omega); clear hr8 hr9; obtain ⟨B, hBe⟩ : ∃ b, w.heap.size = b := ⟨_, rfl⟩; rw [hBe] at hg0 HB0 HGB ⊢; have HBE := Lib.hid hBe; have HLZ : Hid (B ≤ W0.heap.size) := Lib.hid (by have h1 := (Array.getElem?_eq_some_iff.1 hg0).1; omega); have HG0 := Lib.hid hg0; have H80 := Lib.hid h80; have H90 := Lib.hid h90; have z9 : r9 < W0.heap.size := (Array.getElem?_eq_some_iff.1 h90).1; clear hBe hg0 h80 h90; go_wp2; go_loopw [12] (fun u wr => ∃ i : Nat, i ≤ n2 ∧ u = .int .i64 i ∧ Below W0.heap.size W0 wr ∧ Inv1 g epoch s l2 i) (fun u _ => n2 - (intOf u).toNat)
  case atStart => exact ⟨0, Nat.zero_le _, rfl, Below.refl _ _, rfl⟩
  case round =>
    obtain ⟨i, hi, rfl, hBr, hinv⟩ := hrel; have zr := hBr.size; have HBR := Lib.hid hBr; have HIwr := Lib.hid (HI0.out.below hBr); have HGwr := Lib.hid ((hBr.block B (by have := HGB.out; omega)).trans HG0.out); have zgwr : B < wr.heap.size := by have := HGB.out; omega
    have HINV := Lib.hid hinv; clear hBr hinv; by_cases hlt : i < n2
    · obtain ⟨f, hf⟩ : ∃ f, l2[i]? = some f := ⟨_, List.getElem?_eq_getElem (by rw [HN2.out]; exact hlt)⟩; obtain ⟨ab, ao, rfl, hab, -, -⟩ := HI.out.at hf; have HAB := Lib.hid hab; have hq1 := HI.out.all f (List.mem_of_getElem? hf)
      have HGF1 : Hid (∀ W, Below wr.heap.size wr W → W.rangeAt ab (ao + i * 51) (fndC f).toList ∧ (W.cell? ⟨ab, ao + i * 51, none⟩ = some (.int .i64 f.zone) ∧ W.cell? ⟨ab, ao + i * 51 + 1, none⟩ = some (.int .i64 f.off) ∧ W.cell? ⟨ab, ao + i * 51 + 6, none⟩ = some (.int .i64 f.fr.seq))) := Lib.hid (fun W hW => by
        have h1 := HIwr.out.below hW; refine ⟨Rl2.rowOf_range h1 kinFnd.size hf, ?_⟩; obtain ⟨b', o', e', -, hc', -⟩ := h1.at hf; cases e'; obtain ⟨q0, q1, q6⟩ := fndC_at f; exact ⟨(hc' 0 (by omega)).trans q0, (hc' 1 (by omega)).trans q1, (hc' 6 (by omega)).trans q6⟩)
      have HIF1 : Hid ((Try.prog.info? 61).map (·.size) = some (fndC f).toList.length) := Lib.hid (size_f16 hq1); have HIS1 : Hid ((Try.prog.info? 61).map (·.size) = some (fndC f).size) := Lib.hid (size_f16 hq1); have HZF1 : Hid ((fndC fnd0).size = (fndC f).size) := Lib.hid (by rw [kinFnd.size f hq1]; rfl); have HOF1 := Lib.hid (kinFnd.one f hq1); have hEB1 := recE_body g epoch hq1; have HRC1 := Lib.hid (fun W => HRC.out f W hq1); obtain ⟨x, hx1⟩ : ∃ x, (recE g epoch f).getD En.E.zero = x := ⟨_, rfl⟩; obtain ⟨rb, hrb1⟩ : ∃ b, (recE g epoch f).isSome = b := ⟨_, rfl⟩; rw [hx1, hrb1] at HRC1; rw [hx1] at hEB1; have HIE1 := Lib.hid (size_re hEB1.1); have HZE1 : Hid ((EC En.E.zero).size = (EC x).size) := Lib.hid (by rw [EC_size, EC_size, hEB1.1]; rfl); have HOE1 := Lib.hid (EC_one x)
      have HXX1 : Hid ((rb = true → recE g epoch f = some x) ∧ (rb = false → recE g epoch f = none)) := Lib.hid (by
        rw [← hx1, ← hrb1]; cases recE g epoch f <;> simp)
      have HEC1 : Hid (∀ (W : World) (b : Nat), W.heap[b]? = some (.cells (EC x) 72 (0, 0)) → W.cell? ⟨b, 5, none⟩ = some (.int .i64 x.mate)) := Lib.hid (fun W b hh => (ent_cells hh).2.2.2.2.2); have HKF1 := Lib.hid hf; obtain ⟨CF, hCF1⟩ : ∃ C, fndC f = C := ⟨_, rfl⟩; obtain ⟨CE, hCE1⟩ : ∃ C, EC x = C := ⟨_, rfl⟩; rw [hCF1] at HGF1 HIF1 HIS1 HZF1 HOF1 HRC1; rw [hCE1] at HRC1 HIE1 HZE1 HOE1 HEC1; have HCE1 := Lib.hid hCE1; have HCF1 := Lib.hid hCF1; clear hq1 hEB1 hx1 hrb1 hCF1 hCE1; rw [HEZ.out] at HZE1; rw [HFZ.out] at HZF1; clear hf hab; go_upto_region 4 with (fail); refine wp_region_conf8 12 [Fact.eq (.agg GX), Fact.eq (.int .i64 epoch), Fact.eq (.slice (some ⟨ab, ao, none⟩) n2 c2), Fact.eq (.int .i64 (i : Nat)), Fact.eq (.pointer (some ⟨ab, ao + i * 51, none⟩)), Fact.eq (.agg CF), Fact.eq (.tuple #[.agg CE, .bool rb]), Fact.eq (.tuple #[.agg CE, .bool rb]), Fact.eq (.agg CE), Fact.eq (.bool rb), Fact.eq undef, Fact.eq undef] 10 11 EZ CE 72 ?raA (by kernel_rfl) (by kernel_rfl) (by kernel_rfl) ?rahA ?rahs ?raho ?rahend
      case rahA =>
        intro vv; simp only [putRules, Nat.reduceAdd]; rfl
      case rahs =>
        intro j u W gg hj hg hr hp
        match j, hj with
        | 0, _ => exact hp
        | 1, _ => exact hp
        | 2, _ => exact hp
        | 3, _ => exact hp
        | 4, _ => exact hp
        | 5, _ => exact hp
        | 6, _ => exact hp
        | 7, _ => exact hp
        | 8, _ => exact hp
        | 9, _ => exact hp
        | 10, _ => exact hp
        | 11, _ => exact hp
      case raho =>
        refine ⟨?_, ?_, ?_, ?_, ?_, ?_, ?_, ?_, ?_, ?_, ?_, ?_, trivial⟩
        · intro vv W K hB hd HK; simp only [confRules, conf8Rules, cond7] at HK; clear hd; have hT := (hB.block B zgwr).trans HGwr.out; refine wpList_load_row rfl 47 _ rfl B rfl 47 _ _ _ hT Try.underlying47 rfl HGI.out ?_; refine HK.out _ _ (Below.refl _ _) ?_; rfl
        · intro vv W K hB hd HK; simp only [confRules, conf8Rules, cond7] at HK; clear hd; go_wp2; refine HK.out _ _ (Below.refl _ _) ?_; rfl
        · intro vv W K hB hd HK; simp only [confRules, conf8Rules, cond7] at HK; clear hd; go_wp2; refine HK.out _ _ (Below.refl _ _) ?_; rfl
        · intro vv W K hB hd HK; simp only [confRules, conf8Rules, cond7] at HK; clear hd; go_wp2; refine HK.out _ _ (Below.refl _ _) ?_; rfl
        · intro vv W K hB hd HK; simp only [confRules, conf8Rules, cond7] at hd HK; obtain ⟨h2, h3⟩ := hd; simp only [h2, h3] at HK ⊢; clear h2 h3; go_wp2; refine HK.out _ _ (Below.refl _ _) ?_; rfl
        · intro vv W K hB hd HK; simp only [confRules, conf8Rules, cond7] at hd HK; have h4 := hd; clear hd; simp only [h4] at HK ⊢; clear h4; have hT := (HGF1.out W hB).1; refine wpList_load_mid rfl 61 _ rfl ab (ao + i * 51) rfl CF.toList _ hT Try.underlying61 rfl HIF1.out ?_; refine HK.out _ _ (Below.refl _ _) ?_; rfl
        · intro vv W K hB hd HK; simp only [confRules, conf8Rules, cond7] at hd HK; obtain ⟨h0, h1, h5⟩ := hd; simp only [h0, h1, h5] at HK ⊢; clear h0 h1 h5; go_wp2_with (refine (HRC1.out _).mono ?_; rintro e w9 ⟨rfl, hB9⟩); refine HK.out _ _ hB9 ?_; rfl
        · intro vv W K hB hd HK; simp only [confRules, conf8Rules, cond7] at hd HK; have h6 := hd; clear hd; simp only [h6] at HK ⊢; clear h6; go_wp2; refine HK.out _ _ (Below.refl _ _) ?_; rfl
        · intro vv W K hB hd HK; simp only [confRules, conf8Rules, cond7] at hd HK; have h7 := hd; clear hd; simp only [h7] at HK ⊢; clear h7; go_wp2; refine HK.out _ _ (Below.refl _ _) ?_; rfl
        · intro vv W K hB hd HK; simp only [confRules, conf8Rules, cond7] at hd HK; have h7 := hd; clear hd; simp only [h7] at HK ⊢; clear h7; go_wp2; refine HK.out _ _ (Below.refl _ _) ?_; rfl
        · intro vv W K hB hd HK; simp only [confRules, conf8Rules, cond7] at HK; clear hd; go_wp2; refine HK.out _ _ hB.size ((Below.refl _ _).alloc (Nat.le_refl _) _) (heap_alloc_new _ _)
        · intro vv W K g hB hg hr hp hd HK; simp only [confRules, conf8Rules, cond7] at hd HK; obtain ⟨h8, h6, h0, h1, h2, h3, h4, h5, _, h7, _⟩ := hd; simp only [hp, h8, h6, h0, h1, h2, h3, h4, h5, h7] at HK ⊢; clear h8 h6 h0 h1 h2 h3 h4 h5 h7; go_wp2_with (refine wpList_store_row rfl 72 _ _ rfl g CE rfl rfl 72 EZ hr HIE1.out HZE1.out HOE1.out ?_); refine HK.out _ _ rfl ?_; rfl
      case rahend =>
      intro vv W g10 hB hf e10 l10 r10; have e9 := hf 9 (by decide) (by decide); simp only [conf8Rules] at e9; simp only [e9, e10, dropRules]; clear hf e10 e9; go_upto_region 5 with (fail); obtain ⟨W4, hW4⟩ : ∃ W4, W = W4 := ⟨_, rfl⟩; obtain ⟨gE, hgE⟩ : ∃ b, g10 = b := ⟨_, rfl⟩; rw [hW4, hgE] at r10; rw [hgE] at l10; rw [hW4] at hB; rw [hW4, hgE]; have z4 := hB.size; have HE4 := Lib.hid r10; have HK4 := Lib.hid hB; have HB4 := Lib.hid (HBR.out.trans (hB.mono zr)); have zE4 : gE < W4.heap.size := (Array.getElem?_eq_some_iff.1 r10).1; have lE4 : W0.heap.size ≤ gE := by omega
      obtain ⟨x0, x1, x6⟩ := (HGF1.out W4 hB).2; clear hW4 hB r10 x0 x1 hgE; obtain ⟨fs, hfs⟩ : ∃ z, f.fr.seq = z := ⟨_, rfl⟩; rw [hfs] at x6; have HFS := Lib.hid hfs; clear hfs
      have hcase : rb = false ∨ (rb = true ∧ (fs != s) = true) ∨ (rb = true ∧ fs = s) := by
        cases rb
        · exact .inl rfl
        · by_cases h1 : fs = s
          · exact .inr (.inr ⟨rfl, h1⟩)
          · exact .inr (.inl ⟨rfl, by simpa using h1⟩)
      rcases hcase with rfl | ⟨rfl, t1⟩ | ⟨rfl, hfs⟩
      · have HSK : Hid (Inv1 g epoch s l2 (i + 1)) := Lib.hid (HINV.out.skip HKF1.out (pF_none (.inl (HXX1.out.2 rfl)))); go_wp2; exact ⟨⟨i + 1, by omega, by go_num, HB4.out, HSK.out⟩, by simp [intOf]; omega⟩
      · have HSK : Hid (Inv1 g epoch s l2 (i + 1)) := Lib.hid (HINV.out.skip HKF1.out (pF_none (.inr (by rw [HFS.out]; simpa using t1)))); go_wp2; exact ⟨⟨i + 1, by omega, by go_num, HB4.out, HSK.out⟩, by simp [intOf]; omega⟩
      · subst hfs; have HFX : Hid (recE g epoch f = some x) := Lib.hid (HXX1.out.1 rfl); have t0 : (fs != fs) = false := by simp
        go_upto_region 6 with (fail); clear x6 t0; go_wp2; go_loopw [15] (fun u wr => ∃ k : Nat, i + 1 ≤ k ∧ k ≤ n2 ∧ u = .int .i64 k ∧ Below W4.heap.size W4 wr ∧ Inv2 g epoch fs l2 i ⟨x, f.zone, f.off⟩ k) (fun u _ => n2 - (intOf u).toNat)
        case atStart => exact ⟨i + 1, Nat.le_refl _, by omega, by go_num, Below.refl _ _, rfl⟩
        case round =>
          obtain ⟨k, hik, hk, rfl, hBi, hin2⟩ := hrel; have zi := hBi.size; have HBI := Lib.hid hBi; have HIN2 := Lib.hid hin2; have HBJ := Lib.hid (HB4.out.trans (hBi.mono HB4.out.size)); have HIwr := Lib.hid (HI0.out.below HBJ.out); have HGwr := Lib.hid ((HBJ.out.block B (by have := HGB.out; omega)).trans HG0.out); have zgwr : B < wr.heap.size := by have := HGB.out; omega
          clear hBi hin2; by_cases hlt2 : k < n2
          · obtain ⟨h, hh⟩ : ∃ h, l2[k]? = some h := ⟨_, List.getElem?_eq_getElem (by rw [HN2.out]; exact hlt2)⟩; have hq2 := HI.out.all h (List.mem_of_getElem? hh)
            have HGF2 : Hid (∀ W, Below wr.heap.size wr W → W.rangeAt ab (ao + k * 51) (fndC h).toList ∧ (W.cell? ⟨ab, ao + k * 51, none⟩ = some (.int .i64 h.zone) ∧ W.cell? ⟨ab, ao + k * 51 + 1, none⟩ = some (.int .i64 h.off) ∧ W.cell? ⟨ab, ao + k * 51 + 6, none⟩ = some (.int .i64 h.fr.seq))) := Lib.hid (fun W hW => by
              have h1 := HIwr.out.below hW; refine ⟨Rl2.rowOf_range h1 kinFnd.size hh, ?_⟩; obtain ⟨b', o', e', -, hc', -⟩ := h1.at hh; cases e'; obtain ⟨q0, q1, q6⟩ := fndC_at h; exact ⟨(hc' 0 (by omega)).trans q0, (hc' 1 (by omega)).trans q1, (hc' 6 (by omega)).trans q6⟩)
            have HIF2 : Hid ((Try.prog.info? 61).map (·.size) = some (fndC h).toList.length) := Lib.hid (size_f16 hq2); have HIS2 : Hid ((Try.prog.info? 61).map (·.size) = some (fndC h).size) := Lib.hid (size_f16 hq2); have HZF2 : Hid ((fndC fnd0).size = (fndC h).size) := Lib.hid (by rw [kinFnd.size h hq2]; rfl); have HOF2 := Lib.hid (kinFnd.one h hq2); have hEB2 := recE_body g epoch hq2; have HRC2 := Lib.hid (fun W => HRC.out h W hq2); obtain ⟨y, hx2⟩ : ∃ x, (recE g epoch h).getD En.E.zero = x := ⟨_, rfl⟩; obtain ⟨rh, hrb2⟩ : ∃ b, (recE g epoch h).isSome = b := ⟨_, rfl⟩; rw [hx2, hrb2] at HRC2; rw [hx2] at hEB2; have HIE2 := Lib.hid (size_re hEB2.1); have HZE2 : Hid ((EC En.E.zero).size = (EC y).size) := Lib.hid (by rw [EC_size, EC_size, hEB2.1]; rfl); have HOE2 := Lib.hid (EC_one y)
            have HXX2 : Hid ((rh = true → recE g epoch h = some y) ∧ (rh = false → recE g epoch h = none)) := Lib.hid (by
              rw [← hx2, ← hrb2]; cases recE g epoch h <;> simp)
            have HEC2 : Hid (∀ (W : World) (b : Nat), W.heap[b]? = some (.cells (EC y) 72 (0, 0)) → W.cell? ⟨b, 5, none⟩ = some (.int .i64 y.mate)) := Lib.hid (fun W b hh => (ent_cells hh).2.2.2.2.2); have HKF2 := Lib.hid hh; obtain ⟨CH, hCF2⟩ : ∃ C, fndC h = C := ⟨_, rfl⟩; obtain ⟨CY, hCE2⟩ : ∃ C, EC y = C := ⟨_, rfl⟩; rw [hCF2] at HGF2 HIF2 HIS2 HZF2 HOF2 HRC2; rw [hCE2] at HRC2 HIE2 HZE2 HOE2 HEC2; have HCE2 := Lib.hid hCE2; have HCF2 := Lib.hid hCF2; clear hq2 hEB2 hx2 hrb2 hCF2 hCE2; rw [HEZ.out] at HZE2; rw [HFZ.out] at HZF2; have HE4r := Lib.hid ((HBI.out.block gE zE4).trans HE4.out); have zE4r : gE < wr.heap.size := by omega
            have HGI1 := Lib.hid (fun (W : World) (hW : Below wr.heap.size wr W) => HGF1.out W (HK4.out.trans ((HBI.out.trans (hW.mono zi)).mono z4))); clear hh; go_upto_region 9 with (fail); refine wp_region_conf8 12 [Fact.eq (.agg GX), Fact.eq (.int .i64 epoch), Fact.eq (.slice (some ⟨ab, ao, none⟩) n2 c2), Fact.eq (.int .i64 (k : Nat)), Fact.eq (.pointer (some ⟨ab, ao + k * 51, none⟩)), Fact.eq (.agg CH), Fact.eq (.tuple #[.agg CY, .bool rh]), Fact.eq (.tuple #[.agg CY, .bool rh]), Fact.eq (.agg CY), Fact.eq (.bool rh), Fact.eq undef, Fact.eq undef] 10 11 EZ CY 72 ?rbA (by kernel_rfl) (by kernel_rfl) (by kernel_rfl) ?rbhA ?rbhs ?rbho ?rbhend
            case rbhA =>
              intro vv; simp only [putRules, Nat.reduceAdd]; rfl
            case rbhs =>
              intro j u W gg hj hg hr hp
              match j, hj with
              | 0, _ => exact hp
              | 1, _ => exact hp
              | 2, _ => exact hp
              | 3, _ => exact hp
              | 4, _ => exact hp
              | 5, _ => exact hp
              | 6, _ => exact hp
              | 7, _ => exact hp
              | 8, _ => exact hp
              | 9, _ => exact hp
              | 10, _ => exact hp
              | 11, _ => exact hp
            case rbho =>
              refine ⟨?_, ?_, ?_, ?_, ?_, ?_, ?_, ?_, ?_, ?_, ?_, ?_, trivial⟩
              · intro vv W K hB hd HK; simp only [confRules, conf8Rules, cond7] at HK; clear hd; have hT := (hB.block B zgwr).trans HGwr.out; refine wpList_load_row rfl 47 _ rfl B rfl 47 _ _ _ hT Try.underlying47 rfl HGI.out ?_; refine HK.out _ _ (Below.refl _ _) ?_; rfl
              · intro vv W K hB hd HK; simp only [confRules, conf8Rules, cond7] at HK; clear hd; go_wp2; refine HK.out _ _ (Below.refl _ _) ?_; rfl
              · intro vv W K hB hd HK; simp only [confRules, conf8Rules, cond7] at HK; clear hd; go_wp2; refine HK.out _ _ (Below.refl _ _) ?_; rfl
              · intro vv W K hB hd HK; simp only [confRules, conf8Rules, cond7] at HK; clear hd; go_wp2; refine HK.out _ _ (Below.refl _ _) ?_; rfl
              · intro vv W K hB hd HK; simp only [confRules, conf8Rules, cond7] at hd HK; obtain ⟨h2, h3⟩ := hd; simp only [h2, h3] at HK ⊢; clear h2 h3; go_wp2; refine HK.out _ _ (Below.refl _ _) ?_; rfl
              · intro vv W K hB hd HK; simp only [confRules, conf8Rules, cond7] at hd HK; have h4 := hd; clear hd; simp only [h4] at HK ⊢; clear h4; have hT := (HGF2.out W hB).1; refine wpList_load_mid rfl 61 _ rfl ab (ao + k * 51) rfl CH.toList _ hT Try.underlying61 rfl HIF2.out ?_; refine HK.out _ _ (Below.refl _ _) ?_; rfl
              · intro vv W K hB hd HK; simp only [confRules, conf8Rules, cond7] at hd HK; obtain ⟨h0, h1, h5⟩ := hd; simp only [h0, h1, h5] at HK ⊢; clear h0 h1 h5; go_wp2_with (refine (HRC2.out _).mono ?_; rintro e w9 ⟨rfl, hB9⟩); refine HK.out _ _ hB9 ?_; rfl
              · intro vv W K hB hd HK; simp only [confRules, conf8Rules, cond7] at hd HK; have h6 := hd; clear hd; simp only [h6] at HK ⊢; clear h6; go_wp2; refine HK.out _ _ (Below.refl _ _) ?_; rfl
              · intro vv W K hB hd HK; simp only [confRules, conf8Rules, cond7] at hd HK; have h7 := hd; clear hd; simp only [h7] at HK ⊢; clear h7; go_wp2; refine HK.out _ _ (Below.refl _ _) ?_; rfl
              · intro vv W K hB hd HK; simp only [confRules, conf8Rules, cond7] at hd HK; have h7 := hd; clear hd; simp only [h7] at HK ⊢; clear h7; go_wp2; refine HK.out _ _ (Below.refl _ _) ?_; rfl
              · intro vv W K hB hd HK; simp only [confRules, conf8Rules, cond7] at HK; clear hd; go_wp2; refine HK.out _ _ hB.size ((Below.refl _ _).alloc (Nat.le_refl _) _) (heap_alloc_new _ _)
              · intro vv W K g hB hg hr hp hd HK; simp only [confRules, conf8Rules, cond7] at hd HK; obtain ⟨h8, h6, h0, h1, h2, h3, h4, h5, _, h7, _⟩ := hd; simp only [hp, h8, h6, h0, h1, h2, h3, h4, h5, h7] at HK ⊢; clear h8 h6 h0 h1 h2 h3 h4 h5 h7; go_wp2_with (refine wpList_store_row rfl 72 _ _ rfl g CY rfl rfl 72 EZ hr HIE2.out HZE2.out HOE2.out ?_); refine HK.out _ _ rfl ?_; rfl
            case rbhend =>
            intro vv W g10 hB hf e10 l10 r10; have e9 := hf 9 (by decide) (by decide); simp only [conf8Rules] at e9; simp only [e9, e10, dropRules]; clear hf e10 e9; go_upto_region 10 with (fail); obtain ⟨W5, hW5⟩ : ∃ W5, W = W5 := ⟨_, rfl⟩; obtain ⟨gY, hgY⟩ : ∃ b, g10 = b := ⟨_, rfl⟩; rw [hW5, hgY] at r10; rw [hgY] at l10; rw [hW5] at hB; rw [hW5, hgY]; have z5 := hB.size; have y5 := HEC2.out W5 gY r10; have x5 := HEC1.out W5 gE ((hB.block gE zE4r).trans HE4r.out); obtain ⟨y0, y1, y6⟩ := (HGF2.out W5 hB).2; obtain ⟨x0, x1, -⟩ := (HGI1.out W5 hB).2; have HE5 := Lib.hid ((hB.block gE zE4r).trans HE4r.out); have HBK := Lib.hid (HBI.out.trans (hB.mono zi)); have HBL := Lib.hid (HBJ.out.trans (hB.mono (by omega))); clear hW5 hgY hB r10; obtain ⟨hs, hhs⟩ : ∃ z, h.fr.seq = z := ⟨_, rfl⟩; obtain ⟨hz, hhz⟩ : ∃ z, h.zone = z := ⟨_, rfl⟩; obtain ⟨ho, hho⟩ : ∃ z, h.off = z := ⟨_, rfl⟩; obtain ⟨fz, hfz⟩ : ∃ z, f.zone = z := ⟨_, rfl⟩; obtain ⟨fo, hfo⟩ : ∃ z, f.off = z := ⟨_, rfl⟩; obtain ⟨xm, hxm⟩ : ∃ z, x.mate = z := ⟨_, rfl⟩; obtain ⟨ym, hym⟩ : ∃ z, y.mate = z := ⟨_, rfl⟩; rw [hhs] at y6; rw [hhz] at y0; rw [hho] at y1; rw [hfz] at x0; rw [hfo] at x1; rw [hxm] at x5; rw [hym] at y5; have HNM := Lib.hid (And.intro (And.intro hhs (And.intro hhz hho)) (And.intro (And.intro hfz hfo) (And.intro hxm hym))); clear hhs hhz hho hfz hfo hxm hym
            have HNO : Hid ((rh = false ∨ (hs == fs) = false ∨ (xm == hz) = false ∨ (ym == fz) = false ∨ (fo == ho) = false) → Inv2 g epoch fs l2 i ⟨x, f.zone, f.off⟩ (k + 1)) := Lib.hid (fun hc => by
              obtain ⟨⟨e1, e2, e3⟩, ⟨e4, e5⟩, e6, e7⟩ := HNM.out; refine HIN2.out.skip HKF2.out ?_; cases hrh : rh
              · exact .inl (pF_none (.inl (HXX2.out.2 hrh)))
              · by_cases hq : hs = fs
                · refine .inr ⟨_, pF_some (HXX2.out.1 hrh) (by rw [e1]; exact hq), ?_⟩; rcases hc with c | c | c | c | c
                  · rw [hrh] at c; cases c
                  · rw [hq] at c; simp at c
                  · unfold mates; simp only; rw [e6, e2]; simp at c; simp [c]
                  · unfold mates; simp only; rw [e7, e4]; simp at c; simp [c]
                  · unfold mates; simp only; rw [e5, e3]; simp at c; simp [c]
                · exact .inl (pF_none (.inr (by rw [e1]; exact hq))))
            have hcase : rh = false ∨ (rh = true ∧ (hs == fs) = false) ∨ (rh = true ∧ (hs == fs) = true ∧ (xm == hz) = false) ∨ (rh = true ∧ (hs == fs) = true ∧ (xm == hz) = true ∧ (ym == fz) = false) ∨ (rh = true ∧ (hs == fs) = true ∧ (xm == hz) = true ∧ (ym == fz) = true ∧ (fo == ho) = false) ∨ (rh = true ∧ (hs == fs) = true ∧ (xm == hz) = true ∧ (ym == fz) = true ∧ (fo == ho) = true) := by
              cases rh <;> cases (hs == fs) <;> cases (xm == hz) <;> cases (ym == fz) <;> cases (fo == ho) <;> simp
            rcases hcase with rfl | ⟨rfl, t1⟩ | ⟨rfl, t1, t2⟩ | ⟨rfl, t1, t2, t3⟩ | ⟨rfl, t1, t2, t3, t4⟩ | ⟨rfl, t1, t2, t3, t4⟩
            · have HSK := Lib.hid (HNO.out (.inl rfl)); go_quiet (fail); go_wp2; exact ⟨⟨k + 1, by omega, by omega, by go_num, below_drewN HBK.out _, HSK.out⟩, by simp [intOf]; omega⟩
            · have HSK := Lib.hid (HNO.out (.inr (.inl t1))); go_quiet (fail); go_wp2; exact ⟨⟨k + 1, by omega, by omega, by go_num, below_drewN HBK.out _, HSK.out⟩, by simp [intOf]; omega⟩
            · have HSK := Lib.hid (HNO.out (.inr (.inr (.inl t2)))); go_quiet (fail); go_wp2; exact ⟨⟨k + 1, by omega, by omega, by go_num, below_drewN HBK.out _, HSK.out⟩, by simp [intOf]; omega⟩
            · have HSK := Lib.hid (HNO.out (.inr (.inr (.inr (.inl t3))))); go_quiet (fail); go_wp2; exact ⟨⟨k + 1, by omega, by omega, by go_num, below_drewN HBK.out _, HSK.out⟩, by simp [intOf]; omega⟩
            · have HSK := Lib.hid (HNO.out (.inr (.inr (.inr (.inr t4))))); go_quiet (fail); go_wp2; exact ⟨⟨k + 1, by omega, by omega, by go_num, below_drewN HBK.out _, HSK.out⟩, by simp [intOf]; omega⟩
            · have HCH0 : Hid (ChosenAt g epoch fs l2 x f false true) := Lib.hid (by
                obtain ⟨⟨e1, e2, e3⟩, ⟨e4, e5⟩, e6, e7⟩ := HNM.out; refine chosen_pair HINV.out HKF1.out HFX.out HFS.out HIN2.out HKF2.out (HXX2.out.1 rfl) (by rw [e1]; simpa using t1) ?_; unfold mates; simp only [e6, e2, e7, e4, e5, e3]; simp at t2 t3 t4; simp [t2, t3, t4])
              have HEX := HE5; go_quiet (fail); go_upto_region 11 with (fail); obtain ⟨W6, hW6⟩ : ∃ W6, W5.drewN nq = W6 := ⟨_, rfl⟩; rw [hW6]; have hb6 : Below W5.heap.size W5 W6 := by rw [← hW6]; exact below_drewN (Below.refl _ _) _
              have hgb := HGB.out; have hbl6 := HBL.out.trans (hb6.mono HBL.out.size); have HBL6 := Lib.hid hbl6; have HE6 := Lib.hid ((hb6.block gE (Array.getElem?_eq_some_iff.1 HEX.out).1).trans HEX.out); have H86 := Lib.hid ((hbl6.block r8 (by omega)).trans H80.out); have H96 := Lib.hid ((hbl6.block r9 (by omega)).trans H90.out)
              have HRO : Hid (∀ W, Only [r8] W6 W → W.rangeAt ab (ao + i * 51) CF.toList) := Lib.hid (fun W hO => by
                have h1 := (HI0.out.below hbl6).only hO (fun x e => by cases e; have h2 := HAB.out; have h3 := HBE.out; simp; omega); rw [← HCF1.out]; exact Rl2.rowOf_range h1 kinFnd.size HKF1.out)
              have HCH := Lib.hid (HCH0.out); have HLB := Lib.hid (show B ≤ W6.heap.size from by have := hbl6.size; omega); clear hW6 hb6 hbl6; refine wp_region_conf11 [r8] 6 [FactS.eq (.agg CE), FactS.eq (.slice (some ⟨ab, ao, none⟩) n2 c2), FactS.eq (.int .i64 (i : Nat)), FactS.eq (.pointer (some ⟨ab, ao + i * 51, none⟩)), FactS.eq (.agg CF), FactS.eq undef] 5 (fun V => V.heap[r8]? = some (.cells EZ 72 (0, 0))) (fun u V => V.heap[r8]? = some (.cells CE 72 (0, 0))) ?rdA (by kernel_rfl) (by kernel_rfl) (by kernel_rfl) ?rdhA ?rdh0 ?rdhb ?rdhg ?rdho ?rdhend
              case rdhA =>
                intro vv; simp only [putRules, Nat.reduceAdd]; rfl
              case rdh0 =>
                exact H86.out
              case rdhb =>
                intro V V' h1 h2; exact (h2.block r8 (Array.getElem?_eq_some_iff.1 h1).1).trans h1
              case rdhg =>
                intro u V V' h1 h2; exact (h2.block r8 (Array.getElem?_eq_some_iff.1 h1).1).trans h1
              case rdho =>
                refine ⟨?_, ?_, ?_, ?_, ?_, ?_, trivial⟩
                · intro vv W K hO hd HK; simp only [confRules, conf6Rules] at HK; clear hd; refine wpList_load_row rfl 72 _ rfl gE rfl 72 _ _ _ (hO.get HE6.out (by simp; omega)) Try.underlying72 rfl HIE1.out ?_; refine HK.out _ _ (Below.refl _ _) ?_; rfl
                · intro vv W K hO hd HK; simp only [confRules, conf6Rules, cond7] at HK; clear hd; go_wp2; refine HK.out _ _ (Below.refl _ _) ?_; rfl
                · intro vv W K hO hd HK; simp only [confRules, conf6Rules, cond7] at HK; clear hd; go_wp2; refine HK.out _ _ (Below.refl _ _) ?_; rfl
                · intro vv W K hO hd HK; simp only [confRules, conf6Rules, cond7] at hd HK; obtain ⟨h1, h2⟩ := hd; simp only [h1, h2] at HK ⊢; clear h1 h2; go_wp2; refine HK.out _ _ (Below.refl _ _) ?_; rfl
                · intro vv W K hO hd HK; simp only [confRules, conf6Rules, cond7] at hd HK; have h3 := hd; clear hd; simp only [h3] at HK ⊢; clear h3; refine wpList_load_mid rfl 61 _ rfl ab (ao + i * 51) rfl CF.toList _ (HRO.out W hO) Try.underlying61 rfl HIF1.out ?_; refine HK.out _ _ (Below.refl _ _) ?_; rfl
                · intro vv W K hO hI hd HK; simp only [confRules, conf6Rules, cond7] at hd HK; obtain ⟨h0, _⟩ := hd; simp only [h0] at HK ⊢; clear h0; go_wp2_with (refine wpList_store_row rfl 72 _ _ rfl r8 CE rfl rfl 72 EZ hI HIE1.out HZE1.out HOE1.out ?_); refine HK.out undef _ (only_set1 _ _ _) ?_; exact setRow_heap _ _ _ _ _ _ hI
              case rdhend =>
              intro vv W hO hf hG; have e4 := hf 4 (by decide) (by rfl); simp only [confRules, conf6Rules] at e4; simp only [e4, dropRules]; clear hf e4; obtain ⟨W7, hW7⟩ : ∃ W7, W = W7 := ⟨_, rfl⟩; rw [hW7] at hO hG ⊢; have hb7 : Below B w W7 := HB0.out.trans ((HBL6.out.mono HLZ.out).trans (hO.below (by simp; omega) HLB.out)); have HLB7 : Hid (B ≤ W7.heap.size) := Lib.hid (by have h1 := hO.size; have h2 := HLB.out; omega); have h97 := hO.get H96.out (by simp; omega); have HG7 := Lib.hid hG; have HB7 := Lib.hid hb7; have H97 := Lib.hid h97; clear hW7 hO hG hb7 h97; go_wp2_with (refine wpList_store_row rfl 61 _ _ rfl r9 CF rfl rfl 61 FZ H97.out HIS1.out HZF1.out HOF1.out ?_); have h98 := setRow_heap W7 r9 FZ CF _ _ H97.out; have h88 := (setRow_other W7 r9 r8 CF (by omega)).trans HG7.out; refine bodyPost_ret (res_row2 rfl _ _ r8 r9 72 61 CE CF _ _ _ _ rfl h88 Try.underlying72 rfl HIE1.out rfl h98 Try.underlying61 rfl HIS1.out) rfl ?_; exact ⟨x, f, false, true, by rw [HCE1.out, HCF1.out]; rfl, HCH.out, by rw [HBE.out]; exact HB7.out.trans ((only_set1 W7 r9 CF).below (B := B) (by simp; omega) HLB7.out)⟩
          · have hkn : k = n2 := by omega
            have HSK : Hid (Inv1 g epoch fs l2 (i + 1)) := Lib.hid (HINV.out.next HKF1.out (pF_some HFX.out HFS.out) (by have h1 := HIN2.out; rw [hkn, ← HN2.out] at h1; exact h1)); rw [hkn]; go_wp2; exact ⟨⟨i + 1, by omega, by go_num, HBJ.out, HSK.out⟩, by simp [intOf]; omega⟩
    · have HIN1 : Hid (Inv1 g epoch s l2 l2.length) := Lib.hid (by have h1 := HINV.out; rw [show i = l2.length from by rw [HN2.out]; omega] at h1; exact h1); have hin : i = n2 := by omega
      rw [hin]; obtain ⟨Wa, hWa⟩ : ∃ W, wr = W := ⟨_, rfl⟩; rw [hWa] at HBR ⊢; have HBA := HBR; clear hWa hin hlt hi HINV HIwr HGwr zgwr zr HBR; go_upto_region 13 with (fail); go_loopw [18] (fun u wr => ∃ i : Nat, i ≤ n2 ∧ u = .int .i64 i ∧ Below W0.heap.size W0 wr ∧ Inv3 g epoch s l2 i) (fun u _ => n2 - (intOf u).toNat)
      case atStart => exact ⟨0, Nat.zero_le _, rfl, HBA.out, rfl⟩
      case round =>
        obtain ⟨i, hi, rfl, hBr, hinv⟩ := hrel; have zr := hBr.size; have HBR := Lib.hid hBr; have HIwr := Lib.hid (HI0.out.below hBr); have HGwr := Lib.hid ((hBr.block B (by have := HGB.out; omega)).trans HG0.out); have zgwr : B < wr.heap.size := by have := HGB.out; omega
        have HINV := Lib.hid hinv; clear hBr hinv; by_cases hlt : i < n2
        · obtain ⟨f, hf⟩ : ∃ f, l2[i]? = some f := ⟨_, List.getElem?_eq_getElem (by rw [HN2.out]; exact hlt)⟩; obtain ⟨ab, ao, rfl, hab, -, -⟩ := HI.out.at hf; have HAB := Lib.hid hab; have hq1 := HI.out.all f (List.mem_of_getElem? hf)
          have HGF1 : Hid (∀ W, Below wr.heap.size wr W → W.rangeAt ab (ao + i * 51) (fndC f).toList ∧ (W.cell? ⟨ab, ao + i * 51, none⟩ = some (.int .i64 f.zone) ∧ W.cell? ⟨ab, ao + i * 51 + 1, none⟩ = some (.int .i64 f.off) ∧ W.cell? ⟨ab, ao + i * 51 + 6, none⟩ = some (.int .i64 f.fr.seq))) := Lib.hid (fun W hW => by
            have h1 := HIwr.out.below hW; refine ⟨Rl2.rowOf_range h1 kinFnd.size hf, ?_⟩; obtain ⟨b', o', e', -, hc', -⟩ := h1.at hf; cases e'; obtain ⟨q0, q1, q6⟩ := fndC_at f; exact ⟨(hc' 0 (by omega)).trans q0, (hc' 1 (by omega)).trans q1, (hc' 6 (by omega)).trans q6⟩)
          have HIF1 : Hid ((Try.prog.info? 61).map (·.size) = some (fndC f).toList.length) := Lib.hid (size_f16 hq1); have HIS1 : Hid ((Try.prog.info? 61).map (·.size) = some (fndC f).size) := Lib.hid (size_f16 hq1); have HZF1 : Hid ((fndC fnd0).size = (fndC f).size) := Lib.hid (by rw [kinFnd.size f hq1]; rfl); have HOF1 := Lib.hid (kinFnd.one f hq1); have hEB1 := recE_body g epoch hq1; have HRC1 := Lib.hid (fun W => HRC.out f W hq1); obtain ⟨x, hx1⟩ : ∃ x, (recE g epoch f).getD En.E.zero = x := ⟨_, rfl⟩; obtain ⟨rb, hrb1⟩ : ∃ b, (recE g epoch f).isSome = b := ⟨_, rfl⟩; rw [hx1, hrb1] at HRC1; rw [hx1] at hEB1; have HIE1 := Lib.hid (size_re hEB1.1); have HZE1 : Hid ((EC En.E.zero).size = (EC x).size) := Lib.hid (by rw [EC_size, EC_size, hEB1.1]; rfl); have HOE1 := Lib.hid (EC_one x)
          have HXX1 : Hid ((rb = true → recE g epoch f = some x) ∧ (rb = false → recE g epoch f = none)) := Lib.hid (by
            rw [← hx1, ← hrb1]; cases recE g epoch f <;> simp)
          have HEC1 : Hid (∀ (W : World) (b : Nat), W.heap[b]? = some (.cells (EC x) 72 (0, 0)) → W.cell? ⟨b, 5, none⟩ = some (.int .i64 x.mate)) := Lib.hid (fun W b hh => (ent_cells hh).2.2.2.2.2); have HKF1 := Lib.hid hf; obtain ⟨CF, hCF1⟩ : ∃ C, fndC f = C := ⟨_, rfl⟩; obtain ⟨CE, hCE1⟩ : ∃ C, EC x = C := ⟨_, rfl⟩; rw [hCF1] at HGF1 HIF1 HIS1 HZF1 HOF1 HRC1; rw [hCE1] at HRC1 HIE1 HZE1 HOE1 HEC1; have HCE1 := Lib.hid hCE1; have HCF1 := Lib.hid hCF1; clear hq1 hEB1 hx1 hrb1 hCF1 hCE1; rw [HEZ.out] at HZE1; rw [HFZ.out] at HZF1; clear hf hab; go_upto_region 15 with (fail); refine wp_region_conf8 12 [Fact.eq (.agg GX), Fact.eq (.int .i64 epoch), Fact.eq (.slice (some ⟨ab, ao, none⟩) n2 c2), Fact.eq (.int .i64 (i : Nat)), Fact.eq (.pointer (some ⟨ab, ao + i * 51, none⟩)), Fact.eq (.agg CF), Fact.eq (.tuple #[.agg CE, .bool rb]), Fact.eq (.tuple #[.agg CE, .bool rb]), Fact.eq (.agg CE), Fact.eq (.bool rb), Fact.eq undef, Fact.eq undef] 10 11 EZ CE 72 ?rcA (by kernel_rfl) (by kernel_rfl) (by kernel_rfl) ?rchA ?rchs ?rcho ?rchend
          case rchA =>
            intro vv; simp only [putRules, Nat.reduceAdd]; rfl
          case rchs =>
            intro j u W gg hj hg hr hp
            match j, hj with
            | 0, _ => exact hp
            | 1, _ => exact hp
            | 2, _ => exact hp
            | 3, _ => exact hp
            | 4, _ => exact hp
            | 5, _ => exact hp
            | 6, _ => exact hp
            | 7, _ => exact hp
            | 8, _ => exact hp
            | 9, _ => exact hp
            | 10, _ => exact hp
            | 11, _ => exact hp
          case rcho =>
            refine ⟨?_, ?_, ?_, ?_, ?_, ?_, ?_, ?_, ?_, ?_, ?_, ?_, trivial⟩
            · intro vv W K hB hd HK; simp only [confRules, conf8Rules, cond7] at HK; clear hd; have hT := (hB.block B zgwr).trans HGwr.out; refine wpList_load_row rfl 47 _ rfl B rfl 47 _ _ _ hT Try.underlying47 rfl HGI.out ?_; refine HK.out _ _ (Below.refl _ _) ?_; rfl
            · intro vv W K hB hd HK; simp only [confRules, conf8Rules, cond7] at HK; clear hd; go_wp2; refine HK.out _ _ (Below.refl _ _) ?_; rfl
            · intro vv W K hB hd HK; simp only [confRules, conf8Rules, cond7] at HK; clear hd; go_wp2; refine HK.out _ _ (Below.refl _ _) ?_; rfl
            · intro vv W K hB hd HK; simp only [confRules, conf8Rules, cond7] at HK; clear hd; go_wp2; refine HK.out _ _ (Below.refl _ _) ?_; rfl
            · intro vv W K hB hd HK; simp only [confRules, conf8Rules, cond7] at hd HK; obtain ⟨h2, h3⟩ := hd; simp only [h2, h3] at HK ⊢; clear h2 h3; go_wp2; refine HK.out _ _ (Below.refl _ _) ?_; rfl
            · intro vv W K hB hd HK; simp only [confRules, conf8Rules, cond7] at hd HK; have h4 := hd; clear hd; simp only [h4] at HK ⊢; clear h4; have hT := (HGF1.out W hB).1; refine wpList_load_mid rfl 61 _ rfl ab (ao + i * 51) rfl CF.toList _ hT Try.underlying61 rfl HIF1.out ?_; refine HK.out _ _ (Below.refl _ _) ?_; rfl
            · intro vv W K hB hd HK; simp only [confRules, conf8Rules, cond7] at hd HK; obtain ⟨h0, h1, h5⟩ := hd; simp only [h0, h1, h5] at HK ⊢; clear h0 h1 h5; go_wp2_with (refine (HRC1.out _).mono ?_; rintro e w9 ⟨rfl, hB9⟩); refine HK.out _ _ hB9 ?_; rfl
            · intro vv W K hB hd HK; simp only [confRules, conf8Rules, cond7] at hd HK; have h6 := hd; clear hd; simp only [h6] at HK ⊢; clear h6; go_wp2; refine HK.out _ _ (Below.refl _ _) ?_; rfl
            · intro vv W K hB hd HK; simp only [confRules, conf8Rules, cond7] at hd HK; have h7 := hd; clear hd; simp only [h7] at HK ⊢; clear h7; go_wp2; refine HK.out _ _ (Below.refl _ _) ?_; rfl
            · intro vv W K hB hd HK; simp only [confRules, conf8Rules, cond7] at hd HK; have h7 := hd; clear hd; simp only [h7] at HK ⊢; clear h7; go_wp2; refine HK.out _ _ (Below.refl _ _) ?_; rfl
            · intro vv W K hB hd HK; simp only [confRules, conf8Rules, cond7] at HK; clear hd; go_wp2; refine HK.out _ _ hB.size ((Below.refl _ _).alloc (Nat.le_refl _) _) (heap_alloc_new _ _)
            · intro vv W K g hB hg hr hp hd HK; simp only [confRules, conf8Rules, cond7] at hd HK; obtain ⟨h8, h6, h0, h1, h2, h3, h4, h5, _, h7, _⟩ := hd; simp only [hp, h8, h6, h0, h1, h2, h3, h4, h5, h7] at HK ⊢; clear h8 h6 h0 h1 h2 h3 h4 h5 h7; go_wp2_with (refine wpList_store_row rfl 72 _ _ rfl g CE rfl rfl 72 EZ hr HIE1.out HZE1.out HOE1.out ?_); refine HK.out _ _ rfl ?_; rfl
          case rchend =>
          intro vv W g10 hB hf e10 l10 r10; have e9 := hf 9 (by decide) (by decide); simp only [conf8Rules] at e9; simp only [e9, e10, dropRules]; clear hf e10 e9; go_upto_region 16 with (fail); obtain ⟨W4, hW4⟩ : ∃ W4, W = W4 := ⟨_, rfl⟩; obtain ⟨gE, hgE⟩ : ∃ b, g10 = b := ⟨_, rfl⟩; rw [hW4, hgE] at r10; rw [hgE] at l10; rw [hW4] at hB; rw [hW4, hgE]; have z4 := hB.size; have HEX := Lib.hid r10; have HB4 := Lib.hid (HBR.out.trans (hB.mono zr)); have zE4 : gE < W4.heap.size := (Array.getElem?_eq_some_iff.1 r10).1; have lE4 : W0.heap.size ≤ gE := by omega
          obtain ⟨x0, x1, x6⟩ := (HGF1.out W4 hB).2; clear hW4 hB r10 x0 x1 hgE; obtain ⟨fs, hfs⟩ : ∃ z, f.fr.seq = z := ⟨_, rfl⟩; rw [hfs] at x6; have HFS := Lib.hid hfs; clear hfs
          have hcase : rb = false ∨ (rb = true ∧ (fs == s) = false) ∨ (rb = true ∧ fs = s) := by
            cases rb
            · exact .inl rfl
            · by_cases h1 : fs = s
              · exact .inr (.inr ⟨rfl, h1⟩)
              · exact .inr (.inl ⟨rfl, by simpa using h1⟩)
          rcases hcase with rfl | ⟨rfl, t1⟩ | ⟨rfl, hfs⟩
          · have HSK : Hid (Inv3 g epoch s l2 (i + 1)) := Lib.hid (HINV.out.skip HKF1.out (pF_none (.inl (HXX1.out.2 rfl)))); go_wp2; exact ⟨⟨i + 1, by omega, by go_num, HB4.out, HSK.out⟩, by simp [intOf]; omega⟩
          · have HSK : Hid (Inv3 g epoch s l2 (i + 1)) := Lib.hid (HINV.out.skip HKF1.out (pF_none (.inr (by rw [HFS.out]; simpa using t1)))); go_wp2; exact ⟨⟨i + 1, by omega, by go_num, HB4.out, HSK.out⟩, by simp [intOf]; omega⟩
          · subst hfs; have HFX : Hid (recE g epoch f = some x) := Lib.hid (HXX1.out.1 rfl); have t0 : (fs == fs) = true := by simp
            go_upto_region 17 with (fail); obtain ⟨W6, hW6⟩ : ∃ W6, W4 = W6 := ⟨_, rfl⟩; rw [hW6]; have hb6 : Below W4.heap.size W4 W6 := by rw [← hW6]; exact Below.refl _ _
            have hgb := HGB.out; have hbl6 := HB4.out.trans (hb6.mono HB4.out.size); have HBL6 := Lib.hid hbl6; have HE6 := Lib.hid ((hb6.block gE (Array.getElem?_eq_some_iff.1 HEX.out).1).trans HEX.out); have H86 := Lib.hid ((hbl6.block r8 (by omega)).trans H80.out); have H96 := Lib.hid ((hbl6.block r9 (by omega)).trans H90.out)
            have HRO : Hid (∀ W, Only [r8] W6 W → W.rangeAt ab (ao + i * 51) CF.toList) := Lib.hid (fun W hO => by
              have h1 := (HI0.out.below hbl6).only hO (fun x e => by cases e; have h2 := HAB.out; have h3 := HBE.out; simp; omega); rw [← HCF1.out]; exact Rl2.rowOf_range h1 kinFnd.size HKF1.out)
            have HCH := Lib.hid (chosen_single HIN1.out HINV.out HKF1.out HFX.out HFS.out); have HLB := Lib.hid (show B ≤ W6.heap.size from by have := hbl6.size; omega); clear hW6 hb6 hbl6; refine wp_region_conf11 [r8] 6 [FactS.eq (.agg CE), FactS.eq (.slice (some ⟨ab, ao, none⟩) n2 c2), FactS.eq (.int .i64 (i : Nat)), FactS.eq (.pointer (some ⟨ab, ao + i * 51, none⟩)), FactS.eq (.agg CF), FactS.eq undef] 5 (fun V => V.heap[r8]? = some (.cells EZ 72 (0, 0))) (fun u V => V.heap[r8]? = some (.cells CE 72 (0, 0))) ?reA (by kernel_rfl) (by kernel_rfl) (by kernel_rfl) ?rehA ?reh0 ?rehb ?rehg ?reho ?rehend
            case rehA =>
              intro vv; simp only [putRules, Nat.reduceAdd]; rfl
            case reh0 =>
              exact H86.out
            case rehb =>
              intro V V' h1 h2; exact (h2.block r8 (Array.getElem?_eq_some_iff.1 h1).1).trans h1
            case rehg =>
              intro u V V' h1 h2; exact (h2.block r8 (Array.getElem?_eq_some_iff.1 h1).1).trans h1
            case reho =>
              refine ⟨?_, ?_, ?_, ?_, ?_, ?_, trivial⟩
              · intro vv W K hO hd HK; simp only [confRules, conf6Rules] at HK; clear hd; refine wpList_load_row rfl 72 _ rfl gE rfl 72 _ _ _ (hO.get HE6.out (by simp; omega)) Try.underlying72 rfl HIE1.out ?_; refine HK.out _ _ (Below.refl _ _) ?_; rfl
              · intro vv W K hO hd HK; simp only [confRules, conf6Rules, cond7] at HK; clear hd; go_wp2; refine HK.out _ _ (Below.refl _ _) ?_; rfl
              · intro vv W K hO hd HK; simp only [confRules, conf6Rules, cond7] at HK; clear hd; go_wp2; refine HK.out _ _ (Below.refl _ _) ?_; rfl
              · intro vv W K hO hd HK; simp only [confRules, conf6Rules, cond7] at hd HK; obtain ⟨h1, h2⟩ := hd; simp only [h1, h2] at HK ⊢; clear h1 h2; go_wp2; refine HK.out _ _ (Below.refl _ _) ?_; rfl
              · intro vv W K hO hd HK; simp only [confRules, conf6Rules, cond7] at hd HK; have h3 := hd; clear hd; simp only [h3] at HK ⊢; clear h3; refine wpList_load_mid rfl 61 _ rfl ab (ao + i * 51) rfl CF.toList _ (HRO.out W hO) Try.underlying61 rfl HIF1.out ?_; refine HK.out _ _ (Below.refl _ _) ?_; rfl
              · intro vv W K hO hI hd HK; simp only [confRules, conf6Rules, cond7] at hd HK; obtain ⟨h0, _⟩ := hd; simp only [h0] at HK ⊢; clear h0; go_wp2_with (refine wpList_store_row rfl 72 _ _ rfl r8 CE rfl rfl 72 EZ hI HIE1.out HZE1.out HOE1.out ?_); refine HK.out undef _ (only_set1 _ _ _) ?_; exact setRow_heap _ _ _ _ _ _ hI
            case rehend =>
            intro vv W hO hf hG; have e4 := hf 4 (by decide) (by rfl); simp only [confRules, conf6Rules] at e4; simp only [e4, dropRules]; clear hf e4; obtain ⟨W7, hW7⟩ : ∃ W7, W = W7 := ⟨_, rfl⟩; rw [hW7] at hO hG ⊢; have hb7 : Below B w W7 := HB0.out.trans ((HBL6.out.mono HLZ.out).trans (hO.below (by simp; omega) HLB.out)); have HLB7 : Hid (B ≤ W7.heap.size) := Lib.hid (by have h1 := hO.size; have h2 := HLB.out; omega); have h97 := hO.get H96.out (by simp; omega); have HG7 := Lib.hid hG; have HB7 := Lib.hid hb7; have H97 := Lib.hid h97; clear hW7 hO hG hb7 h97; go_wp2_with (refine wpList_store_row rfl 61 _ _ rfl r9 CF rfl rfl 61 FZ H97.out HIS1.out HZF1.out HOF1.out ?_); have h98 := setRow_heap W7 r9 FZ CF _ _ H97.out; have h88 := (setRow_other W7 r9 r8 CF (by omega)).trans HG7.out; refine bodyPost_ret (res_row2 rfl _ _ r8 r9 72 61 CE CF _ _ _ _ rfl h88 Try.underlying72 rfl HIE1.out rfl h98 Try.underlying61 rfl HIS1.out) rfl ?_; exact ⟨x, f, true, true, by rw [HCE1.out, HCF1.out]; rfl, HCH.out, by rw [HBE.out]; exact HB7.out.trans ((only_set1 W7 r9 CF).below (B := B) (by simp; omega) HLB7.out)⟩
        · have HIN3 : Hid (ChosenAt g epoch s l2 En.E.zero fnd0 false false) := Lib.hid (chosen_none (by have h1 := HINV.out; rw [show i = l2.length from by rw [HN2.out]; omega] at h1; exact h1)); have hin : i = n2 := by omega
          rw [hin]; have hgb := HGB.out; have HR8 := Lib.hid ((HBR.out.block r8 (by omega)).trans H80.out); have HR9 := Lib.hid ((HBR.out.block r9 (by omega)).trans H90.out); have HBF : Hid (Below w.heap.size w wr) := Lib.hid (by rw [HBE.out]; exact HB0.out.trans (HBR.out.mono HLZ.out)); go_wp2_with (first | (refine wpList_build_on (by rfl) 72 _ rfl #[] (by simp) _ HBZ4.out ?_) | (refine wpList_build_on (by rfl) 61 _ rfl #[] (by simp) _ HBZF.out ?_) | (refine wpList_store_row rfl 72 _ _ rfl r8 EZ rfl rfl 72 EZ HR8.out HIZ4.out rfl HOZ4.out ?_; rw [setRow_self _ _ _ _ _ HR8.out]) | (refine wpList_store_row rfl 61 _ _ rfl r9 FZ rfl rfl 61 FZ HR9.out HIZF.out rfl HOZF.out ?_; rw [setRow_self _ _ _ _ _ HR9.out])); refine bodyPost_ret (res_row2 rfl _ _ r8 r9 72 61 EZ FZ _ _ _ _ rfl HR8.out Try.underlying72 rfl HIZ4.out rfl HR9.out Try.underlying61 rfl HIZF.out) rfl ?_; exact ⟨En.E.zero, fnd0, false, false, by rw [HEZ.out, HFZ.out]; rfl, HIN3.out, HBF.out⟩
end Go.Proofs.Ytoiephmngdecaaa
