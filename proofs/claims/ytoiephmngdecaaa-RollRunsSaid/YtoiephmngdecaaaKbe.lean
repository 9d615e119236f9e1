/- Proved here: a group is whole (the document's whole); small laws for the document's Run: its result in memory, its way number by number. -/
import Derived.LoopTactic
import Derived.Test.YtoiephmngdecaaaKbd
namespace Go.Proofs.Ytoiephmngdecaaa
open Go.RowKit Go.Rv Rl Frm
set_option linter.unusedVariables false
attribute [local go_sem] Oper.semAt_some
namespace Rl
theorem ChosenAt.q {g : Geo.G} {epoch s : Int} {l : List Fnd} {e : En.E} {f : Fnd} {b k : Bool} (h : ChosenAt g epoch s l e f b k) (hl : ∀ f ∈ l, FndQ f) : EBody e ∧ FndQ f := by
  rcases h with ⟨-, h1, h2, -⟩ | ⟨-, -, rfl, rfl, -⟩
  · have hq := hl f h1; have hb := recE_body g epoch hq; rw [h2] at hb; exact ⟨hb, hq⟩
  · exact ⟨zero_ebody, fnd0_q⟩
theorem ChosenAt.at {g : Geo.G} {epoch s : Int} {l : List Fnd} {e : En.E} {f : Fnd} {b : Bool} (h : ChosenAt g epoch s l e f b true) : cAt g epoch l s = ⟨⟨e, f.zone, f.off⟩, b⟩ ∧ atS g epoch s l ≠ [] := by
  rcases h with ⟨-, -, -, -, h1, h2⟩ | ⟨h, -⟩
  · exact ⟨h1, h2⟩
  · cases h
theorem ChosenAt.no {g : Geo.G} {epoch s : Int} {l : List Fnd} {e : En.E} {f : Fnd} {b : Bool} (h : ChosenAt g epoch s l e f b false) : atS g epoch s l = [] := by
  rcases h with ⟨h, -⟩ | ⟨-, -, -, -, h1⟩
  · cases h
  · exact h1
end Rl
/-- both rows that a choice is laid in -/
theorem two_rows (w : World) (EZ FZ CE CF : Array Value) : ∃ X1 X2, ((w.alloc (.cells EZ 72)).alloc (.cells FZ 61)).setRow w.heap.size CE = X1 ∧ X1.setRow (w.heap.size + 1) CF = X2 ∧ ((w.alloc (.cells EZ 72)).alloc (.cells FZ 61)).heap[w.heap.size]? = some (.cells EZ 72 (0, 0)) ∧ X1.heap[w.heap.size + 1]? = some (.cells FZ 61 (0, 0)) ∧
    X2.heap[w.heap.size]? = some (.cells CE 72 (0, 0)) ∧ X2.heap[w.heap.size + 1]? = some (.cells CF 61 (0, 0)) ∧ Below w.heap.size w X2 := by
  have h1 : ((w.alloc (.cells EZ 72)).alloc (.cells FZ 61)).heap[w.heap.size]? = some (.cells EZ 72 (0, 0)) := (alloc_old _ _ (by simp)).trans (alloc_new _ _ rfl); have h2 : ((w.alloc (.cells EZ 72)).alloc (.cells FZ 61)).heap[w.heap.size + 1]? = some (.cells FZ 61 (0, 0)) := alloc_new _ _ (by simp); have h3 := setRow_heap _ _ _ CE _ _ h1; have h4 := (setRow_other ((w.alloc (.cells EZ 72)).alloc (.cells FZ 61)) w.heap.size (w.heap.size + 1) CE (by omega)).trans h2; refine ⟨_, _, rfl, rfl, h1, h4, (setRow_other _ _ _ _ (by omega)).trans h3, setRow_heap _ _ _ CF _ _ h4, ?_⟩; have hb := ((Below.refl w.heap.size w).alloc (Nat.le_refl _) (.cells EZ 72)).alloc (by simp) (.cells FZ 61); exact below_setRow (below_setRow hb (by simp) _) (by simp) _
/-- what whole tells -/
def WhPost (w0 : World) (g : Geo.G) (epoch : Int) (l : List Fnd) (fr up : Int) (y : Ending) (w' : World) : Prop := ∃ b, y = .returned (.bool b) ∧ (b = true ↔ AllGood g epoch l fr up) ∧ Below w0.heap.size w0 w'
set_option maxRecDepth 100000 in
set_option maxHeartbeats 64000000 in
theorem whole_any (g : Geo.G) (hg : Geo.right g = true) (epoch fr up : Int) (a2 : Option Addr) (l2 : List Fnd) (c2 : Nat) (w : World) (hI2 : RowOf w 51 fndC FndQ a2 l2) (hn : l2.length ≤ 1000) (hft : 0 ≤ fr ∧ fr ≤ up ∧ up ≤ 1125899906842624) :
    Calls Try.prog 37 #[.agg (GC g), .int .i64 epoch, .int .i64 fr, .int .i64 up, .slice a2 l2.length c2] w (WhPost w g epoch l2 fr up) := by
  have HGI : Hid ((Try.prog.info? 47).map (·.size) = some (GC g).size) := Lib.hid (by rw [GC_size]; exact (zero_of_info Try.infoG5).2); have hz72 := (zero_of_info Try.infoRE).1; have hz61 := (zero_of_info Try.infoF16).1; have HQ : Hid (∀ f ∈ l2, FndQ f) := Lib.hid hI2.all; have HCH : Hid (∀ W s, Below w.heap.size w W → Calls Try.prog 34 #[.agg (GC g), .int .i64 epoch, .int .i64 s, .slice a2 l2.length c2] W (ChPost W.heap.size W g epoch s l2)) := Lib.hid (fun W s hW => chosen_any g hg epoch s a2 l2 c2 W (hI2.below hW) hn); obtain ⟨GX, hGX⟩ : ∃ X, GC g = X := ⟨_, rfl⟩; rw [hGX] at HGI HCH ⊢; obtain ⟨EZ, hEZ⟩ : ∃ Z, EC En.E.zero = Z := ⟨_, rfl⟩; rw [hEZ] at hz72; obtain ⟨FZ, hFZ⟩ : ∃ Z, fndC fnd0 = Z := ⟨_, rfl⟩; rw [hFZ] at hz61; obtain ⟨n2, hn2⟩ : ∃ n, l2.length = n := ⟨_, rfl⟩; rw [hn2] at HCH ⊢; obtain ⟨W0, hW0⟩ : ∃ W, w.alloc (.cells GX 47) = W := ⟨_, rfl⟩; have hb0 : Below w.heap.size w W0 := by rw [← hW0]; exact (Below.refl _ _).alloc (Nat.le_refl _) _
  have hg0 : W0.heap[w.heap.size]? = some (.cells GX 47 (0, 0)) := by rw [← hW0]; exact heap_alloc_new w _
  have zg0 : w.heap.size < W0.heap.size := (Array.getElem?_eq_some_iff.1 hg0).1; have HW0 := Lib.hid hW0; have HG0 := Lib.hid hg0; have HB0 := Lib.hid hb0; have HEZ := Lib.hid hEZ; have HFZ := Lib.hid hFZ; clear hGX hEZ hFZ hn2 hW0 hg0 hb0 hI2 hg; obtain ⟨N, hN⟩ : ∃ N : Nat, up + 1 = fr + (N : Nat) := ⟨(up + 1 - fr).toNat, by omega⟩; have HN := Lib.hid hN; have hNb : N ≤ 1125899906842625 := by omega
  have HFT := Lib.hid hft; go_enter Try.func37, Try.ntmps37; go_upto_region 1 with (fail); rw [HW0.out]; clear hN; go_upto_region 3 with (fail); go_loopw [11, 12] (fun x u wr => ∃ (j : Nat) (c : Int), j ≤ N ∧ u = .int .i64 (fr + (j : Nat)) ∧ x = .int .i64 c ∧ (0 < j → c = (cAt g epoch l2 fr).r.e.count) ∧ (∀ i : Nat, i < j → GoodAt g epoch l2 fr (fr + (i : Nat))) ∧ Below W0.heap.size W0 wr) (fun _ u _ => (up + 1 - intOf u).toNat)
  case atStart => exact ⟨0, 0, Nat.zero_le _, by simp, rfl, fun h => by omega, fun i hi => by omega, Below.refl _ _⟩
  case round =>
    obtain ⟨j, c, hj, rfl, rfl, hc, hgood, hBr⟩ := hrel; have zr := hBr.size; have HBR := Lib.hid hBr; have HC := Lib.hid hc; have HGD := Lib.hid hgood; have HGr := Lib.hid ((hBr.block w.heap.size zg0).trans HG0.out); have HBW := Lib.hid (HB0.out.trans (hBr.mono HB0.out.size)); clear hBr hc hgood; obtain ⟨q, hq⟩ : ∃ q, fr + (j : Int) = q := ⟨_, rfl⟩; rw [hq]; have HQE := Lib.hid hq; have hqb : 0 ≤ q ∧ q ≤ 2251799813685250 := by omega
    by_cases hlt : j < N
    · have hle : q ≤ up := by have := HN.out; omega
      clear hq; go_upto_region 5 with (fail); go_wp2_with (refine wpList_load_row rfl 47 _ rfl w.heap.size rfl 47 _ _ _ HGr.out Try.underlying47 rfl HGI.out ?_); refine (HCH.out _ q HBW.out).mono ?_; rintro y w3 ⟨e, f, b, k, rfl, hca, hB3⟩; have z3 := hB3.size; obtain ⟨heb, hfq⟩ := hca.q HQ.out; have HIE := Lib.hid (size_re heb.1); have HZE : Hid (EZ.size = (EC e).size) := Lib.hid (by rw [← HEZ.out, EC_size, EC_size, heb.1]; rfl); have HOE := Lib.hid (EC_one e); have HIF := Lib.hid (size_f16 hfq); have HZF : Hid (FZ.size = (fndC f).size) := Lib.hid (by rw [← HFZ.out, kinFnd.size f hfq]; rfl); have HOF := Lib.hid (kinFnd.one f hfq); have HEC : Hid (∀ (W : World) (b : Nat), W.heap[b]? = some (.cells (EC e) 72 (0, 0)) → W.cell? ⟨b, 0, none⟩ = some (.int .i64 e.kind) ∧ W.cell? ⟨b, 1, none⟩ = some (.int .i64 e.first) ∧ W.cell? ⟨b, 2, none⟩ = some (.int .i64 e.count)) := Lib.hid (fun W b h => ⟨(ent_cells h).1, (ent_cells h).2.1, (ent_cells h).2.2.1⟩); have HCA := Lib.hid hca; obtain ⟨CE, hCE⟩ : ∃ C, EC e = C := ⟨_, rfl⟩; obtain ⟨CF, hCF⟩ : ∃ C, fndC f = C := ⟨_, rfl⟩; rw [hCE] at HIE HZE HOE HEC ⊢; rw [hCF] at HIF HZF HOF ⊢; obtain ⟨X1, X2, e1, e2, h1, h2, h3, h4, hb4⟩ := two_rows w3 EZ FZ CE CF; have HX1 := Lib.hid e1; have HX2 := Lib.hid e2; have HR1 := Lib.hid h1; have HR2 := Lib.hid h2; obtain ⟨y0, y1, y2⟩ := HEC.out X2 _ h3; have HB4 := Lib.hid (HBR.out.trans ((hB3.trans (hb4.mono z3)).mono zr)); clear e1 e2 h1 h2 h3 h4 hb4 hca heb hfq hCE hCF hB3; go_upto_region 6 with (first | (refine wpList_store_row rfl 72 _ _ rfl w3.heap.size CE rfl rfl 72 EZ HR1.out HIE.out HZE.out HOE.out ?_; rw [HX1.out]) | (refine wpList_store_row rfl 61 _ _ rfl (w3.heap.size + 1) CF rfl rfl 61 FZ HR2.out HIF.out HZF.out HOF.out ?_; rw [HX2.out])); obtain ⟨ek, hek⟩ : ∃ z, e.kind = z := ⟨_, rfl⟩; obtain ⟨ef, hef⟩ : ∃ z, e.first = z := ⟨_, rfl⟩; obtain ⟨ec, hec⟩ : ∃ z, e.count = z := ⟨_, rfl⟩; rw [hek] at y0; rw [hef] at y1; rw [hec] at y2; have HNM := Lib.hid (And.intro hek (And.intro hef hec)); clear hek hef hec; obtain ⟨c1, hc1⟩ : ∃ c1, (if q = fr then ec else c) = c1 := ⟨_, rfl⟩; have HC1 := Lib.hid hc1
      have HCC : Hid (k = true → c1 = (cAt g epoch l2 fr).r.e.count) := Lib.hid (fun hk => by
        rw [← HC1.out]; by_cases h0 : q = fr
        · rw [if_pos h0]; subst hk; rw [← h0, HCA.out.at.1]; exact HNM.out.2.2.symm
        · rw [if_neg h0]; exact HC.out (by have := HQE.out; omega))
      have HYES : Hid (k = true → ek = 1 → ef = fr → ec = c1 → ∀ i : Nat, i < j + 1 → GoodAt g epoch l2 fr (fr + (i : Nat))) := Lib.hid (fun hk h1 h2 h3 i hi => by
        by_cases hij : i = j
        · subst hij; have h4 := HCC.out hk; subst hk; rw [HQE.out]; refine ⟨HCA.out.at.2, ?_, ?_, ?_⟩
          · rw [HCA.out.at.1]; simp only; rw [HNM.out.1, h1]
          · rw [HCA.out.at.1]; simp only; rw [HNM.out.2.1, h2]
          · rw [HCA.out.at.1]; simp only; rw [HNM.out.2.2, h3, h4]
        · exact HGD.out i (by omega))
      have HNOT : Hid ((k = false ∨ ek ≠ 1 ∨ ef ≠ fr ∨ ec ≠ c1) → ¬ AllGood g epoch l2 fr up) := Lib.hid (fun hh hall => by
        have hqq := HQE.out; have hgq := hall q (by omega) hle; cases hk : k
        · subst hk; exact hgq.1 HCA.out.no
        · have h4 := HCC.out hk; rw [hk] at hh; subst hk; obtain ⟨-, g1, g2, g3⟩ := hgq; rw [HCA.out.at.1] at g1 g2 g3; simp only at g1 g2 g3; rw [HNM.out.1] at g1; rw [HNM.out.2.1] at g2; rw [HNM.out.2.2, ← h4] at g3; rcases hh with hh | hh | hh | hh
          · cases hh
          · exact hh g1
          · exact hh g2
          · exact hh g3)
      have HBF := Lib.hid (HB0.out.trans (HB4.out.mono HB0.out.size))
      have hcase : k = false ∨ (k = true ∧ (ek != 1) = true) ∨ (k = true ∧ (ek != 1) = false ∧ (ef != fr) = true) ∨ (k = true ∧ (ek != 1) = false ∧ (ef != fr) = false ∧ (ec != c1) = true) ∨ (k = true ∧ (ek != 1) = false ∧ (ef != fr) = false ∧ (ec != c1) = false) := by
        cases k <;> cases (ek != 1) <;> cases (ef != fr) <;> cases (ec != c1) <;> simp
      by_cases h0 : q = fr
      · rw [if_pos h0] at hc1; have t0 : (q == fr) = true := by simpa using h0
        have HT := Lib.hid h0; clear h0; subst hc1; go_upto_region 8 with (fail); clear t0; rcases hcase with rfl | ⟨rfl, t1⟩ | ⟨rfl, t1, t2⟩ | ⟨rfl, t1, t2, t3⟩ | ⟨rfl, t1, t2, t3⟩
        · have HNN := Lib.hid (HNOT.out (.inl rfl)); go_wp2; go_ret; exact ⟨false, rfl, ⟨fun h => (by cases h), fun h => (HNN.out h).elim⟩, HBF.out⟩
        · have HNN := Lib.hid (HNOT.out (.inr (.inl (by simpa using t1)))); go_wp2; go_ret; exact ⟨false, rfl, ⟨fun h => (by cases h), fun h => (HNN.out h).elim⟩, HBF.out⟩
        · have HNN := Lib.hid (HNOT.out (.inr (.inr (.inl (by simpa using t2))))); go_wp2; go_ret; exact ⟨false, rfl, ⟨fun h => (by cases h), fun h => (HNN.out h).elim⟩, HBF.out⟩
        · first
          | (exfalso; simp at t3; done)
          | (have HNN := Lib.hid (HNOT.out (.inr (.inr (.inr (by simpa using t3)))))
             go_wp2; go_ret; exact ⟨false, rfl, ⟨fun h => (by cases h), fun h => (HNN.out h).elim⟩, HBF.out⟩)
        · have HYS := Lib.hid (HYES.out rfl (by simpa using t1) (by simpa using t2) (by simp at t3 ⊢; try exact t3)); have HCF := Lib.hid (HCC.out rfl); go_wp2; have hqq := HQE.out; refine ⟨⟨j + 1, _, by omega, by rw [show fr + ((j + 1 : Nat) : Int) = q + 1 by omega], rfl, fun _ => HCF.out, HYS.out, HB4.out⟩, ?_⟩
          simp [intOf]; omega
      · rw [if_neg h0] at hc1; have t0 : (q == fr) = false := by simpa using h0
        have HT := Lib.hid h0; clear h0; subst hc1; go_upto_region 8 with (fail); clear t0; rcases hcase with rfl | ⟨rfl, t1⟩ | ⟨rfl, t1, t2⟩ | ⟨rfl, t1, t2, t3⟩ | ⟨rfl, t1, t2, t3⟩
        · have HNN := Lib.hid (HNOT.out (.inl rfl)); go_wp2; go_ret; exact ⟨false, rfl, ⟨fun h => (by cases h), fun h => (HNN.out h).elim⟩, HBF.out⟩
        · have HNN := Lib.hid (HNOT.out (.inr (.inl (by simpa using t1)))); go_wp2; go_ret; exact ⟨false, rfl, ⟨fun h => (by cases h), fun h => (HNN.out h).elim⟩, HBF.out⟩
        · have HNN := Lib.hid (HNOT.out (.inr (.inr (.inl (by simpa using t2))))); go_wp2; go_ret; exact ⟨false, rfl, ⟨fun h => (by cases h), fun h => (HNN.out h).elim⟩, HBF.out⟩
        · first
          | (exfalso; simp at t3; done)
          | (have HNN := Lib.hid (HNOT.out (.inr (.inr (.inr (by simpa using t3)))))
             go_wp2; go_ret; exact ⟨false, rfl, ⟨fun h => (by cases h), fun h => (HNN.out h).elim⟩, HBF.out⟩)
        · have HYS := Lib.hid (HYES.out rfl (by simpa using t1) (by simpa using t2) (by simp at t3 ⊢; try exact t3)); have HCF := Lib.hid (HCC.out rfl); go_wp2; have hqq := HQE.out; refine ⟨⟨j + 1, _, by omega, by rw [show fr + ((j + 1 : Nat) : Int) = q + 1 by omega], rfl, fun _ => HCF.out, HYS.out, HB4.out⟩, ?_⟩
          simp [intOf]; omega
    · have hjn : j = N := by omega
      have hnl : ¬ q ≤ up := by have := HN.out; omega
      have HAG : Hid (AllGood g epoch l2 fr up) := Lib.hid (fun q' h1 h2 => by
        have := HGD.out (q' - fr).toNat (by have := HN.out; omega)
        rwa [show fr + ((q' - fr).toNat : Nat) = q' by omega] at this)
      clear hq; go_wp2; go_ret; exact ⟨true, rfl, ⟨fun _ => HAG.out, fun _ => rfl⟩, HBW.out⟩
end Go.Proofs.Ytoiephmngdecaaa
namespace Go.Proofs.Ytoiephmngdecaaa
open Go.RowKit Go.Rv Rl Frm
set_option linter.unusedVariables false
namespace Rl
/-- what a number does, as the document has it -/
def StepCase (g : Geo.G) (epoch : Int) (l : List Fnd) (st st' : St) (s fr : Int) (e : En.E) (zn fo : Int) (b : Bool) : Prop :=
  (e.kind = 2 ∧ st'.es = nonI BE.zero e.block e.many 0 st.es ∧ st'.single = nonI 0 e.block e.many 0 st.single ∧ st'.applied = st.applied + 1 ∧ FromOk g epoch l st' (s + 1) (-1)) ∨
  (e.kind = 3 ∧ st'.es = st.es.set e.block.toNat (beOf s ⟨⟨e, zn, fo⟩, b⟩) ∧ st'.single = st.single.set e.block.toNat (if b = true then 1 else 0) ∧ st'.applied = st.applied + 1 ∧ FromOk g epoch l st' (s + 1) (-1)) ∨
  (e.kind = 1 ∧ ∃ fr1, fr1 = (if e.first = s then s else fr) ∧
    ((fr1 = -1 ∧ FromOk g epoch l st' (s + 1) (-1) ∧ st'.es = st.es ∧ st'.single = st.single ∧ st'.applied = st.applied) ∨
    (0 ≤ fr1 ∧ ¬ AllGood g epoch l fr1 s ∧ FromOk g epoch l st' (s + 1) (-1) ∧ st'.es = st.es ∧ st'.single = st.single ∧ st'.applied = st.applied) ∨
    (0 ≤ fr1 ∧ fr1 ≤ s ∧ AllGood g epoch l fr1 s ∧ s ≠ fr1 + e.count - 1 ∧ FromOk g epoch l st' (s + 1) fr1 ∧ st'.es = st.es ∧ st'.single = st.single ∧ st'.applied = st.applied) ∨
    (0 ≤ fr1 ∧ fr1 ≤ s ∧ AllGood g epoch l fr1 s ∧ s = fr1 + e.count - 1 ∧ FromOk g epoch l st' (s + 1) (-1) ∧ st'.applied = st.applied + 1 ∧
      ∃ L : List Ch, fr1 + (L.length : Nat) = s + 1 ∧ (∀ i : Nat, i < L.length → L[i]? = some (cAt g epoch l (fr1 + (i : Nat)))) ∧ st'.es = (lieAll g fr1 L 0 st).es ∧ st'.single = (lieAll g fr1 L 0 st).single)))
theorem step_case {g : Geo.G} {epoch : Int} {l : List Fnd} {st : St} {s fr : Int} (hF : FromOk g epoch l st s fr) (hs : 0 ≤ s) (hne : atS g epoch s l ≠ []) {e : En.E} {zn fo : Int} {b : Bool} (hc : cAt g epoch l s = ⟨⟨e, zn, fo⟩, b⟩) (hok : ChOk g s ⟨⟨e, zn, fo⟩, b⟩) (hl : (st.es.length : Int) = g.b) (hl2 : st.single.length = st.es.length) :
    StepCase g epoch l st (step g st s (cAt g epoch l s)) s fr e zn fo b := by
  have hkd : e.kind = 1 ∨ e.kind = 2 ∨ e.kind = 3 := hok.kd; have hb : 0 ≤ e.block ∧ e.block < g.b := hok.ok.b; have hm : 0 ≤ e.many ∧ e.block + e.many ≤ g.b := hok.ok.m; have hct : 1 ≤ e.count ∧ e.count ≤ 4 := hok.ct; unfold step; rcases hkd with hk | hk | hk
  · right; right; rw [if_pos (show (cAt g epoch l s).r.e.kind = 1 by rw [hc]; exact hk)]; obtain ⟨fr1, hfr1⟩ : ∃ x, (if e.first = s then s else fr) = x := ⟨_, rfl⟩; have hd := data_step (g := g) hF hs hne (by rw [hc]; exact hk) (by rw [hc]; exact hct.1) fr1 (by rw [hc]; exact hfr1.symm); rw [hc] at hd ⊢; exact ⟨hk, fr1, hfr1.symm, hd⟩
  · left; rw [if_neg (show ¬ (cAt g epoch l s).r.e.kind = 1 by rw [hc]; show ¬ e.kind = 1; omega), hc]; unfold other; simp only; rw [if_neg (show ¬ e.kind = 3 by omega)]; obtain ⟨nb, hnb⟩ : ∃ n : Nat, e.block = (n : Nat) := ⟨e.block.toNat, by omega⟩; obtain ⟨nm, hnm⟩ : ∃ n : Nat, e.many = (n : Nat) := ⟨e.many.toNat, by omega⟩; rw [hnb, hnm, show ((nm : Nat) : Int).toNat = nm by omega]; obtain ⟨h1, h2, h3, h4, h5, h6⟩ := trim_is g nm nb { shut st with applied := st.applied + 1 } (by simp only [shut]; omega) hl2; exact ⟨hk, h1, h2, h3, .inl ⟨rfl, h6, h4, h5⟩⟩
  · right; left; rw [if_neg (show ¬ (cAt g epoch l s).r.e.kind = 1 by rw [hc]; show ¬ e.kind = 1; omega), hc]; unfold other; simp only; rw [if_pos (show e.kind = 3 from hk)]; refine ⟨hk, ?_, rfl, rfl, .inl ⟨rfl, rfl, rfl, rfl⟩⟩; exact lie_es hok hl
theorem step_lens {g : Geo.G} {st : St} {s : Int} {c : Ch} : (step g st s c).es.length = st.es.length ∧ (step g st s c).single.length = st.single.length := by
  have hop : ∀ st : St, ∀ e, (opened st s e).es = st.es ∧ (opened st s e).single = st.single := fun st e => by unfold opened; split <;> exact ⟨rfl, rfl⟩
  unfold step; split
  · unfold data; simp only; obtain ⟨h1, h2⟩ := hop st c.r.e; split
    · exact ⟨by rw [← h1]; rfl, by rw [← h2]; rfl⟩
    · split
      · exact ⟨by rw [← h1], by rw [← h2]⟩
      · obtain ⟨h3, h4⟩ := lieAll_len g (opened st s c.r.e).first ((opened st s c.r.e).ol ++ [c]) 0 (opened st s c.r.e); exact ⟨by rw [← h1]; exact h3, by rw [← h2]; exact h4⟩
  · unfold other; simp only; split
    · exact lie_len g _ s c
    · exact trim_len g _ _ _
theorem after_lens (g : Geo.G) (R : List (Int × Rec)) (next : Int) (st : St) : ∀ k, (after g R next st k).es.length = st.es.length ∧ (after g R next st k).single.length = st.single.length
  | 0 => ⟨rfl, rfl⟩
  | k + 1 => by
    have ih := after_lens g R next st k; unfold after; have h1 := step_lens (g := g) (st := after g R next st k) (s := next + (k : Nat)) (c := choose (atSeq R (next + (k : Nat)))); exact ⟨h1.1.trans ih.1, h1.2.trans ih.2⟩
end Rl
/-- the document's result in memory: C are its cells, in the block b11 -/
structure RunC (W2 W : World) (b10 b11 n : Nat) (L : List BE) (Sg : List Int) (nx ap : Int) (C : Array Value) : Prop where
  parts : ∃ aL cL aS cS, C = rrC (.slice aL n cL) nx ap (.slice aS n cS) ∧ RowOf W 6 BEC (fun _ => True) aL L ∧ RowOf W 1 iC (fun _ => True) aS Sg ∧ (aL = none → cL = 0) ∧ (aS = none → cS = 0) ∧ (∀ x, aL = some x → x.block ≠ b11 ∧ x.block ≠ b10) ∧ (∀ x, aS = some x → x.block ≠ b11 ∧ x.block ≠ b10)
  row : W.heap[b11]? = some (.cells C 45 (0, 0))
  res : W.heap[b10]? = some (.cells RRZ 45 (0, 0))
  len : L.length = n ∧ Sg.length = n
  old : Only [b11] W2 W
theorem RunC.size {W2 W : World} {b10 b11 n : Nat} {L : List BE} {Sg : List Int} {nx ap : Int} {C : Array Value} (h : RunC W2 W b10 b11 n L Sg nx ap C) : (Try.prog.info? 45).map (·.size) = some C.size ∧ RRZ.size = C.size ∧ C.all (·.oneCell') = true := by
  obtain ⟨aL, cL, aS, cS, rfl, -⟩ := h.parts; exact ⟨rr_size _ _ _ _, rfl, rr_one _ _ _ _ _ _ _ _⟩
theorem RunC.cells {W2 W : World} {b10 b11 n : Nat} {L : List BE} {Sg : List Int} {nx ap : Int} {C : Array Value} (h : RunC W2 W b10 b11 n L Sg nx ap C) : W.cell? ⟨b11, 1, none⟩ = some (.int .i64 nx) ∧ W.cell? ⟨b11, 2, none⟩ = some (.int .i64 ap) ∧ W.frozen? ⟨b11, 1, none⟩ = false ∧ W.frozen? ⟨b11, 2, none⟩ = false := by
  obtain ⟨aL, cL, aS, cS, rfl, -⟩ := h.parts; have h1 := h.row; exact ⟨(rr_cells h1).2.1, (rr_cells h1).2.2.1, frozen_of_row _ _ _ _ _ h1, frozen_of_row _ _ _ _ _ h1⟩
theorem RunC.below {W2 W W' : World} {b10 b11 n : Nat} {L : List BE} {Sg : List Int} {nx ap : Int} {C : Array Value} (h : RunC W2 W b10 b11 n L Sg nx ap C) (hb : Below W.heap.size W W') : RunC W2 W' b10 b11 n L Sg nx ap C := by
  obtain ⟨aL, cL, aS, cS, e, h1, h2, h3⟩ := h.parts; exact ⟨⟨aL, cL, aS, cS, e, h1.below hb, h2.below hb, h3⟩, (hb.block b11 (Array.getElem?_eq_some_iff.1 h.row).1).trans h.row, (hb.block b10 (Array.getElem?_eq_some_iff.1 h.res).1).trans h.res, h.len, h.old.trans (Only.of_below hb)⟩
/-- another number, another count -/
theorem RunC.setCell {W2 W : World} {b10 b11 n : Nat} {L : List BE} {Sg : List Int} {nx ap : Int} {C : Array Value} (h : RunC W2 W b10 b11 n L Sg nx ap C) (hne : b10 ≠ b11) : (∀ u : Int, ∃ C', RunC W2 (W.setCell ⟨b11, 1, none⟩ (.int .i64 u)) b10 b11 n L Sg u ap C') ∧ (∀ u : Int, ∃ C', RunC W2 (W.setCell ⟨b11, 2, none⟩ (.int .i64 u)) b10 b11 n L Sg nx u C') := by
  obtain ⟨aL, cL, aS, cS, rfl, h1, h2, h3, h4, h5, h6⟩ := h.parts; have key : ∀ (j : Nat) (u : Value), Only [b11] W (W.setCell ⟨b11, j, none⟩ u) := fun j u => (Only.refl _ _).setCell (.inl (by simp)) _
  refine ⟨fun u => ⟨_, ⟨aL, cL, aS, cS, rfl, h1.only (key 1 _) (fun x e => by simp [(h5 x e).1]), h2.only (key 1 _) (fun x e => by simp [(h6 x e).1]), h3, h4, h5, h6⟩, rr_setN h.row u, (key 1 _).get h.res (by simp [hne]), h.len, h.old.trans (key 1 _)⟩,
    fun u => ⟨_, ⟨aL, cL, aS, cS, rfl, h1.only (key 2 _) (fun x e => by simp [(h5 x e).1]), h2.only (key 2 _) (fun x e => by simp [(h6 x e).1]), h3, h4, h5, h6⟩, rr_setA h.row u, (key 2 _).get h.res (by simp [hne]), h.len, h.old.trans (key 2 _)⟩⟩
/-- another result -/
theorem RunC.set {W2 W w' : World} {b10 b11 n : Nat} {L : List BE} {Sg : List Int} {nx ap : Int} {C : Array Value} (h : RunC W2 W b10 b11 n L Sg nx ap C) (hne : b10 ≠ b11) {B : Nat} (hB : b10 < B ∧ b11 < B) {L' : List BE} {Sg' : List Int} {vL vS : Value} (hb : Below W.heap.size W w')
    (hL : OwnM w' 55 6 BEC (fun _ => True) B vL L') (hS : OwnM w' 3 1 iC (fun _ => True) B vS Sg') (hl : L'.length = n ∧ Sg'.length = n) : RunC W2 (w'.setRow b11 (rrC vL nx ap vS)) b10 b11 n L' Sg' nx ap (rrC vL nx ap vS) := by
  have h' := h.below hb; obtain ⟨aL, cL, rfl, h1, h3, -, -, h5⟩ := hL.shape kinR; obtain ⟨aS, cS, rfl, h2, h4, -, -, h6⟩ := hS.shape kinI; have hO := only_set1 w' b11 (rrC (.slice aL L'.length cL) nx ap (.slice aS Sg'.length cS)); refine ⟨⟨aL, cL, aS, cS, by rw [hl.1, hl.2], h1.only hO (fun x e => by have := (h5 x e).1; simp; omega), h2.only hO (fun x e => by have := (h6 x e).1; simp; omega), h3, h4, fun x e => by have := (h5 x e).1; omega, fun x e => by have := (h6 x e).1; omega⟩, setRow_heap _ _ _ _ _ _ h'.row, hO.get h'.res (by simp [hne]), hl, h'.old.trans hO⟩
/-- the calls on a result -/
theorem RunC.none {W2 W : World} {b10 b11 n : Nat} {L : List BE} {Sg : List Int} {nx ap : Int} {C : Array Value} (h : RunC W2 W b10 b11 n L Sg nx ap C) (hne : b10 ≠ b11) (hn : n ≤ 256) (block many : Int) (hbk : 0 ≤ block ∧ block ≤ 1000) (hmk : 0 ≤ many ∧ many ≤ 1000) :
    Calls Try.prog 35 #[.agg C, .int .i64 block, .int .i64 many] W fun y w' => ∃ C', y = .returned (.agg C') ∧ Hid (RunC W2 (w'.setRow b11 C') b10 b11 n (nonI BE.zero block many 0 L) (nonI 0 block many 0 Sg) nx ap C') ∧ Hid (w'.heap[b11]? = some (.cells C 45 (0, 0))) ∧ Below W.heap.size W w' := by
  obtain ⟨aL, cL, aS, cS, rfl, h1, h2, h3⟩ := h.parts; have hc := rrnone_any W aL L cL nx ap aS Sg cS block many h1 h2 (by rw [h.len.1]; exact hn) (by rw [h.len.1, h.len.2]) hbk hmk; rw [h.len.1, h.len.2] at hc; refine hc.mono ?_; rintro y w' ⟨vL, vS, rfl, o1, o2, hb⟩; exact ⟨_, rfl, Lib.hid (h.set hne ⟨(Array.getElem?_eq_some_iff.1 h.res).1, (Array.getElem?_eq_some_iff.1 h.row).1⟩ hb o1 o2 ⟨by rw [nonI_length]; exact h.len.1, by rw [nonI_length]; exact h.len.2⟩), Lib.hid (h.below hb).row, hb⟩
theorem RunC.lie {W2 W : World} {b10 b11 n : Nat} {L : List BE} {Sg : List Int} {nx ap : Int} {C : Array Value} (h : RunC W2 W b10 b11 n L Sg nx ap C) (hne : b10 ≠ b11) (hn : n ≤ 256) (seq : Int) (e : En.E) (f : Fnd) (b : Bool) (hb : 0 ≤ e.block ∧ e.block < (n : Int)) (hq : EBody e) (hf : FndQ f) :
    Calls Try.prog 36 #[.agg C, .int .i64 seq, .agg (EC e), .agg (fndC f), .bool b] W fun y w' => ∃ C', y = .returned (.agg C') ∧ Hid (RunC W2 (w'.setRow b11 C') b10 b11 n (L.set e.block.toNat (beOf seq ⟨⟨e, f.zone, f.off⟩, b⟩)) (Sg.set e.block.toNat (if b = true then 1 else 0)) nx ap C') ∧ Hid (w'.heap[b11]? = some (.cells C 45 (0, 0))) ∧ Below W.heap.size W w' := by
  obtain ⟨aL, cL, aS, cS, rfl, h1, h2, h3, h4, -⟩ := h.parts; have hc := rrlie_any W aL L cL nx ap aS Sg cS seq e f b e.block.toNat h1 h2 h3 h4 (by rw [h.len.1]; exact hn) (by rw [h.len.1, h.len.2]) (by omega) (by rw [h.len.1]; omega) hq hf; rw [h.len.1, h.len.2] at hc; refine hc.mono ?_; rintro y w' ⟨vL, vS, rfl, o1, o2, hb'⟩; exact ⟨_, rfl, Lib.hid (h.set hne ⟨(Array.getElem?_eq_some_iff.1 h.res).1, (Array.getElem?_eq_some_iff.1 h.row).1⟩ hb' o1 o2 ⟨by rw [List.length_set]; exact h.len.1, by rw [List.length_set]; exact h.len.2⟩), Lib.hid (h.below hb').row, hb'⟩
theorem built_rr (a b : Option Addr) (n c m d : Nat) (next : Int) : Try.prog.built 45 [(0, .slice a n c), (1, .int .i64 next), (3, .slice b m d)] = some (rrC (.slice a n c) next 0 (.slice b m d)) := by kernel_rfl
end Go.Proofs.Ytoiephmngdecaaa
