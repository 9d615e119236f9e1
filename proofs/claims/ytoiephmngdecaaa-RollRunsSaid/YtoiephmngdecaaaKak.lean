/- Proved here: a block lies where it was found (the roller's lie); the roller's own cells are written: its open group, its count; a Trim, or a Move, takes effect (the roller's other). -/
import Derived.Laws.CopyOwn
import Derived.LoopTactic
import Derived.Test.YtoiephmngdecaaaKab
import Derived.Test.YtoiephmngdecaaaKaf
import Derived.Test.YtoiephmngdecaaaKag
import Derived.Test.YtoiephmngdecaaaKaj
namespace Go.Proofs.Ytoiephmngdecaaa
open Go.RowKit Go.Rv Rl Frm
set_option linter.unusedVariables false
attribute [local go_sem] Oper.semAt_some
theorem ch_cells {w : World} {b : Nat} {c : Ch} {t : TypeId} (hq : ChQ c) (h : w.heap[b]? = some (.cells (chC c) t (0, 0))) : w.cell? ⟨b, 0, none⟩ = some (.int .i64 c.r.e.kind) ∧ w.cell? ⟨b, 3, none⟩ = some (.int .i64 c.r.e.block) ∧ w.cell? ⟨b, 4, none⟩ = some (.int .i64 c.r.e.many) ∧ w.cell? ⟨b, 38, none⟩ = some (.int .i64 c.r.zone) ∧ w.cell? ⟨b, 39, none⟩ = some (.int .i64 c.r.off) ∧ w.cell? ⟨b, 40, none⟩ = some (.bool c.single) ∧ w.rangeAt b 0 (EC c.r.e).toList := by
  have hs := kinRec.size c.r hq; have hse : (EC c.r.e).size = 38 := by rw [EC_size, hq.1]
  have key : ∀ j, j < 40 → (chC c)[j]? = (recC c.r)[j]? := fun j hj => by
    unfold chC; rw [Array.getElem?_append_left (by omega)]
  obtain ⟨k0, -, -, k3, k4, -, k6, k7⟩ := recC_at c.r hq; refine ⟨(cell_of_row _ _ _ _ _ _ h).trans ((key 0 (by omega)).trans k0), (cell_of_row _ _ _ _ _ _ h).trans ((key 3 (by omega)).trans k3), (cell_of_row _ _ _ _ _ _ h).trans ((key 4 (by omega)).trans k4), (cell_of_row _ _ _ _ _ _ h).trans ((key 38 (by omega)).trans k6), (cell_of_row _ _ _ _ _ _ h).trans ((key 39 (by omega)).trans k7), (cell_of_row _ _ _ _ _ _ h).trans ?_, fun j v hv => ?_⟩
  · unfold chC; rw [Array.getElem?_append_right (by omega), hs]; rfl
  · have hj : j < 38 := by
      have := (List.getElem?_eq_some_iff.1 hv).1; rw [Array.length_toList, hse] at this; exact this
    rw [Nat.zero_add, cell_of_row _ _ _ _ _ _ h, key j (by omega), recC_e c.r j (by omega), ← Array.getElem?_toList, hv]
theorem built_be (z m o q s : Int) : Try.prog.built 54 [(0, .int .i64 1), (1, .int .i64 z), (2, .int .i64 m), (3, .int .i64 o), (4, .int .i64 q), (5, .int .i64 s)] = some (BEC ⟨1, z, m, o, q, s⟩) := by kernel_rfl
theorem tab_len : Tb.tabV.toList.length = 256 := by rw [Array.length_toList]; exact tabV_size
set_option maxRecDepth 100000 in
set_option maxHeartbeats 16000000 in
theorem rlie_core (w : World) (B q p le ll ce cl sb : Nat) (g : Geo.G) (v : Value) (st : St) (h : RolIs w B q p le ll ce cl sb g v st) (CC CE : Array Value) (block mate zone off seq sum : Int) (sg : Bool) (n blk : Nat) (XT : Array Value)
    (hblk : block = blk) (hlt : blk < n) (hn : st.single.length = n) (hXT : Tb.tabV = XT)
    (hCC : ∀ (W : World) (b : Nat), W.heap[b]? = some (.cells CC 104 (0, 0)) → W.cell? ⟨b, 38, none⟩ = some (.int .i64 zone) ∧ W.cell? ⟨b, 39, none⟩ = some (.int .i64 off) ∧ W.cell? ⟨b, 40, none⟩ = some (.bool sg) ∧ W.rangeAt b 0 CE.toList)
    (hCE : ∀ (W : World) (b : Nat), W.heap[b]? = some (.cells CE 65 (0, 0)) → W.cell? ⟨b, 3, none⟩ = some (.int .i64 block) ∧ W.cell? ⟨b, 5, none⟩ = some (.int .i64 mate))
    (hIE : (Try.prog.info? 65).map (·.size) = some CE.size) (hIL : (Try.prog.info? 65).map (·.size) = some CE.toList.length) (hSE : (EC En.E.zero).size = CE.size) (hOE : CE.all (·.oneCell') = true) (hIT : (Try.prog.info? 41).map (·.size) = some XT.toList.length)
    (HSM : ∀ (W : World) (b : Nat), W.heap[b]? = some (.cells CE 65 (0, 0)) → Calls Try.prog 69 #[.agg XT.toList.toArray, .slice (some ⟨b, 6, none⟩) 32 32] W fun e w' => e = .returned (.int .u32 sum) ∧ Below W.heap.size W w')
    (hsum : 0 ≤ sum ∧ sum ≤ 4294967295)
    (es2 : List BE) (HST : ∀ (W : World) (st' : St), st'.es = st.es → RolIs W B q p le ll ce cl sb g v st' → Calls Try.prog 25 #[.pointer (some ⟨p, 0, none⟩), .int .i64 block, .agg (BEC ⟨1, zone, mate, off, seq, sum⟩)] W fun x w' => (∃ k, x = .returned (.int .i64 k)) ∧ RolIs w' B q p le ll ce cl sb g v { st' with es := es2 } ∧ Below B W w') :
    Calls Try.prog 55 #[.pointer (some ⟨q, 0, none⟩), .int .i64 seq, .agg CC] w fun e w' => e = .returned (.tuple #[]) ∧ RolIs w' B q p le ll ce cl sb g v { st with es := es2, single := st.single.set blk (if sg = true then 1 else 0) } ∧ Below B w w' := by
  subst hblk; have hz := (zero_of_info Try.infoEntry).1; have HH := Lib.hid h; have HCC := Lib.hid hCC; have HCE := Lib.hid hCE; have HIE := Lib.hid hIE; have HIL := Lib.hid hIL; have HSE := Lib.hid hSE; have HOE := Lib.hid hOE; have HIT := Lib.hid hIT; have HSU := Lib.hid HSM; have HSTT := Lib.hid HST; have HBU := Lib.hid (built_be zone mate off seq sum); have HN := Lib.hid hn; have HXT := Lib.hid hXT; have hBs := h.hB.2.2.2.2.2; obtain ⟨Z, hZ⟩ : ∃ Z, EC En.E.zero = Z := ⟨_, rfl⟩; rw [hZ] at hz HSE; obtain ⟨W1, hW1⟩ : ∃ W, w.alloc (.cells CC 104) = W := ⟨_, rfl⟩; have hb1 : Below w.heap.size w W1 := by rw [← hW1]; exact (Below.refl _ _).alloc (Nat.le_refl _) _
  have hc1 : W1.heap[w.heap.size]? = some (.cells CC 104 (0, 0)) := by rw [← hW1]; exact heap_alloc_new w _
  have zc1 : w.heap.size < W1.heap.size := (Array.getElem?_eq_some_iff.1 hc1).1; have HW1 := Lib.hid hW1; have HC1 := Lib.hid hc1; have HRG := Lib.hid (hCC W1 _ hc1).2.2.2; obtain ⟨W2, hW2⟩ : ∃ W, W1.alloc (.cells CE 65) = W := ⟨_, rfl⟩; have hb2 : Below W1.heap.size W1 W2 := by rw [← hW2]; exact (Below.refl _ _).alloc (Nat.le_refl _) _
  have he2 : W2.heap[W1.heap.size]? = some (.cells CE 65 (0, 0)) := by rw [← hW2]; exact heap_alloc_new W1 _
  have ze2 : W1.heap.size < W2.heap.size := (Array.getElem?_eq_some_iff.1 he2).1; have HW2 := Lib.hid hW2; have HE2 := Lib.hid he2; have hb12 := hb1.trans (hb2.mono (Nat.le_of_lt zc1)); have HB2 := Lib.hid hb12; have HR2 := Lib.hid (h.below hb12); have HC2 := Lib.hid ((hb2.block _ zc1).trans hc1); clear h hCC hCE hIE hIL hSE hOE hIT HSM HST hn hXT hZ hW1 hb1 hc1 hW2 hb2 he2 hb12; go_enter Try.func55, Try.ntmps55; go_upto_region 1 with (fail); rw [HW1.out]; go_upto_region 2 with (first | (refine wpList_load_mid rfl 65 _ rfl w.heap.size 0 rfl CE.toList _ HRG.out Try.underlying65 rfl HIL.out ?_) | (refine wpList_store_row rfl 65 _ _ rfl W1.heap.size CE rfl rfl 65 Z (heap_alloc_new W1 _) HIE.out HSE.out HOE.out ?_; rw [World.setRow_alloc_new])); rw [HW2.out, put_none]; obtain ⟨E, hE⟩ : ∃ E, W1.heap.size = E := ⟨_, rfl⟩; obtain ⟨C, hC⟩ : ∃ C, w.heap.size = C := ⟨_, rfl⟩; have hEC : C < E := by omega
  have hBC : B ≤ C := by omega
  rw [hE] at HE2 ze2 ⊢; rw [hC] at HC2 zc1 ⊢
  have HKE : Hid (∀ W, Only [sb] W2 W → W.cell? ⟨E, 3, none⟩ = some (.int .i64 (blk : Nat)) ∧ W.cell? ⟨E, 5, none⟩ = some (.int .i64 mate) ∧ W.heap[E]? = some (.cells CE 65 (0, 0))) := Lib.hid (fun W hO => by
    have hh := hO.get HE2.out (by have := (Array.getElem?_eq_some_iff.1 HH.out.hs).1; simp only [List.mem_singleton]; omega); exact ⟨(HCE.out W _ hh).1, (HCE.out W _ hh).2, hh⟩)
  have HKC : Hid (∀ W, Only [sb] W2 W → W.cell? ⟨C, 38, none⟩ = some (.int .i64 zone) ∧ W.cell? ⟨C, 39, none⟩ = some (.int .i64 off) ∧ W.cell? ⟨C, 40, none⟩ = some (.bool sg)) := Lib.hid (fun W hO => by
    have hh := hO.get HC2.out (by have := (Array.getElem?_eq_some_iff.1 HH.out.hs).1; simp only [List.mem_singleton]; omega); obtain ⟨h1, h2, h3, -⟩ := HCC.out W _ hh; exact ⟨h1, h2, h3⟩)
  clear hE hC; refine wp_region_conf2 7 [Fact.eq (.pointer (some ⟨q, 0, none⟩)), Fact.eq (.pointer (some ⟨q, 0, none⟩)), Fact.eq (.pointer (some ⟨q, 260, none⟩)), Fact.eq (.slice (some ⟨sb, 0, none⟩) n n), Fact.eq (.pointer (some ⟨E, 3, none⟩)), Fact.eq (.int .i64 (blk : Nat)), Fact.eq (.pointer (some ⟨sb, blk, none⟩))] ?raA (by kernel_rfl) (by kernel_rfl) ?rahA ?raho ?rahend
  case rahA =>
    intro vv; simp only [putRules, Nat.reduceAdd]; rfl
  case raho =>
    refine ⟨?_, ?_, ?_, ?_, ?_, ?_, ?_, trivial⟩
    · intro vv W K hB hd HK; simp only [confRules] at HK; clear hd; go_wp2; refine HK.out _ _ (Below.refl _ _) ?_; rfl
    · intro vv W K hB hd HK; simp only [confRules] at hd HK; have h0 := hd; clear hd; simp only [h0] at HK ⊢; clear h0; go_wp2; refine HK.out _ _ (Below.refl _ _) ?_; rfl
    · intro vv W K hB hd HK; simp only [confRules] at hd HK; have h1 := hd; clear hd; simp only [h1] at HK ⊢; clear h1; go_wp2; refine HK.out _ _ (Below.refl _ _) ?_; rfl
    · intro vv W K hB hd HK; simp only [confRules] at hd HK; have h2 := hd; clear hd; simp only [h2] at HK ⊢; clear h2; obtain ⟨-, -, -, -, c9, -⟩ := (HR2.out.below hB).own; simp only [HN.out] at c9; go_wp2; refine HK.out _ _ (Below.refl _ _) ?_; rfl
    · intro vv W K hB hd HK; simp only [confRules] at HK; clear hd; go_wp2; refine HK.out _ _ (Below.refl _ _) ?_; rfl
    · intro vv W K hB hd HK; simp only [confRules] at hd HK; have h4 := hd; clear hd; simp only [h4] at HK ⊢; clear h4; obtain ⟨c9, -, -⟩ := HKE.out W ((Only.refl _ _).trans (Only.of_below hB)); go_wp2; refine HK.out _ _ (Below.refl _ _) ?_; rfl
    · intro vv W K hB hd HK; simp only [confRules] at hd HK; obtain ⟨h3, h5, h0, h1, h2, _, h4, _⟩ := hd; simp only [h3, h5, h0, h1, h2, h4] at HK ⊢; clear h3 h5 h0 h1 h2 h4; go_wp2; refine HK.out _ _ (Below.refl _ _) ?_; rfl
  case rahend =>
    intro vv W hB hf; have e6 := hf 6 (by decide); simp only [endRules] at e6; simp only [e6, dropRules]; clear hf e6; have hW := HR2.out.below hB; obtain ⟨c9, f9⟩ := hW.one (j := blk) (by rw [HN.out]; exact hlt); have HR3 := Lib.hid (hW.mark blk 0); obtain ⟨W3, hW3⟩ : ∃ W3, W.setCell ⟨sb, blk, none⟩ (.int .i64 0) = W3 := ⟨_, rfl⟩; have HO3 : Hid (Only [sb] W2 W3) := Lib.hid (by rw [← hW3]; exact (Only.of_below hB).setCell (.inl (by simp)) _); rw [hW3] at HR3; have HW3 := Lib.hid hW3; obtain ⟨-, -, c40⟩ := HKC.out W3 HO3.out; clear hW3 hW hB; go_upto_region 3 with (fail); rw [HW3.out]; clear c9 f9; cases sg
    · have hsb : B ≤ sb := HH.out.hB.2.2.2.2.1; have hB2s : B ≤ W2.heap.size := by have := HR2.out.hB.2.2.2.2.2; exact this
      have hBW : B ≤ W3.heap.size := by have := HR3.out.hB.2.2.2.2.2; exact this
      go_upto_region 5 with (fail); refine wp_region_conf2 24 [Fact.eq (.pointer (some ⟨q, 0, none⟩)), Fact.eq (.pointer (some ⟨q, 0, none⟩)), Fact.eq (.pointer (some ⟨q, 256, none⟩)), Fact.eq (.pointer (some ⟨p, 0, none⟩)), Fact.eq (.pointer (some ⟨E, 3, none⟩)), Fact.eq (.int .i64 (blk : Nat)), Fact.eq (.pointer (some ⟨C, 0, none⟩)), Fact.eq (.pointer (some ⟨C, 38, none⟩)), Fact.eq (.int .i64 zone), Fact.eq (.pointer (some ⟨E, 5, none⟩)), Fact.eq (.int .i64 mate), Fact.eq (.pointer (some ⟨C, 0, none⟩)), Fact.eq (.pointer (some ⟨C, 39, none⟩)), Fact.eq (.int .i64 off), Fact.eq (.int .i64 seq), Fact.eq (.pointer (some ⟨q, 0, none⟩)), Fact.eq (.pointer (some ⟨q, 0, none⟩)), Fact.eq (.pointer (some ⟨q, 0, none⟩)), Fact.eq (.agg XT.toList.toArray), Fact.eq (.pointer (some ⟨E, 6, none⟩)), Fact.eq (.slice (some ⟨E, 6, none⟩) 32 32), Fact.eq (.int .u32 sum), Fact.eq (.int .i64 sum), Fact.eq (.agg (BEC ⟨1, zone, mate, off, seq, sum⟩))] ?rcA (by kernel_rfl) (by kernel_rfl) ?rchA ?rcho ?rchend
      case rchA =>
        intro vv; simp only [putRules, Nat.reduceAdd]; rfl
      case rcho =>
        refine ⟨?_, ?_, ?_, ?_, ?_, ?_, ?_, ?_, ?_, ?_, ?_, ?_, ?_, ?_, ?_, ?_, ?_, ?_, ?_, ?_, ?_, ?_, ?_, ?_, trivial⟩
        · intro vv W K hB hd HK; simp only [confRules] at HK; clear hd; go_wp2; refine HK.out _ _ (Below.refl _ _) ?_; rfl
        · intro vv W K hB hd HK; simp only [confRules] at hd HK; have h0 := hd; clear hd; simp only [h0] at HK ⊢; clear h0; go_wp2; refine HK.out _ _ (Below.refl _ _) ?_; rfl
        · intro vv W K hB hd HK; simp only [confRules] at hd HK; have h1 := hd; clear hd; simp only [h1] at HK ⊢; clear h1; go_wp2; refine HK.out _ _ (Below.refl _ _) ?_; rfl
        · intro vv W K hB hd HK; simp only [confRules] at hd HK; have h2 := hd; clear hd; simp only [h2] at HK ⊢; clear h2; obtain ⟨c9, -, -, -, -, -⟩ := (HR3.out.below hB).own; go_wp2; refine HK.out _ _ (Below.refl _ _) ?_; rfl
        · intro vv W K hB hd HK; simp only [confRules] at HK; clear hd; go_wp2; refine HK.out _ _ (Below.refl _ _) ?_; rfl
        · intro vv W K hB hd HK; simp only [confRules] at hd HK; have h4 := hd; clear hd; simp only [h4] at HK ⊢; clear h4; obtain ⟨c9, -, -⟩ := HKE.out W (HO3.out.trans (Only.of_below hB)); go_wp2; refine HK.out _ _ (Below.refl _ _) ?_; rfl
        · intro vv W K hB hd HK; simp only [confRules] at HK; clear hd; go_wp2; refine HK.out _ _ (Below.refl _ _) ?_; rfl
        · intro vv W K hB hd HK; simp only [confRules] at hd HK; have h6 := hd; clear hd; simp only [h6] at HK ⊢; clear h6; go_wp2; refine HK.out _ _ (Below.refl _ _) ?_; rfl
        · intro vv W K hB hd HK; simp only [confRules] at hd HK; have h7 := hd; clear hd; simp only [h7] at HK ⊢; clear h7; obtain ⟨c9, -, -⟩ := HKC.out W (HO3.out.trans (Only.of_below hB)); go_wp2; refine HK.out _ _ (Below.refl _ _) ?_; rfl
        · intro vv W K hB hd HK; simp only [confRules] at HK; clear hd; go_wp2; refine HK.out _ _ (Below.refl _ _) ?_; rfl
        · intro vv W K hB hd HK; simp only [confRules] at hd HK; have h9 := hd; clear hd; simp only [h9] at HK ⊢; clear h9; obtain ⟨-, c9, -⟩ := HKE.out W (HO3.out.trans (Only.of_below hB)); go_wp2; refine HK.out _ _ (Below.refl _ _) ?_; rfl
        · intro vv W K hB hd HK; simp only [confRules] at HK; clear hd; go_wp2; refine HK.out _ _ (Below.refl _ _) ?_; rfl
        · intro vv W K hB hd HK; simp only [confRules] at hd HK; have h11 := hd; clear hd; simp only [h11] at HK ⊢; clear h11; go_wp2; refine HK.out _ _ (Below.refl _ _) ?_; rfl
        · intro vv W K hB hd HK; simp only [confRules] at hd HK; have h12 := hd; clear hd; simp only [h12] at HK ⊢; clear h12; obtain ⟨-, c9, -⟩ := HKC.out W (HO3.out.trans (Only.of_below hB)); go_wp2; refine HK.out _ _ (Below.refl _ _) ?_; rfl
        · intro vv W K hB hd HK; simp only [confRules] at HK; clear hd; go_wp2; refine HK.out _ _ (Below.refl _ _) ?_; rfl
        · intro vv W K hB hd HK; simp only [confRules] at HK; clear hd; go_wp2; refine HK.out _ _ (Below.refl _ _) ?_; rfl
        · intro vv W K hB hd HK; simp only [confRules] at hd HK; have h15 := hd; clear hd; simp only [h15] at HK ⊢; clear h15; go_wp2; refine HK.out _ _ (Below.refl _ _) ?_; rfl
        · intro vv W K hB hd HK; simp only [confRules] at hd HK; have h16 := hd; clear hd; simp only [h16] at HK ⊢; clear h16; go_wp2; refine HK.out _ _ (Below.refl _ _) ?_; rfl
        · intro vv W K hB hd HK; simp only [confRules] at hd HK; have h17 := hd; clear hd; simp only [h17] at HK ⊢; clear h17; have c9 := rolC_range (HR3.out.below hB).hq; rw [HXT.out] at c9; refine wpList_load_mid rfl 41 _ rfl q 0 rfl XT.toList _ c9 Try.underlying41 rfl HIT.out ?_; refine HK.out _ _ (Below.refl _ _) ?_; rfl
        · intro vv W K hB hd HK; simp only [confRules] at HK; clear hd; go_wp2; refine HK.out _ _ (Below.refl _ _) ?_; rfl
        · intro vv W K hB hd HK; simp only [confRules] at hd HK; have h19 := hd; clear hd; simp only [h19] at HK ⊢; clear h19; go_wp2; refine HK.out _ _ (Below.refl _ _) ?_; rfl
        · intro vv W K hB hd HK; simp only [confRules] at hd HK; obtain ⟨h18, h20⟩ := hd; simp only [h18, h20] at HK ⊢; clear h18 h20; obtain ⟨-, -, c9⟩ := HKE.out W (HO3.out.trans (Only.of_below hB)); go_wp2_with (refine (HSU.out W E c9).mono ?_; rintro e w9 ⟨rfl, hB9⟩); refine HK.out _ _ hB9 ?_; rfl
        · intro vv W K hB hd HK; simp only [confRules] at hd HK; have h21 := hd; clear hd; simp only [h21] at HK ⊢; clear h21; go_wp2; refine HK.out _ _ (Below.refl _ _) ?_; rfl
        · intro vv W K hB hd HK; simp only [confRules] at hd HK; obtain ⟨h8, h10, h13, h14, h22⟩ := hd; simp only [h8, h10, h13, h14, h22] at HK ⊢; clear h8 h10 h13 h14 h22; go_wp2_with (refine wpList_build_on (by rfl) 54 _ rfl #[(0, .int .i64 1), (1, .int .i64 zone), (2, .int .i64 mate), (3, .int .i64 off), (4, .int .i64 seq), (5, .int .i64 sum)] (by simp [Act.eval]) _ HBU.out ?_); refine HK.out _ _ (Below.refl _ _) ?_; rfl
      case rchend =>
        intro vv W hB hf; have e3 := hf 3 (by decide); have e5 := hf 5 (by decide); have e23 := hf 23 (by decide); simp only [endRules] at e3 e5 e23; simp only [e3, e5, e23, dropRules]; clear hf e3 e5 e23; have hW := HR3.out.below hB; have HSX := Lib.hid (HSTT.out W _ (by rfl) hW); have HBW := Lib.hid ((HB2.out.mono hBs).trans ((HO3.out.below (by simp; exact hsb) hB2s).trans (hB.mono hBW))); clear hW hB; go_wp2_with fail; refine HSX.out.mono ?_; rintro e9 w9 ⟨⟨k9, rfl⟩, hR9, hB9⟩; have HR9 := Lib.hid hR9; have HB9 := Lib.hid (HBW.out.trans hB9); clear hR9 hB9; go_wp2; refine bodyPost_end (results_none rfl _ _ _) rfl ?_; exact ⟨rfl, HR9.out, HB9.out⟩
    · go_upto_region 4 with (fail); refine wp_region_conf2 7 [Fact.eq (.pointer (some ⟨q, 0, none⟩)), Fact.eq (.pointer (some ⟨q, 0, none⟩)), Fact.eq (.pointer (some ⟨q, 260, none⟩)), Fact.eq (.slice (some ⟨sb, 0, none⟩) n n), Fact.eq (.pointer (some ⟨E, 3, none⟩)), Fact.eq (.int .i64 (blk : Nat)), Fact.eq (.pointer (some ⟨sb, blk, none⟩))] ?rdA (by kernel_rfl) (by kernel_rfl) ?rdhA ?rdho ?rdhend
      case rdhA =>
        intro vv; simp only [putRules, Nat.reduceAdd]; rfl
      case rdho =>
        refine ⟨?_, ?_, ?_, ?_, ?_, ?_, ?_, trivial⟩
        · intro vv W K hB hd HK; simp only [confRules] at HK; clear hd; go_wp2; refine HK.out _ _ (Below.refl _ _) ?_; rfl
        · intro vv W K hB hd HK; simp only [confRules] at hd HK; have h0 := hd; clear hd; simp only [h0] at HK ⊢; clear h0; go_wp2; refine HK.out _ _ (Below.refl _ _) ?_; rfl
        · intro vv W K hB hd HK; simp only [confRules] at hd HK; have h1 := hd; clear hd; simp only [h1] at HK ⊢; clear h1; go_wp2; refine HK.out _ _ (Below.refl _ _) ?_; rfl
        · intro vv W K hB hd HK; simp only [confRules] at hd HK; have h2 := hd; clear hd; simp only [h2] at HK ⊢; clear h2; obtain ⟨-, -, -, -, c9, -⟩ := (HR3.out.below hB).own; simp only [List.length_set, HN.out] at c9; go_wp2; refine HK.out _ _ (Below.refl _ _) ?_; rfl
        · intro vv W K hB hd HK; simp only [confRules] at HK; clear hd; go_wp2; refine HK.out _ _ (Below.refl _ _) ?_; rfl
        · intro vv W K hB hd HK; simp only [confRules] at hd HK; have h4 := hd; clear hd; simp only [h4] at HK ⊢; clear h4; obtain ⟨c9, -, -⟩ := HKE.out W (HO3.out.trans (Only.of_below hB)); go_wp2; refine HK.out _ _ (Below.refl _ _) ?_; rfl
        · intro vv W K hB hd HK; simp only [confRules] at hd HK; obtain ⟨h3, h5, h0, h1, h2, _, h4, _⟩ := hd; simp only [h3, h5, h0, h1, h2, h4] at HK ⊢; clear h3 h5 h0 h1 h2 h4; go_wp2; refine HK.out _ _ (Below.refl _ _) ?_; rfl
      case rdhend =>
        intro vv W hB hf; have e6 := hf 6 (by decide); simp only [endRules] at e6; simp only [e6, dropRules]; clear hf e6; have hW := HR3.out.below hB; obtain ⟨c9, f9⟩ := hW.one (j := blk) (by simp only [List.length_set]; rw [HN.out]; exact hlt); have HR5 := Lib.hid (hW.mark blk 1); obtain ⟨W5, hW5⟩ : ∃ W5, W.setCell ⟨sb, blk, none⟩ (.int .i64 1) = W5 := ⟨_, rfl⟩; have HO5 : Hid (Only [sb] W2 W5) := Lib.hid (by rw [← hW5]; exact (HO3.out.trans (Only.of_below hB)).setCell (.inl (by simp)) _); rw [hW5] at HR5; have HW5 := Lib.hid hW5; clear hW5 hW hB; go_upto_region 5 with (fail); rw [HW5.out]; clear c9 f9; have hsb : B ≤ sb := HH.out.hB.2.2.2.2.1; have hB2s : B ≤ W2.heap.size := by have := HR2.out.hB.2.2.2.2.2; exact this
        have hBW : B ≤ W5.heap.size := by have := HR5.out.hB.2.2.2.2.2; exact this
        refine wp_region_conf2 24 [Fact.eq (.pointer (some ⟨q, 0, none⟩)), Fact.eq (.pointer (some ⟨q, 0, none⟩)), Fact.eq (.pointer (some ⟨q, 256, none⟩)), Fact.eq (.pointer (some ⟨p, 0, none⟩)), Fact.eq (.pointer (some ⟨E, 3, none⟩)), Fact.eq (.int .i64 (blk : Nat)), Fact.eq (.pointer (some ⟨C, 0, none⟩)), Fact.eq (.pointer (some ⟨C, 38, none⟩)), Fact.eq (.int .i64 zone), Fact.eq (.pointer (some ⟨E, 5, none⟩)), Fact.eq (.int .i64 mate), Fact.eq (.pointer (some ⟨C, 0, none⟩)), Fact.eq (.pointer (some ⟨C, 39, none⟩)), Fact.eq (.int .i64 off), Fact.eq (.int .i64 seq), Fact.eq (.pointer (some ⟨q, 0, none⟩)), Fact.eq (.pointer (some ⟨q, 0, none⟩)), Fact.eq (.pointer (some ⟨q, 0, none⟩)), Fact.eq (.agg XT.toList.toArray), Fact.eq (.pointer (some ⟨E, 6, none⟩)), Fact.eq (.slice (some ⟨E, 6, none⟩) 32 32), Fact.eq (.int .u32 sum), Fact.eq (.int .i64 sum), Fact.eq (.agg (BEC ⟨1, zone, mate, off, seq, sum⟩))] ?reA (by kernel_rfl) (by kernel_rfl) ?rehA ?reho ?rehend
        case rehA =>
          intro vv; simp only [putRules, Nat.reduceAdd]; rfl
        case reho =>
          refine ⟨?_, ?_, ?_, ?_, ?_, ?_, ?_, ?_, ?_, ?_, ?_, ?_, ?_, ?_, ?_, ?_, ?_, ?_, ?_, ?_, ?_, ?_, ?_, ?_, trivial⟩
          · intro vv W K hB hd HK; simp only [confRules] at HK; clear hd; go_wp2; refine HK.out _ _ (Below.refl _ _) ?_; rfl
          · intro vv W K hB hd HK; simp only [confRules] at hd HK; have h0 := hd; clear hd; simp only [h0] at HK ⊢; clear h0; go_wp2; refine HK.out _ _ (Below.refl _ _) ?_; rfl
          · intro vv W K hB hd HK; simp only [confRules] at hd HK; have h1 := hd; clear hd; simp only [h1] at HK ⊢; clear h1; go_wp2; refine HK.out _ _ (Below.refl _ _) ?_; rfl
          · intro vv W K hB hd HK; simp only [confRules] at hd HK; have h2 := hd; clear hd; simp only [h2] at HK ⊢; clear h2; obtain ⟨c9, -, -, -, -, -⟩ := (HR5.out.below hB).own; go_wp2; refine HK.out _ _ (Below.refl _ _) ?_; rfl
          · intro vv W K hB hd HK; simp only [confRules] at HK; clear hd; go_wp2; refine HK.out _ _ (Below.refl _ _) ?_; rfl
          · intro vv W K hB hd HK; simp only [confRules] at hd HK; have h4 := hd; clear hd; simp only [h4] at HK ⊢; clear h4; obtain ⟨c9, -, -⟩ := HKE.out W (HO5.out.trans (Only.of_below hB)); go_wp2; refine HK.out _ _ (Below.refl _ _) ?_; rfl
          · intro vv W K hB hd HK; simp only [confRules] at HK; clear hd; go_wp2; refine HK.out _ _ (Below.refl _ _) ?_; rfl
          · intro vv W K hB hd HK; simp only [confRules] at hd HK; have h6 := hd; clear hd; simp only [h6] at HK ⊢; clear h6; go_wp2; refine HK.out _ _ (Below.refl _ _) ?_; rfl
          · intro vv W K hB hd HK; simp only [confRules] at hd HK; have h7 := hd; clear hd; simp only [h7] at HK ⊢; clear h7; obtain ⟨c9, -, -⟩ := HKC.out W (HO5.out.trans (Only.of_below hB)); go_wp2; refine HK.out _ _ (Below.refl _ _) ?_; rfl
          · intro vv W K hB hd HK; simp only [confRules] at HK; clear hd; go_wp2; refine HK.out _ _ (Below.refl _ _) ?_; rfl
          · intro vv W K hB hd HK; simp only [confRules] at hd HK; have h9 := hd; clear hd; simp only [h9] at HK ⊢; clear h9; obtain ⟨-, c9, -⟩ := HKE.out W (HO5.out.trans (Only.of_below hB)); go_wp2; refine HK.out _ _ (Below.refl _ _) ?_; rfl
          · intro vv W K hB hd HK; simp only [confRules] at HK; clear hd; go_wp2; refine HK.out _ _ (Below.refl _ _) ?_; rfl
          · intro vv W K hB hd HK; simp only [confRules] at hd HK; have h11 := hd; clear hd; simp only [h11] at HK ⊢; clear h11; go_wp2; refine HK.out _ _ (Below.refl _ _) ?_; rfl
          · intro vv W K hB hd HK; simp only [confRules] at hd HK; have h12 := hd; clear hd; simp only [h12] at HK ⊢; clear h12; obtain ⟨-, c9, -⟩ := HKC.out W (HO5.out.trans (Only.of_below hB)); go_wp2; refine HK.out _ _ (Below.refl _ _) ?_; rfl
          · intro vv W K hB hd HK; simp only [confRules] at HK; clear hd; go_wp2; refine HK.out _ _ (Below.refl _ _) ?_; rfl
          · intro vv W K hB hd HK; simp only [confRules] at HK; clear hd; go_wp2; refine HK.out _ _ (Below.refl _ _) ?_; rfl
          · intro vv W K hB hd HK; simp only [confRules] at hd HK; have h15 := hd; clear hd; simp only [h15] at HK ⊢; clear h15; go_wp2; refine HK.out _ _ (Below.refl _ _) ?_; rfl
          · intro vv W K hB hd HK; simp only [confRules] at hd HK; have h16 := hd; clear hd; simp only [h16] at HK ⊢; clear h16; go_wp2; refine HK.out _ _ (Below.refl _ _) ?_; rfl
          · intro vv W K hB hd HK; simp only [confRules] at hd HK; have h17 := hd; clear hd; simp only [h17] at HK ⊢; clear h17; have c9 := rolC_range (HR5.out.below hB).hq; rw [HXT.out] at c9; refine wpList_load_mid rfl 41 _ rfl q 0 rfl XT.toList _ c9 Try.underlying41 rfl HIT.out ?_; refine HK.out _ _ (Below.refl _ _) ?_; rfl
          · intro vv W K hB hd HK; simp only [confRules] at HK; clear hd; go_wp2; refine HK.out _ _ (Below.refl _ _) ?_; rfl
          · intro vv W K hB hd HK; simp only [confRules] at hd HK; have h19 := hd; clear hd; simp only [h19] at HK ⊢; clear h19; go_wp2; refine HK.out _ _ (Below.refl _ _) ?_; rfl
          · intro vv W K hB hd HK; simp only [confRules] at hd HK; obtain ⟨h18, h20⟩ := hd; simp only [h18, h20] at HK ⊢; clear h18 h20; obtain ⟨-, -, c9⟩ := HKE.out W (HO5.out.trans (Only.of_below hB)); go_wp2_with (refine (HSU.out W E c9).mono ?_; rintro e w9 ⟨rfl, hB9⟩); refine HK.out _ _ hB9 ?_; rfl
          · intro vv W K hB hd HK; simp only [confRules] at hd HK; have h21 := hd; clear hd; simp only [h21] at HK ⊢; clear h21; go_wp2; refine HK.out _ _ (Below.refl _ _) ?_; rfl
          · intro vv W K hB hd HK; simp only [confRules] at hd HK; obtain ⟨h8, h10, h13, h14, h22⟩ := hd; simp only [h8, h10, h13, h14, h22] at HK ⊢; clear h8 h10 h13 h14 h22; go_wp2_with (refine wpList_build_on (by rfl) 54 _ rfl #[(0, .int .i64 1), (1, .int .i64 zone), (2, .int .i64 mate), (3, .int .i64 off), (4, .int .i64 seq), (5, .int .i64 sum)] (by simp [Act.eval]) _ HBU.out ?_); refine HK.out _ _ (Below.refl _ _) ?_; rfl
        case rehend =>
          intro vv W hB hf; have e3 := hf 3 (by decide); have e5 := hf 5 (by decide); have e23 := hf 23 (by decide); simp only [endRules] at e3 e5 e23; simp only [e3, e5, e23, dropRules]; clear hf e3 e5 e23; have hW := HR5.out.below hB; have HSX := Lib.hid (HSTT.out W _ (by rfl) hW); have HBW := Lib.hid ((HB2.out.mono hBs).trans ((HO5.out.below (by simp; exact hsb) hB2s).trans (hB.mono hBW))); clear hW hB; go_wp2_with fail; refine HSX.out.mono ?_; rintro e9 w9 ⟨⟨k9, rfl⟩, hR9, hB9⟩; have HR9 := Lib.hid hR9; have HB9 := Lib.hid (HBW.out.trans hB9); clear hR9 hB9; go_wp2; refine bodyPost_end (results_none rfl _ _ _) rfl ?_; exact ⟨rfl, by have := HR9.out; simpa using this, HB9.out⟩
theorem rlie_any (w : World) (B q p le ll ce cl sb : Nat) (g : Geo.G) (v : Value) (st : St) (hr : Geo.right g = true) (h : RolIs w B q p le ll ce cl sb g v st) (c : Ch) (hq : ChQ c) (seq : Int) (hb : 0 ≤ c.r.e.block ∧ c.r.e.block < g.b) (hE : E64 (beOf seq c)) :
    Calls Try.prog 55 #[.pointer (some ⟨q, 0, none⟩), .int .i64 seq, .agg (chC c)] w fun e w' => e = .returned (.tuple #[]) ∧ RolIs w' B q p le ll ce cl sb g v (lie g st seq c) ∧ Below B w w' := by
  have hs : Crc.sum c.r.e.bytes < 4294967296 := Crc.sum_lt hq.2; have hX : Tb.tabV.toList.toArray = Tb.tabV := by simp
  refine rlie_core w B q p le ll ce cl sb g v st h (chC c) (EC c.r.e) c.r.e.block c.r.e.mate c.r.zone c.r.off seq (Crc.sum c.r.e.bytes : Nat) c.single st.single.length c.r.e.block.toNat Tb.tabV (by omega) (by have := h.hn; omega) rfl rfl ?_ ?_ (size_ent hq.1) (by rw [Array.length_toList]; exact size_ent hq.1) (by rw [EC_size, EC_size, hq.1]; rfl) (EC_one _) (by rw [tab_len]; exact (zero_of_info Try.infoTab).2) ?_ (by omega) (setEs g st.es c.r.e.block (beOf seq c)) ?_
  · intro W b hh; obtain ⟨-, -, -, c3, c4, c5, c6⟩ := ch_cells hq hh; exact ⟨c3, c4, c5, c6⟩
  · intro W b hh; obtain ⟨-, -, -, c3, -, c5⟩ := ent_cells hh; exact ⟨c3, c5⟩
  · intro W b hh; rw [hX]; have := sum_any (some ⟨b, 6, none⟩) c.r.e.bytes 32 W (ent_bytes hh hq.2) (by rw [hq.1]; decide); rw [hq.1] at this; exact this
  · intro W st' he hR; have hM := hR.hm; refine (bset_any W p le ll ce cl g st'.es hr hR.hok hM c.r.e.block (beOf seq c) hE).mono ?_; rintro x w' ⟨rfl, h1, h2⟩; refine ⟨⟨_, rfl⟩, ?_, h2.below (by have := hR.hB; simp; omega) hR.hB.2.2.2.2.2⟩; rw [he] at h1; exact hR.map h1 (by have := setEs_ok hR.hok hE c.r.e.block; rwa [he] at this) h2
end Go.Proofs.Ytoiephmngdecaaa
namespace Go.Rv
open Go.RowKit
theorem Only.of_setCells (g : Nat) : ∀ (vs : List Value) (o : Nat) (w : World), Only [g] w (w.setCells g o vs)
  | [], _, w => Only.refl _ _
  | v :: vs, o, w => ((Only.refl _ _).setCell (.inl (by simp)) _).trans (Only.of_setCells g vs (o + 1) (w.setCell ⟨g, o, none⟩ v))
/-- a row, behind a store into its middle -/
theorem heap_setCells_row (g : Nat) (t : TypeId) : ∀ (vs : List Value) (o : Nat) (cur : List Value) (w : World), w.heap[g]? = some (.cells cur.toArray t (0, 0)) → o + vs.length ≤ cur.length →
    (w.setCells g o vs).heap[g]? = some (.cells (splice cur o vs).toArray t (0, 0))
  | [], o, cur, w, h, _ => by
    show w.heap[g]? = _; rw [h]; simp [splice]
  | v :: vs, o, cur, w, h, hl => by
    have h1 := heap_setCell_same w g o cur.toArray t v h; rw [List.setIfInBounds_toArray] at h1; rw [List.length_cons] at hl; have h2 := heap_setCells_row g t vs (o + 1) (cur.set o v) (w.setCell ⟨g, o, none⟩ v) h1 (by rw [List.length_set]; omega); show ((w.setCell ⟨g, o, none⟩ v).setCells g (o + 1) vs).heap[g]? = _; rw [h2]; congr 3; unfold splice; rw [List.take_set, List.drop_set_of_lt (by omega)]
    have h3 : (cur.take (o + 1)).set o v = cur.take o ++ [v] := by
      rw [List.take_succ_eq_append_getElem (by omega), List.set_append, if_neg (by rw [List.length_take]; omega), List.length_take, Nat.min_eq_left (show o ≤ cur.length by omega), Nat.sub_self]; rfl
    rw [h3, List.length_cons, List.append_assoc, List.singleton_append, List.cons_append, show o + 1 + vs.length = o + (vs.length + 1) by omega]
theorem splice_right {α : Type} (T R cs : List α) (o n : Nat) (hn : T.length = n) : splice (T ++ R) (n + o) cs = T ++ splice R o cs := by
  subst hn; unfold splice; rw [List.take_append, List.take_of_length_le (by omega), Nat.add_sub_cancel_left, List.drop_append, List.drop_of_length_le (by omega), List.nil_append, List.append_assoc, show T.length + o + cs.length - T.length = o + cs.length by omega]
end Go.Rv
namespace Go.Proofs.Ytoiephmngdecaaa
open Go.RowKit Go.Rv Rl Frm
set_option linter.unusedVariables false
theorem tab_len' : Tb.tabV.toList.length = 256 := by rw [Array.length_toList]; exact tabV_size
theorem rolC_list (p : Nat) (f c : Int) (v : Value) (sb n : Nat) (a : Int) : (rolC p f c v sb n a).toList = Tb.tabV.toList ++ (rolT p f c v sb n a).toList := by
  unfold rolC; rw [Array.toList_append]
theorem rolC_group (p : Nat) (f c f' c' : Int) (v v' : Value) (sb n : Nat) (a : Int) : (splice (rolC p f c v sb n a).toList 257 [.int .i64 f', .int .i64 c', v']).toArray = rolC p f' c' v' sb n a := by
  apply Array.toList_inj.1; rw [rolC_list, rolC_list, show (257 : Nat) = 256 + 1 from rfl, splice_right _ _ _ 1 256 tab_len']; rfl
theorem rolC_set (p : Nat) (f c : Int) (v : Value) (sb n : Nat) (a : Int) (j : Nat) (x : Value) : (rolC p f c v sb n a).setIfInBounds (256 + j) x = Tb.tabV ++ (rolT p f c v sb n a).setIfInBounds j x := by
  apply Array.toList_inj.1; rw [Array.toList_setIfInBounds, rolC_list, Array.toList_append, Array.toList_setIfInBounds, List.set_append, if_neg (by rw [tab_len']; omega), tab_len', Nat.add_sub_cancel_left]
/-- another open group -/
theorem RolIs.group {w : World} {B q p le ll ce cl sb : Nat} {g : Geo.G} {v : Value} {st : St} (h : RolIs w B q p le ll ce cl sb g v st) (first count : Int) (v' : Value) (ol : List Ch) (hv : OwnM (w.setCells q 257 [.int .i64 first, .int .i64 count, v']) 104 41 chC ChQ B v' ol) :
    RolIs (w.setCells q 257 [.int .i64 first, .int .i64 count, v']) B q p le ll ce cl sb g v' { st with first := first, count := count, ol := ol } := by
  have hh := h.hq; have h2 := heap_setCells_row q 99 [.int .i64 first, .int .i64 count, v'] 257 (rolC p st.first st.count v sb st.single.length st.applied).toList w (by rw [Array.toArray_toList]; exact hh) (by rw [rolC_list, List.length_append, tab_len']; simp [rolT]); rw [rolC_group] at h2; exact h.cells first count st.applied ol (Only.of_setCells q _ _ _) h2 hv
/-- the open group has another list -/
theorem RolIs.list {w : World} {B q p le ll ce cl sb : Nat} {g : Geo.G} {v : Value} {st : St} (h : RolIs w B q p le ll ce cl sb g v st) (v' : Value) (ol : List Ch) (hv : OwnM (w.setCell ⟨q, 259, none⟩ v') 104 41 chC ChQ B v' ol) : RolIs (w.setCell ⟨q, 259, none⟩ v') B q p le ll ce cl sb g v' { st with ol := ol } := by
  have h2 := heap_setCell_same w q 259 _ _ v' h.hq; rw [show (259 : Nat) = 256 + 3 from rfl, rolC_set] at h2; exact h.cells st.first st.count st.applied ol ((Only.refl _ _).setCell (.inl (by simp)) _) h2 hv
/-- one more that took effect -/
theorem RolIs.count {w : World} {B q p le ll ce cl sb : Nat} {g : Geo.G} {v : Value} {st : St} (h : RolIs w B q p le ll ce cl sb g v st) (a : Int) : RolIs (w.setCell ⟨q, 261, none⟩ (.int .i64 a)) B q p le ll ce cl sb g v { st with applied := a } := by
  obtain ⟨-, -, -, -, -, -, nv⟩ := h.ne; have hO : Only [q] w (w.setCell ⟨q, 261, none⟩ (.int .i64 a)) := (Only.refl _ _).setCell (.inl (by simp)) _; have h2 := heap_setCell_same w q 261 _ _ (.int .i64 a) h.hq; rw [show (261 : Nat) = 256 + 5 from rfl, rolC_set] at h2; exact h.cells st.first st.count a st.ol hO h2 (h.hv.only hO (fun k hk => by have := nv k hk; simp [this]))
end Go.Proofs.Ytoiephmngdecaaa
namespace Go.Proofs.Ytoiephmngdecaaa
open Go.RowKit Go.Rv Rl Frm
set_option linter.unusedVariables false
attribute [local go_sem] Oper.semAt_some
theorem Try.infoGrp : (Try.prog.info? 97).map (fun i => (i.zero, i.size)) = some (some (.agg #[.int .i64 0, .int .i64 0, .slice none 0 0]), 3) := by kernel_rfl
theorem built_grp0 : Try.prog.built 97 [] = some #[.int .i64 0, .int .i64 0, .slice none 0 0] := by kernel_rfl
theorem built_be0 : Try.prog.built 54 [] = some (BEC BE.zero) := by kernel_rfl
theorem rolC_size (p : Nat) (f c : Int) (v : Value) (sb n : Nat) (a : Int) : (rolC p f c v sb n a).size = 262 := by
  unfold rolC; rw [Array.size_append, tabV_size]; rfl
theorem RolIs.there {w : World} {B q p le ll ce cl sb : Nat} {g : Geo.G} {v : Value} {st : St} (h : RolIs w B q p le ll ce cl sb g v st) : w.there q 257 3 := by
  intro j hj; have hs := rolC_size p st.first st.count v sb st.single.length st.applied; refine ⟨?_, frozen_of_row _ _ _ _ _ h.hq⟩; rw [cell_of_row _ _ _ _ _ _ h.hq, Array.getElem?_eq_getElem (by omega)]; rfl
namespace Rl
/-- one block is nothing -/
def wipe (g : Geo.G) (st : St) (b : Int) : St := { st with es := setEs g st.es b BE.zero, single := st.single.set b.toNat 0 }
theorem trim_snoc (g : Geo.G) : ∀ (n : Nat) (b : Int) (st : St), trim g b (n + 1) st = wipe g (trim g b n st) (b + (n : Nat))
  | 0, b, st => by
    show { st with es := _, single := _ } = wipe g st _; rw [show b + ((0 : Nat) : Int) = b by omega]; rfl
  | n + 1, b, st => by
    have ih := trim_snoc g n (b + 1) { st with es := setEs g st.es b BE.zero, single := st.single.set b.toNat 0 }; show trim g (b + 1) (n + 1) _ = _; rw [ih, show b + 1 + (n : Int) = b + ((n + 1 : Nat) : Int) by omega]; rfl
end Rl
theorem zeroE64 : E64 BE.zero := ⟨rfl, rfl, rfl, rfl, rfl, rfl⟩
set_option maxRecDepth 100000 in
set_option maxHeartbeats 16000000 in
theorem rother_any (w : World) (B q p le ll ce cl sb : Nat) (g : Geo.G) (v : Value) (st : St) (hr : Geo.right g = true) (h : RolIs w B q p le ll ce cl sb g v st) (c : Ch) (hq : ChQ c) (seq : Int) (hb : 0 ≤ c.r.e.block ∧ c.r.e.block < g.b) (hE : E64 (beOf seq c))
    (hm : 0 ≤ c.r.e.many ∧ c.r.e.block + c.r.e.many ≤ g.b) (hgb : g.b ≤ 256) (ha : -1000000 ≤ st.applied ∧ st.applied ≤ 1000000) :
    Calls Try.prog 32 #[.pointer (some ⟨q, 0, none⟩), .int .i64 seq, .agg (chC c)] w fun e w' => ∃ v', e = .returned (.tuple #[]) ∧ RolIs w' B q p le ll ce cl sb g v' (Rl.other g st seq c) ∧ Below B w w' := by
  have HLI := Lib.hid (fun (W : World) (v : Value) (st : St) hR => rlie_any W B q p le ll ce cl sb g v st hr hR c hq seq hb hE); have HBS := Lib.hid (fun (W : World) es hok hM (k : Int) => bset_any W p le ll ce cl g es hr hok hM k BE.zero zeroE64); have HBG := Lib.hid built_grp0; have HBE := Lib.hid built_be0; have HIG : Hid ((Try.prog.info? 97).map (·.size) = some (#[.int .i64 0, .int .i64 0, .slice none 0 0] : Array Value).size) := Lib.hid (zero_of_info Try.infoGrp).2; have HCI := Lib.hid (size_ch hq); have hBs := h.hB.2.2.2.2.2; obtain ⟨W1, hW1⟩ : ∃ W, w.alloc (.cells (chC c) 104) = W := ⟨_, rfl⟩; have hb1 : Below w.heap.size w W1 := by rw [← hW1]; exact (Below.refl _ _).alloc (Nat.le_refl _) _
  have hc1 : W1.heap[w.heap.size]? = some (.cells (chC c) 104 (0, 0)) := by rw [← hW1]; exact heap_alloc_new w _
  have zc1 : w.heap.size < W1.heap.size := (Array.getElem?_eq_some_iff.1 hc1).1; have hR1 := h.below hb1; have hlt := (Array.getElem?_eq_some_iff.1 h.hq).1; obtain ⟨W2, hW2⟩ : ∃ W, W1.setCells q 257 [.int .i64 0, .int .i64 0, .slice none 0 0] = W := ⟨_, rfl⟩; have hR2 := hR1.group 0 0 (.slice none 0 0) [] (OwnM.nil _ _ _ _ _ _); have hO2 : Only [q] W1 W2 := by rw [← hW2]; exact Only.of_setCells q _ _ _
  rw [hW2] at hR2; obtain ⟨W3, hW3⟩ : ∃ W, W2.setCell ⟨q, 261, none⟩ (.int .i64 (st.applied + 1)) = W := ⟨_, rfl⟩; have hR3 := hR2.count (st.applied + 1); have hO3 : Only [q] W1 W3 := by rw [← hW3]; exact hO2.setCell (.inl (by simp)) _
  rw [hW3] at hR3; have hB3 : Below B w W3 := (hb1.mono hBs).trans (hO3.below (by simp; exact h.hB.1) (by have := hb1.size; omega)); have hc3 := hO3.get hc1 (by simp; omega); obtain ⟨k0, k3, k4, -, -, -, -⟩ := ch_cells hq hc3; obtain ⟨-, -, -, -, -, a2⟩ := hR2.own; have f2 : W2.frozen? ⟨q, 261, none⟩ = false := frozen_of_row _ _ _ _ _ hR2.hq; have HW1 := Lib.hid hW1; have HW2 := Lib.hid hW2; have HW3 := Lib.hid hW3; have HB3 := Lib.hid hB3; have HC3 := Lib.hid hc3; have HTH := Lib.hid hR1.there; have HR3 := Lib.hid hR3; have zc3 : w.heap.size < W3.heap.size := (Array.getElem?_eq_some_iff.1 hc3).1; have HCC := Lib.hid (fun (W : World) (hh : W.heap[w.heap.size]? = some (.cells (chC c) 104 (0, 0))) => ch_cells hq hh); obtain ⟨st1, hst1⟩ : ∃ s, ({ shut st with applied := st.applied + 1 } : St) = s := ⟨_, rfl⟩; have hR3' : RolIs W3 B q p le ll ce cl sb g (.slice none 0 0) st1 := by rw [← hst1]; exact hR3
  have HR := Lib.hid hR3'; have HS1 : Hid (st1.single.length = g.b.toNat) := Lib.hid hR3'.hn; have hBW3 := hR3'.hB.2.2.2.2.2; have hother : Rl.other g st seq c = if c.r.e.kind = 3 then Rl.lie g st1 seq c else Rl.trim g c.r.e.block c.r.e.many.toNat st1 := by rw [← hst1]; rfl
  obtain ⟨res, hres⟩ : ∃ r, Rl.other g st seq c = r := ⟨_, rfl⟩; rw [hres] at hother ⊢; have HQB : Hid (B ≤ le ∧ B ≤ ll ∧ B ≤ sb) := Lib.hid ⟨h.hB.2.2.1, h.hB.2.2.2.1, h.hB.2.2.2.2.1⟩; have HLT : Hid (le < w.heap.size ∧ ll < w.heap.size ∧ sb < w.heap.size) := Lib.hid ⟨h.hm.lt.2.1, h.hm.lt.2.2, (Array.getElem?_eq_some_iff.1 h.hs).1⟩; have HSN : Hid (st.single.length = g.b.toNat) := Lib.hid h.hn; clear h hb1 hc1 hR1 hR2 hO2 hR3 hO3 hB3 hc3 hW1 hW2 hW3 hR3' hst1 hres; obtain ⟨X, hX⟩ : ∃ X, chC c = X := ⟨_, rfl⟩; rw [hX] at HLI HCI HW1 HC3 HCC ⊢; clear hX
  have hcase : ((c.r.e.kind == 3) = true ∧ res = Rl.lie g st1 seq c) ∨ ((c.r.e.kind == 3) = false ∧ res = Rl.trim g c.r.e.block c.r.e.many.toNat st1) := by
    by_cases h3 : c.r.e.kind = 3
    · exact .inl ⟨by simp [h3], by rw [hother, if_pos h3]⟩
    · exact .inr ⟨by simp [h3], by rw [hother, if_neg h3]⟩
  clear hother; obtain ⟨kd, hkd⟩ : ∃ k, c.r.e.kind = k := ⟨_, rfl⟩; obtain ⟨bl, hbl⟩ : ∃ k : Nat, c.r.e.block = k := ⟨c.r.e.block.toNat, by omega⟩; obtain ⟨mn, hmn⟩ : ∃ k : Nat, c.r.e.many = k := ⟨c.r.e.many.toNat, by omega⟩; rw [hkd] at k0 hcase; rw [hbl] at k3 hcase hm; rw [hmn] at k4 hcase hm; simp only [hkd, hbl, hmn] at HCC; simp only [Int.toNat_natCast] at hcase; have hap := ha; clear hkd hbl hmn hb; go_enter Try.func32, Try.ntmps32; go_upto_region 1 with (fail); rw [HW1.out]; go_upto_region 2 with (first | (refine wpList_build_on (by rfl) 97 _ rfl #[] (by simp) _ HBG.out ?_) | (refine wpList_store_mid rfl 97 _ _ rfl q 257 #[.int .i64 0, .int .i64 0, .slice none 0 0] rfl rfl HTH.out HIG.out (by simp [Value.oneCell']) ?_)); rw [HW2.out, put_none]; go_upto_region 3 with (fail); rw [HW3.out]; clear a2 f2; rcases hcase with ⟨t1, rfl⟩ | ⟨t1, rfl⟩
  · have hL := HLI.out W3 _ _ HR.out; have HL := Lib.hid hL; clear hL; go_wp2_with (refine wpList_load_row rfl 104 _ rfl w.heap.size rfl 104 _ _ _ HC3.out Try.underlying104 rfl HCI.out ?_); refine HL.out.mono ?_; rintro e4 w4 ⟨rfl, hR4, hB4⟩; have HR4 := Lib.hid hR4; have HB4 := Lib.hid (HB3.out.trans hB4); clear hR4 hB4; go_wp2; refine bodyPost_ret (results_none rfl _ _ _) rfl ?_; exact ⟨_, rfl, HR4.out, HB4.out⟩
  · have hmn256 : mn ≤ 256 := by omega
    have hbl256 : bl ≤ 256 := by omega
    go_wp2; go_loopw [6] (fun u wr => ∃ k : Nat, k ≤ mn ∧ u = .int .i64 ((bl : Int) + (k : Nat)) ∧ RolIs wr B q p le ll ce cl sb g (.slice none 0 0) (Rl.trim g bl k st1) ∧ wr.heap[w.heap.size]? = some (.cells X 104 (0, 0)) ∧ Below B W3 wr) (fun u _ => mn - ((intOf u) - (bl : Int)).toNat)
    case atStart => exact ⟨0, Nat.zero_le _, by simp, HR.out, HC3.out, Below.refl _ _⟩
    case round =>
      obtain ⟨k, hk, rfl, hRk, hCk, hBk⟩ := hrel; obtain ⟨-, d3, d4, -, -, -, -⟩ := HCC.out wr hCk; have HRK := Lib.hid hRk; have HCK := Lib.hid hCk; have HBK := Lib.hid hBk; have hlen : (Rl.trim g bl k st1).single.length = g.b.toNat := hRk.hn; obtain ⟨a0, -, -, -, -, -⟩ := hRk.own; clear hRk hCk hBk k0 k3 k4; by_cases hlt : k < mn
      · have t9 : decide ((bl : Int) + (k : Nat) < (bl : Int) + (mn : Nat)) = true := decide_eq_true (by omega); have HS := Lib.hid (HBS.out wr _ HRK.out.hok HRK.out.hm ((bl : Int) + (k : Nat))); have hst : Rl.trim g bl (k + 1) st1 = Rl.wipe g (Rl.trim g bl k st1) ((bl : Int) + (k : Nat)) := Rl.trim_snoc g k bl st1; have HST := Lib.hid hst; have HLEN := Lib.hid hlen; clear hst hlen; obtain ⟨sk, hsk⟩ : ∃ s, Rl.trim g bl k st1 = s := ⟨_, rfl⟩; rw [hsk] at HRK HS HST HLEN; clear hsk; go_wp2_with (refine wpList_build_on (by rfl) 54 _ rfl #[] (by simp) _ HBE.out ?_); refine HS.out.mono ?_; rintro e5 w5 ⟨rfl, hM5, hO5⟩; have hR5 := HRK.out.map hM5 (setEs_ok HRK.out.hok zeroE64 _) hO5; have hj : bl + k < sk.single.length := by rw [HLEN.out]; omega
        obtain ⟨-, -, -, -, c5, -⟩ := hR5.own; obtain ⟨x5, f5⟩ := hR5.one (j := bl + k) hj; have hR6 := hR5.mark (bl + k) 0; obtain ⟨W6, hW6⟩ : ∃ W, w5.setCell ⟨sb, bl + k, none⟩ (.int .i64 0) = W := ⟨_, rfl⟩; have hO6 : Only [le, ll, sb] wr W6 := by rw [← hW6]; exact (hO5.mono (by simp)).setCell (.inl (by simp)) _
        rw [hW6] at hR6
        have hR7 : RolIs W6 B q p le ll ce cl sb g (.slice none 0 0) (Rl.trim g bl (k + 1) st1) := by
          rw [HST.out]; unfold Rl.wipe; rw [show ((bl : Int) + (k : Nat)).toNat = bl + k by omega]; exact hR6
        have HR7 := Lib.hid hR7; have HC7 := Lib.hid (hO6.get HCK.out (by have := HLT.out; simp only [List.mem_cons, List.mem_nil_iff, or_false]; omega)); have HB7 := Lib.hid (HBK.out.trans (hO6.below (by have := HQB.out; simp only [List.mem_cons, List.mem_nil_iff, or_false]; rintro x (rfl | rfl | rfl) <;> omega) (by have := HBK.out.size; omega))); have HW6 := Lib.hid hW6; have hln : sk.single.length ≤ 1000 := by rw [HLEN.out]; omega
        clear hM5 hO5 hR5 hR6 hR7 hO6 hW6 d3 d4 a0; go_upto_region 7 with (fail); rw [HW6.out]; clear c5 x5 f5; go_wp2
        first | exact ⟨⟨k + 1, by omega, by go_num, HR7.out, HC7.out, HB7.out⟩, by simp [intOf]; omega⟩ | (go_roundw; exact ⟨k + 1, by omega, by go_num, HR7.out, HC7.out, HB7.out⟩; simp [intOf]; omega)
      · obtain rfl : k = mn := by omega
        have t9 : decide ((bl : Int) + (k : Nat) < (bl : Int) + (k : Nat)) = false := by simp
        clear t9; go_wp2; refine bodyPost_end (results_none rfl _ _ _) rfl ?_; exact ⟨_, rfl, HRK.out, HB3.out.trans HBK.out⟩
end Go.Proofs.Ytoiephmngdecaaa
