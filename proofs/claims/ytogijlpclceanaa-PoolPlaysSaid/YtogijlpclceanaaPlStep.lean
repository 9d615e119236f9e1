/- Proved here: the law's step: both pools go on alike. -/
import Derived.Test.YtogijlpclceanaaRpG
import Derived.Test.YtogijlpclceanaaConf5
import Derived.Deep.Cut
namespace PoolM
/-- a step: the list behind it -/
def stepOf (D : Nat) (z : Int) (L : List Int) (kind x : Int) : List Int :=
  if kind = 1 then (giveOf D z L x).1 else if kind = 2 then (takeOf D z L x).1 else if kind = 3 then (pairOf D z L).1 else if kind = 4 then (dropOf L x).1 else L
theorem Ok.step {D : Nat} {z : Int} {L : List Int} (h : Ok D z L) (kind x : Int) : Ok D z (stepOf D z L kind x) := by
  unfold stepOf
  split
  · exact h.give x
  split
  · exact h.take x
  split
  · exact h.pair
  split
  · exact h.drop x
  · exact h
end PoolM
namespace Go.Proofs.Ytogijlpclceanaa
open Go.Conc Go.RowKit Go.Rv Go.Shelf
set_option linter.unusedVariables false
attribute [local go_sem] Oper.semAt_some
open PoolM (dl cnt Ok less cntR giveOf dropOf takeOf pairOf stepOf)
theorem PoolIs.rp {w : World} {P : PR} {L : List Int} (h : PoolIs w P L) : RpOk P.qc.length P.g.z L := ⟨h.ok, h.small.2.1.2, h.len8.2, by have := h.len8; omega⟩
def opV (kind x : Int) : Array Value := #[.int .i64 kind, .int .i64 x]
theorem step_rows (w : World) (X Y : Array Value) : ∃ W0, ((w.alloc (.cells X 61)).alloc (.cells Y 74)).alloc (.cells (RP 0 0 (.slice none 0 0)) 61) = W0 ∧ Below w.heap.size w W0 ∧
    W0.heap[w.heap.size]? = some (.cells X 61 (0, 0)) ∧ W0.heap[w.heap.size + 1]? = some (.cells Y 74 (0, 0)) ∧ W0.heap[w.heap.size + 1 + 1]? = some (.cells (RP 0 0 (.slice none 0 0)) 61 (0, 0)) := by
  obtain ⟨h1, h2, h3⟩ := alloc3_at w (.cells X 61) (.cells Y 74) (.cells (RP 0 0 (.slice none 0 0)) 61)
  exact ⟨_, rfl, below3 _ _ _ _, h1, h2, h3⟩
/-- ints lie in no channel of a pool -/
theorem int_ne_chan {w : World} {P : PR} {L M : List Int} {v : Value} (hv : IntsC w v M) (h : PoolIs w P L) (h0 : M ≠ []) {ad : Addr} {n c : Nat} (e : v = .slice (some ad) n c) : ad.block ∉ P.cs := by
  intro hm
  obtain ⟨a, cp, e1, hI, -⟩ := hv
  rw [e1] at e
  injection e with e2
  rcases hI.2 with h1 | ⟨b, o, ha, hlt, hc⟩
  · exact h0 h1
  · rw [e2] at ha
    injection ha with ha
    subst ha
    obtain ⟨⟨q, ch⟩, hx, hy⟩ := List.mem_map.1 hm
    obtain ⟨k, hk, hx⟩ := List.getElem_of_mem hx
    obtain ⟨s, r, hch⟩ := (h.que k q ch (by rw [List.getElem?_eq_getElem hk, hx])).2
    exact cell_ne_chan (hc 0 (List.length_pos_iff.2 h0)) hch hy.symm
/-- what comes of a step -/
def StepPost (P : PR) (L' : List Int) (v : Value) (w : World) (e : Ending) (w' : World) : Prop := ∃ v', e = .returned (.tuple #[.agg (RP P.qc.length P.g.z v'), .bool true]) ∧ IntsC w' v' L' ∧ PoolIs w' P L' ∧ Only P.cs w w' ∧ (v' = v ∨ NewS w.heap.size v')
set_option maxRecDepth 100000 in
set_option maxHeartbeats 4000000 in
theorem pstep_1 (w : World) (P : PR) (L : List Int) (v : Value) (x : Int) (h : PoolIs w P L) (hv : IntsC w v L) :
    Calls Try.prog 40 #[.pointer (some ⟨P.p, 0, none⟩), .agg (RP P.qc.length P.g.z v), .agg (opV 1 x)] w (StepPost P ((giveOf P.qc.length P.g.z L x).1) v w) := by
  have hrp := h.rp
  have hbs := h.lt
  obtain ⟨D, hD⟩ : ∃ D, P.qc.length = D := ⟨_, rfl⟩
  obtain ⟨z, hz⟩ : ∃ z, P.g.z = z := ⟨_, rfl⟩
  obtain ⟨W0, hW0, hal, hx0, ho0, hr0⟩ := step_rows w (RP P.qc.length P.g.z v) (opV 1 x)
  have hzz := (zero_of_info Try.infoRP).1
  have HIX := Lib.hid (fun u => rp_info P.qc.length P.g.z u)
  have HZX : Hid (∀ u, (RP 0 0 (.slice none 0 0)).size = (RP P.qc.length P.g.z u).size) := Lib.hid (fun _ => rfl)
  have HOC : Hid (∀ W : World, W.heap[w.heap.size + 1]? = some (.cells (opV 1 x) 74 (0, 0)) → W.cell? ⟨w.heap.size + 1, 0, none⟩ = some (.int .i64 1) ∧ W.cell? ⟨w.heap.size + 1, 1, none⟩ = some (.int .i64 x)) := Lib.hid (fun W hh => ⟨(cell_of_row _ _ _ _ _ _ hh).trans rfl, (cell_of_row _ _ _ _ _ _ hh).trans rfl⟩)
  have HW0 := Lib.hid hW0
  have HX0 := Lib.hid hx0
  have HO0 := Lib.hid ho0
  have HR0 := Lib.hid hr0
  have HP0 := Lib.hid (h.below hal)
  have HV0 := Lib.hid (hv.belowP hal)
  have HOFF := Lib.hid (OffB.of_old hv (show w.heap.size ≤ w.heap.size + 1 + 1 by omega))
  have HSH := Lib.hid (IntsC.shape hv)
  have HAL := Lib.hid hal
  have HOK := Lib.hid hrp
  have HCS : Hid (∀ k ∈ P.cs, k < w.heap.size) := Lib.hid (fun k hk => hbs k (PR.cs_bs hk))
  have HBS := Lib.hid hbs
  have zr : w.heap.size + 1 + 1 < W0.heap.size := (Array.getElem?_eq_some_iff.1 hr0).1
  have HNE : Hid (∀ i, w.heap.size ≤ i → i ∉ P.bs ∧ i ∉ P.cs) := Lib.hid (fun i hi => ⟨fun h => by have := hbs i h; omega, fun h => by have := hbs i (PR.cs_bs h); omega⟩)
  rw [hD, hz] at HIX HZX HOK HX0 HW0 ⊢
  unfold StepPost
  rw [hD, hz]
  have HDE := Lib.hid hD
  have HZE := Lib.hid hz
  obtain ⟨R, hR⟩ : ∃ R, giveOf D z L x = R := ⟨_, rfl⟩
  have HREF := Lib.hid (fun (W : World) (hW : IntsC W v L) => rpc_give D z v L x W HOK.out hW)
  have HIMP := Lib.hid (fun (W : World) (hW : PoolIs W P L) => pgive_any W P L hW x)
  try simp only [HDE.out, HZE.out] at HIMP
  rw [hR] at HREF HIMP ⊢
  clear hR
  clear h hv hW0 hal hx0 ho0 hr0 hrp hbs hD hz
  go_enter Try.func40, Try.ntmps40
  go_upto_region 1 with (fail)
  rw [HW0.out]
  obtain ⟨o0, o1⟩ := HOC.out _ HO0.out
  go_wp2_with (refine wpList_row_on (by rfl) 61 _ rfl w.heap.size rfl 61 _ _ _ HX0.out Try.underlying61 rfl (HIX.out _) ?_)
  refine (HREF.out _ HV0.out).mono ?_
  rintro e w2 ⟨v', rfl, hv', hs', hB2⟩
  have HSH' := Lib.hid (IntsC.shape hv')
  obtain ⟨W3, hW3⟩ : ∃ W3, w2.alloc (.cells (RP D z v') 61) = W3 := ⟨_, rfl⟩
  have hb3 : Below w2.heap.size w2 W3 := by rw [← hW3]; exact (Below.refl _ _).alloc (Nat.le_refl _) _
  have z2 := hB2.size
  have hB03 := hB2.trans (hb3.mono z2)
  have HT3 : Hid (W3.heap[w2.heap.size]? = some (.cells (RP D z v') 61 (0, 0))) := Lib.hid (by rw [← hW3]; exact heap_alloc_new w2 _)
  have HO3 := Lib.hid ((hB03.block (w.heap.size + 1) (by omega)).trans HO0.out)
  have HR3 := Lib.hid ((hB03.block (w.heap.size + 1 + 1) zr).trans HR0.out)
  have HP3 := Lib.hid (HP0.out.below hB03)
  have HV3 := Lib.hid (hv'.belowP hb3)
  have HOFF3 := Lib.hid (HOFF.out.step HV0.out hv' hs' zr)
  have HNS : Hid (v' = v ∨ NewS w.heap.size v') := Lib.hid (hs'.imp id (fun h => fun ad n c e => by have := h ad n c e; omega))
  have HB3 := Lib.hid (HAL.out.trans (hB03.mono HAL.out.size))
  have z3 : w2.heap.size < W3.heap.size := (Array.getElem?_eq_some_iff.1 HT3.out).1
  have HW3 := Lib.hid hW3
  clear hB2 hb3 hB03 hW3 hv' hs' o0 o1
  go_upto_region 4 with (refine wpList_store_row rfl 61 _ _ rfl w2.heap.size (RP D z v') rfl rfl 61 (RP 0 0 (.slice none 0 0)) (heap_alloc_new w2 _) (HIX.out _) (HZX.out _) (rp_one _ _ HSH'.out) ?_; rw [World.setRow_alloc_new])
  rw [HW3.out]
  refine wp_region_stage 8 [.agg (RP D z v'), .pointer (some ⟨P.p, 0, none⟩), .pointer (some ⟨w.heap.size + 1, 1, none⟩), .int .i64 x, .int .i64 R.2, .int .i64 R.2, .bool true, undef] [4, 7] [0, 0, 0, 0, 1, 0, 1, 2] (fun s W => (if s = 0 then PoolIs W P L else PoolIs W P R.1) ∧ Only ((w.heap.size + 1 + 1) :: P.cs) W3 W ∧ W.heap[w.heap.size + 1 + 1]? = some (.cells (if s = 2 then RP D z v' else RP 0 0 (.slice none 0 0)) 61 (0, 0))) ?ra1A (by kernel_rfl) (by kernel_rfl) (by kernel_rfl) ?ra1hA ?ra1h0 ?ra1hb ?ra1ho ?ra1hend
  case ra1hA =>
    intro vv
    simp only [putRules, Nat.reduceAdd]
    rfl
  case ra1h0 =>
    exact ⟨by rw [if_pos rfl]; exact HP3.out.only (Only.refl [] _).drew (by simp), (Only.refl _ _).drew, by rw [if_neg (by decide)]; exact HR3.out⟩
  case ra1hb =>
    intro s W W' ⟨h1, h2, h3⟩ hB
    refine ⟨?_, h2.trans (Only.of_below hB), (hB.block _ (Array.getElem?_eq_some_iff.1 h3).1).trans h3⟩
    by_cases hs : s = 0
    · rw [if_pos hs] at h1 ⊢; exact h1.below hB
    · rw [if_neg hs] at h1 ⊢; exact h1.below hB
  case ra1ho =>
    refine ⟨?_, ?_, ?_, ?_, ?_, ?_, ?_, ?_, trivial⟩
    · intro vv W K s hlo hI hd HK
      simp only [confRules, conf5Rules] at HK
      clear hd
      have hT := hI.2.1.get HT3.out (by intro h; rcases List.mem_cons.1 h with e | h; omega; exact (HNE.out _ (by omega)).2 h)
      go_wp2_with (refine wpList_row_on (by rfl) 61 _ rfl w2.heap.size rfl 61 _ _ _ hT Try.underlying61 rfl (HIX.out _) ?_)
      refine HK.out _ _ (Below.refl _ _) ?_
      rfl
    · intro vv W K s hlo hI hd HK
      simp only [confRules, conf5Rules] at HK
      clear hd
      go_wp2
      refine HK.out _ _ (Below.refl _ _) ?_
      rfl
    · intro vv W K s hlo hI hd HK
      simp only [confRules, conf5Rules] at HK
      clear hd
      go_wp2
      refine HK.out _ _ (Below.refl _ _) ?_
      rfl
    · intro vv W K s hlo hI hd HK
      simp only [confRules, conf5Rules] at hd HK
      have h2 := hd
      clear hd
      simp only [h2] at HK ⊢
      clear h2
      have hT := hI.2.1.get HO3.out (by intro h; rcases List.mem_cons.1 h with e | h; omega; exact (HNE.out _ (by omega)).2 h)
      obtain ⟨-, c1⟩ := HOC.out _ hT
      go_wp2
      refine HK.out _ _ (Below.refl _ _) ?_
      rfl
    · intro vv W K hI hd HK
      simp only [confRules, conf5Rules] at hd HK
      obtain ⟨h1, h3⟩ := hd
      simp only [h1, h3] at HK ⊢
      clear h1 h3
      obtain ⟨h1, h2, h3⟩ := hI
      rw [if_pos rfl] at h1
      rw [if_neg (by decide)] at h3
      go_wp2_with (refine (HIMP.out _ h1).mono ?_; rintro e w9 ⟨rfl, h9, hO9⟩)
      refine HK.out _ _ ⟨by rw [if_neg (by decide)]; exact h9, h2.trans (hO9.mono (fun k hk => .inl (by simp [hk]))), by rw [if_neg (by decide)]; exact hO9.get h3 (HNE.out _ (by omega)).2⟩ ?_
      rfl
    · intro vv W K s hlo hI hd HK
      simp only [confRules, conf5Rules] at hd HK
      have h7 := hd
      clear hd
      simp only [h7] at HK ⊢
      clear h7
      go_wp2
      refine HK.out _ _ (Below.refl _ _) ?_
      rfl
    · intro vv W K s hlo hI hd HK
      simp only [confRules, conf5Rules] at hd HK
      obtain ⟨h4, h5, h7⟩ := hd
      simp only [h4, h5, h7] at HK ⊢
      clear h4 h5 h7
      go_wp2
      refine HK.out _ _ (Below.refl _ _) ?_
      first | rfl | exact congrArg Value.bool (by simp)
    · intro vv W K hI hd HK
      simp only [confRules, conf5Rules] at hd HK
      obtain ⟨h0, h4, _, h1, h2, h3, _, h5, h6⟩ := hd
      simp only [h0, h4, h1, h2, h3, h5, h6] at HK ⊢
      clear h0 h4 h1 h2 h3 h5 h6
      obtain ⟨h1, h2, h3⟩ := hI
      rw [if_neg (by decide)] at h1
      rw [if_neg (by decide)] at h3
      go_wp2_with (refine wpList_store_row rfl 61 _ _ rfl (w.heap.size + 1 + 1) (RP D z v') rfl rfl 61 (RP 0 0 (.slice none 0 0)) h3 (HIX.out _) (HZX.out _) (rp_one _ _ HSH'.out) ?_)
      have hO := only_setRow W (w.heap.size + 1 + 1) (RP D z v')
      refine HK.out _ _ ⟨by rw [if_neg (by decide)]; exact h1.only hO (by simpa using (HNE.out _ (by omega)).1), h2.trans (hO.mono (fun k hk => .inl (by simp at hk; simp [hk]))), by first | (rw [if_pos rfl]; exact setRow_heap _ _ _ _ _ _ h3) | (rw [if_pos trivial]; exact setRow_heap _ _ _ _ _ _ h3)⟩ ?_
      rfl
  case ra1hend =>
    intro vv W hI hf
    have e6 := hf 6 (by decide)
    simp only [conf5Rules] at e6
    simp only [e6, dropRules]
    clear hf e6
    obtain ⟨h1, h2, h3⟩ := hI
    have h1' : PoolIs W P R.1 := h1
    have h3' : W.heap[w.heap.size + 1 + 1]? = some (.cells (RP D z v') 61 (0, 0)) := h3
    have HP4 := Lib.hid h1'
    have HR4 := Lib.hid h3'
    have HV4 := Lib.hid (HV3.out.apart (S := (w.heap.size + 1 + 1) :: P.cs) h2 (fun h0 ad n c e hm => by
      rcases List.mem_cons.1 hm with e2 | hm
      · exact HOFF3.out h0 ad n c e (by simpa using e2)
      · exact int_ne_chan HV3.out HP3.out h0 e hm))
    have HO4 : Hid (Only P.cs w W) := Lib.hid ((Only.of_below (S := P.cs) HB3.out).trans' h2 (fun k hk => by rcases List.mem_cons.1 hk with e | hk; exact .inr (by omega); exact .inl hk))
    clear h1 h2 h3 h1' h3'
    go_wp2
    refine bodyPost_ret (rres_ct rfl _ _ (w.heap.size + 1 + 1) 61 (RP D z v') _ _ rfl HR4.out Try.underlying61 rfl (HIX.out _)) rfl ?_
    exact ⟨v', rfl, HV4.out, HP4.out, HO4.out, HNS.out⟩
set_option maxRecDepth 100000 in
set_option maxHeartbeats 4000000 in
theorem pstep_4 (w : World) (P : PR) (L : List Int) (v : Value) (x : Int) (h : PoolIs w P L) (hv : IntsC w v L) :
    Calls Try.prog 40 #[.pointer (some ⟨P.p, 0, none⟩), .agg (RP P.qc.length P.g.z v), .agg (opV 4 x)] w (StepPost P ((dropOf L x).1) v w) := by
  have hrp := h.rp
  have hbs := h.lt
  obtain ⟨D, hD⟩ : ∃ D, P.qc.length = D := ⟨_, rfl⟩
  obtain ⟨z, hz⟩ : ∃ z, P.g.z = z := ⟨_, rfl⟩
  obtain ⟨W0, hW0, hal, hx0, ho0, hr0⟩ := step_rows w (RP P.qc.length P.g.z v) (opV 4 x)
  have hzz := (zero_of_info Try.infoRP).1
  have HIX := Lib.hid (fun u => rp_info P.qc.length P.g.z u)
  have HZX : Hid (∀ u, (RP 0 0 (.slice none 0 0)).size = (RP P.qc.length P.g.z u).size) := Lib.hid (fun _ => rfl)
  have HOC : Hid (∀ W : World, W.heap[w.heap.size + 1]? = some (.cells (opV 4 x) 74 (0, 0)) → W.cell? ⟨w.heap.size + 1, 0, none⟩ = some (.int .i64 4) ∧ W.cell? ⟨w.heap.size + 1, 1, none⟩ = some (.int .i64 x)) := Lib.hid (fun W hh => ⟨(cell_of_row _ _ _ _ _ _ hh).trans rfl, (cell_of_row _ _ _ _ _ _ hh).trans rfl⟩)
  have HW0 := Lib.hid hW0
  have HX0 := Lib.hid hx0
  have HO0 := Lib.hid ho0
  have HR0 := Lib.hid hr0
  have HP0 := Lib.hid (h.below hal)
  have HV0 := Lib.hid (hv.belowP hal)
  have HOFF := Lib.hid (OffB.of_old hv (show w.heap.size ≤ w.heap.size + 1 + 1 by omega))
  have HSH := Lib.hid (IntsC.shape hv)
  have HAL := Lib.hid hal
  have HOK := Lib.hid hrp
  have HCS : Hid (∀ k ∈ P.cs, k < w.heap.size) := Lib.hid (fun k hk => hbs k (PR.cs_bs hk))
  have HBS := Lib.hid hbs
  have zr : w.heap.size + 1 + 1 < W0.heap.size := (Array.getElem?_eq_some_iff.1 hr0).1
  have HNE : Hid (∀ i, w.heap.size ≤ i → i ∉ P.bs ∧ i ∉ P.cs) := Lib.hid (fun i hi => ⟨fun h => by have := hbs i h; omega, fun h => by have := hbs i (PR.cs_bs h); omega⟩)
  rw [hD, hz] at HIX HZX HOK HX0 HW0 ⊢
  unfold StepPost
  rw [hD, hz]
  have HDE := Lib.hid hD
  have HZE := Lib.hid hz
  obtain ⟨R, hR⟩ : ∃ R, dropOf L x = R := ⟨_, rfl⟩
  have HREF := Lib.hid (fun (W : World) (hW : IntsC W v L) => rpc_drop D z v L x W HOK.out hW)
  have HIMP := Lib.hid (fun (W : World) (hW : PoolIs W P L) => pdrop_any W P L hW x)
  try simp only [HDE.out, HZE.out] at HIMP
  rw [hR] at HREF HIMP ⊢
  clear hR
  clear h hv hW0 hal hx0 ho0 hr0 hrp hbs hD hz
  go_enter Try.func40, Try.ntmps40
  go_upto_region 1 with (fail)
  rw [HW0.out]
  obtain ⟨o0, o1⟩ := HOC.out _ HO0.out
  go_wp2_with (refine wpList_row_on (by rfl) 61 _ rfl w.heap.size rfl 61 _ _ _ HX0.out Try.underlying61 rfl (HIX.out _) ?_)
  refine (HREF.out _ HV0.out).mono ?_
  rintro e w2 ⟨v', rfl, hv', hs', hB2⟩
  have HSH' := Lib.hid (IntsC.shape hv')
  obtain ⟨W3, hW3⟩ : ∃ W3, w2.alloc (.cells (RP D z v') 61) = W3 := ⟨_, rfl⟩
  have hb3 : Below w2.heap.size w2 W3 := by rw [← hW3]; exact (Below.refl _ _).alloc (Nat.le_refl _) _
  have z2 := hB2.size
  have hB03 := hB2.trans (hb3.mono z2)
  have HT3 : Hid (W3.heap[w2.heap.size]? = some (.cells (RP D z v') 61 (0, 0))) := Lib.hid (by rw [← hW3]; exact heap_alloc_new w2 _)
  have HO3 := Lib.hid ((hB03.block (w.heap.size + 1) (by omega)).trans HO0.out)
  have HR3 := Lib.hid ((hB03.block (w.heap.size + 1 + 1) zr).trans HR0.out)
  have HP3 := Lib.hid (HP0.out.below hB03)
  have HV3 := Lib.hid (hv'.belowP hb3)
  have HOFF3 := Lib.hid (HOFF.out.step HV0.out hv' hs' zr)
  have HNS : Hid (v' = v ∨ NewS w.heap.size v') := Lib.hid (hs'.imp id (fun h => fun ad n c e => by have := h ad n c e; omega))
  have HB3 := Lib.hid (HAL.out.trans (hB03.mono HAL.out.size))
  have z3 : w2.heap.size < W3.heap.size := (Array.getElem?_eq_some_iff.1 HT3.out).1
  have HW3 := Lib.hid hW3
  clear hB2 hb3 hB03 hW3 hv' hs' o0 o1
  go_upto_region 15 with (refine wpList_store_row rfl 61 _ _ rfl w2.heap.size (RP D z v') rfl rfl 61 (RP 0 0 (.slice none 0 0)) (heap_alloc_new w2 _) (HIX.out _) (HZX.out _) (rp_one _ _ HSH'.out) ?_; rw [World.setRow_alloc_new])
  rw [HW3.out]
  refine wp_region_stage 8 [.agg (RP D z v'), .pointer (some ⟨P.p, 0, none⟩), .pointer (some ⟨w.heap.size + 1, 1, none⟩), .int .i64 x, .int .i64 R.2, .int .i64 R.2, .bool true, undef] [4, 7] [0, 0, 0, 0, 1, 0, 1, 2] (fun s W => (if s = 0 then PoolIs W P L else PoolIs W P R.1) ∧ Only ((w.heap.size + 1 + 1) :: P.cs) W3 W ∧ W.heap[w.heap.size + 1 + 1]? = some (.cells (if s = 2 then RP D z v' else RP 0 0 (.slice none 0 0)) 61 (0, 0))) ?ra4A (by kernel_rfl) (by kernel_rfl) (by kernel_rfl) ?ra4hA ?ra4h0 ?ra4hb ?ra4ho ?ra4hend
  case ra4hA =>
    intro vv
    simp only [putRules, Nat.reduceAdd]
    rfl
  case ra4h0 =>
    exact ⟨by rw [if_pos rfl]; exact HP3.out.only (Only.refl [] _).drew (by simp), (Only.refl _ _).drew, by rw [if_neg (by decide)]; exact HR3.out⟩
  case ra4hb =>
    intro s W W' ⟨h1, h2, h3⟩ hB
    refine ⟨?_, h2.trans (Only.of_below hB), (hB.block _ (Array.getElem?_eq_some_iff.1 h3).1).trans h3⟩
    by_cases hs : s = 0
    · rw [if_pos hs] at h1 ⊢; exact h1.below hB
    · rw [if_neg hs] at h1 ⊢; exact h1.below hB
  case ra4ho =>
    refine ⟨?_, ?_, ?_, ?_, ?_, ?_, ?_, ?_, trivial⟩
    · intro vv W K s hlo hI hd HK
      simp only [confRules, conf5Rules] at HK
      clear hd
      have hT := hI.2.1.get HT3.out (by intro h; rcases List.mem_cons.1 h with e | h; omega; exact (HNE.out _ (by omega)).2 h)
      go_wp2_with (refine wpList_row_on (by rfl) 61 _ rfl w2.heap.size rfl 61 _ _ _ hT Try.underlying61 rfl (HIX.out _) ?_)
      refine HK.out _ _ (Below.refl _ _) ?_
      rfl
    · intro vv W K s hlo hI hd HK
      simp only [confRules, conf5Rules] at HK
      clear hd
      go_wp2
      refine HK.out _ _ (Below.refl _ _) ?_
      rfl
    · intro vv W K s hlo hI hd HK
      simp only [confRules, conf5Rules] at HK
      clear hd
      go_wp2
      refine HK.out _ _ (Below.refl _ _) ?_
      rfl
    · intro vv W K s hlo hI hd HK
      simp only [confRules, conf5Rules] at hd HK
      have h2 := hd
      clear hd
      simp only [h2] at HK ⊢
      clear h2
      have hT := hI.2.1.get HO3.out (by intro h; rcases List.mem_cons.1 h with e | h; omega; exact (HNE.out _ (by omega)).2 h)
      obtain ⟨-, c1⟩ := HOC.out _ hT
      go_wp2
      refine HK.out _ _ (Below.refl _ _) ?_
      rfl
    · intro vv W K hI hd HK
      simp only [confRules, conf5Rules] at hd HK
      obtain ⟨h1, h3⟩ := hd
      simp only [h1, h3] at HK ⊢
      clear h1 h3
      obtain ⟨h1, h2, h3⟩ := hI
      rw [if_pos rfl] at h1
      rw [if_neg (by decide)] at h3
      go_wp2_with (refine (HIMP.out _ h1).mono ?_; rintro e w9 ⟨rfl, h9, hO9⟩)
      refine HK.out _ _ ⟨by rw [if_neg (by decide)]; exact h9, h2.trans (hO9.mono (fun k hk => .inl (by simp [hk]))), by rw [if_neg (by decide)]; exact hO9.get h3 (HNE.out _ (by omega)).2⟩ ?_
      rfl
    · intro vv W K s hlo hI hd HK
      simp only [confRules, conf5Rules] at hd HK
      have h7 := hd
      clear hd
      simp only [h7] at HK ⊢
      clear h7
      go_wp2
      refine HK.out _ _ (Below.refl _ _) ?_
      rfl
    · intro vv W K s hlo hI hd HK
      simp only [confRules, conf5Rules] at hd HK
      obtain ⟨h4, h5, h7⟩ := hd
      simp only [h4, h5, h7] at HK ⊢
      clear h4 h5 h7
      go_wp2
      refine HK.out _ _ (Below.refl _ _) ?_
      first | rfl | exact congrArg Value.bool (by simp)
    · intro vv W K hI hd HK
      simp only [confRules, conf5Rules] at hd HK
      obtain ⟨h0, h4, _, h1, h2, h3, _, h5, h6⟩ := hd
      simp only [h0, h4, h1, h2, h3, h5, h6] at HK ⊢
      clear h0 h4 h1 h2 h3 h5 h6
      obtain ⟨h1, h2, h3⟩ := hI
      rw [if_neg (by decide)] at h1
      rw [if_neg (by decide)] at h3
      go_wp2_with (refine wpList_store_row rfl 61 _ _ rfl (w.heap.size + 1 + 1) (RP D z v') rfl rfl 61 (RP 0 0 (.slice none 0 0)) h3 (HIX.out _) (HZX.out _) (rp_one _ _ HSH'.out) ?_)
      have hO := only_setRow W (w.heap.size + 1 + 1) (RP D z v')
      refine HK.out _ _ ⟨by rw [if_neg (by decide)]; exact h1.only hO (by simpa using (HNE.out _ (by omega)).1), h2.trans (hO.mono (fun k hk => .inl (by simp at hk; simp [hk]))), by first | (rw [if_pos rfl]; exact setRow_heap _ _ _ _ _ _ h3) | (rw [if_pos trivial]; exact setRow_heap _ _ _ _ _ _ h3)⟩ ?_
      rfl
  case ra4hend =>
    intro vv W hI hf
    have e6 := hf 6 (by decide)
    simp only [conf5Rules] at e6
    simp only [e6, dropRules]
    clear hf e6
    obtain ⟨h1, h2, h3⟩ := hI
    have h1' : PoolIs W P R.1 := h1
    have h3' : W.heap[w.heap.size + 1 + 1]? = some (.cells (RP D z v') 61 (0, 0)) := h3
    have HP4 := Lib.hid h1'
    have HR4 := Lib.hid h3'
    have HV4 := Lib.hid (HV3.out.apart (S := (w.heap.size + 1 + 1) :: P.cs) h2 (fun h0 ad n c e hm => by
      rcases List.mem_cons.1 hm with e2 | hm
      · exact HOFF3.out h0 ad n c e (by simpa using e2)
      · exact int_ne_chan HV3.out HP3.out h0 e hm))
    have HO4 : Hid (Only P.cs w W) := Lib.hid ((Only.of_below (S := P.cs) HB3.out).trans' h2 (fun k hk => by rcases List.mem_cons.1 hk with e | hk; exact .inr (by omega); exact .inl hk))
    clear h1 h2 h3 h1' h3'
    go_wp2
    refine bodyPost_ret (rres_ct rfl _ _ (w.heap.size + 1 + 1) 61 (RP D z v') _ _ rfl HR4.out Try.underlying61 rfl (HIX.out _)) rfl ?_
    exact ⟨v', rfl, HV4.out, HP4.out, HO4.out, HNS.out⟩
set_option maxRecDepth 100000 in
set_option maxHeartbeats 4000000 in
theorem pstep_2 (w : World) (P : PR) (L : List Int) (v : Value) (x : Int) (h : PoolIs w P L) (hv : IntsC w v L) :
    Calls Try.prog 40 #[.pointer (some ⟨P.p, 0, none⟩), .agg (RP P.qc.length P.g.z v), .agg (opV 2 x)] w (StepPost P ((takeOf P.qc.length P.g.z L x).1) v w) := by
  have hrp := h.rp
  have hbs := h.lt
  obtain ⟨D, hD⟩ : ∃ D, P.qc.length = D := ⟨_, rfl⟩
  obtain ⟨z, hz⟩ : ∃ z, P.g.z = z := ⟨_, rfl⟩
  obtain ⟨W0, hW0, hal, hx0, ho0, hr0⟩ := step_rows w (RP P.qc.length P.g.z v) (opV 2 x)
  have hzz := (zero_of_info Try.infoRP).1
  have HIX := Lib.hid (fun u => rp_info P.qc.length P.g.z u)
  have HZX : Hid (∀ u, (RP 0 0 (.slice none 0 0)).size = (RP P.qc.length P.g.z u).size) := Lib.hid (fun _ => rfl)
  have HOC : Hid (∀ W : World, W.heap[w.heap.size + 1]? = some (.cells (opV 2 x) 74 (0, 0)) → W.cell? ⟨w.heap.size + 1, 0, none⟩ = some (.int .i64 2) ∧ W.cell? ⟨w.heap.size + 1, 1, none⟩ = some (.int .i64 x)) := Lib.hid (fun W hh => ⟨(cell_of_row _ _ _ _ _ _ hh).trans rfl, (cell_of_row _ _ _ _ _ _ hh).trans rfl⟩)
  have HW0 := Lib.hid hW0
  have HX0 := Lib.hid hx0
  have HO0 := Lib.hid ho0
  have HR0 := Lib.hid hr0
  have HP0 := Lib.hid (h.below hal)
  have HV0 := Lib.hid (hv.belowP hal)
  have HOFF := Lib.hid (OffB.of_old hv (show w.heap.size ≤ w.heap.size + 1 + 1 by omega))
  have HSH := Lib.hid (IntsC.shape hv)
  have HAL := Lib.hid hal
  have HOK := Lib.hid hrp
  have HCS : Hid (∀ k ∈ P.cs, k < w.heap.size) := Lib.hid (fun k hk => hbs k (PR.cs_bs hk))
  have HBS := Lib.hid hbs
  have zr : w.heap.size + 1 + 1 < W0.heap.size := (Array.getElem?_eq_some_iff.1 hr0).1
  have HNE : Hid (∀ i, w.heap.size ≤ i → i ∉ P.bs ∧ i ∉ P.cs) := Lib.hid (fun i hi => ⟨fun h => by have := hbs i h; omega, fun h => by have := hbs i (PR.cs_bs h); omega⟩)
  rw [hD, hz] at HIX HZX HOK HX0 HW0 ⊢
  unfold StepPost
  rw [hD, hz]
  have HDE := Lib.hid hD
  have HZE := Lib.hid hz
  obtain ⟨R, hR⟩ : ∃ R, takeOf D z L x = R := ⟨_, rfl⟩
  have HREF := Lib.hid (fun (W : World) (hW : IntsC W v L) => rpc_take D z v L x W HOK.out hW)
  have HIMP := Lib.hid (fun (W : World) (hW : PoolIs W P L) => ptake_any W P L hW x)
  try simp only [HDE.out, HZE.out] at HIMP
  rw [hR] at HREF HIMP ⊢
  clear hR
  clear h hv hW0 hal hx0 ho0 hr0 hrp hbs hD hz
  go_enter Try.func40, Try.ntmps40
  go_upto_region 1 with (fail)
  rw [HW0.out]
  obtain ⟨o0, o1⟩ := HOC.out _ HO0.out
  have o0' := o0
  go_wp2_with fail
  refine (HIMP.out _ HP0.out).mono ?_
  rintro e w2 ⟨rfl, hP2, hO2⟩
  have zO2 := hO2.size
  have HX2 := Lib.hid (hO2.get HX0.out (HNE.out _ (by omega)).2)
  have ho2 := hO2.get HO0.out (HNE.out _ (by omega)).2
  have HR2 := Lib.hid (hO2.get HR0.out (HNE.out _ (by omega)).2)
  have HP2 := Lib.hid hP2
  have HV2 := Lib.hid (HV0.out.apart hO2 (fun h0 ad n c e => int_ne_chan HV0.out HP0.out h0 e))
  have HO2 := Lib.hid hO2
  obtain ⟨o0, o1⟩ := HOC.out _ ho2
  clear hP2 hO2 ho2 o0'
  go_wp2_with (refine wpList_row_on (by rfl) 61 _ rfl w.heap.size rfl 61 _ _ _ HX2.out Try.underlying61 rfl (HIX.out _) ?_)
  refine (HREF.out _ HV2.out).mono ?_
  rintro e w3 ⟨v', rfl, hv', hs', hB3⟩
  have HSH' := Lib.hid (IntsC.shape hv')
  obtain ⟨W4, hW4⟩ : ∃ W4, w3.alloc (.cells (RP D z v') 61) = W4 := ⟨_, rfl⟩
  have hb4 : Below w3.heap.size w3 W4 := by rw [← hW4]; exact (Below.refl _ _).alloc (Nat.le_refl _) _
  have z3 := hB3.size
  have hB24 := hB3.trans (hb4.mono z3)
  have zr2 := (Array.getElem?_eq_some_iff.1 HR2.out).1
  have HT4 := Lib.hid (show W4.heap[w3.heap.size]? = some (.cells (RP D z v') 61 (0, 0)) by rw [← hW4]; exact heap_alloc_new w3 _)
  have HR4 := Lib.hid ((hB24.block (w.heap.size + 1 + 1) zr2).trans HR2.out)
  have HP4 := Lib.hid (HP2.out.below hB24)
  have HV4 := Lib.hid (hv'.belowP hb4)
  have HOFF4 := Lib.hid (HOFF.out.step HV2.out hv' hs' zr2)
  have HNS : Hid (v' = v ∨ NewS w.heap.size v') := Lib.hid (hs'.imp id (fun h => fun ad n c e => by have := h ad n c e; omega))
  have HO4 := Lib.hid (HO2.out.trans (Only.of_below hB24))
  have z4 : w3.heap.size < W4.heap.size := (Array.getElem?_eq_some_iff.1 HT4.out).1
  have HW4 := Lib.hid hW4
  clear hB3 hb4 hB24 hW4 hv' hs'
  go_upto_region 8 with (refine wpList_store_row rfl 61 _ _ rfl w3.heap.size (RP D z v') rfl rfl 61 (RP 0 0 (.slice none 0 0)) (heap_alloc_new w3 _) (HIX.out _) (HZX.out _) (rp_one _ _ HSH'.out) ?_; rw [World.setRow_alloc_new])
  rw [HW4.out]
  go_wp2_with (first | (refine wpList_row_on (by rfl) 61 _ rfl w3.heap.size rfl 61 _ _ _ HT4.out Try.underlying61 rfl (HIX.out _) ?_) | (refine wpList_store_row rfl 61 _ _ rfl (w.heap.size + 1 + 1) (RP D z v') rfl rfl 61 (RP 0 0 (.slice none 0 0)) HR4.out (HIX.out _) (HZX.out _) (rp_one _ _ HSH'.out) ?_))
  refine bodyPost_ret (rres_ct rfl _ _ (w.heap.size + 1 + 1) 61 (RP D z v') _ _ rfl (setRow_heap _ _ _ _ _ _ HR4.out) Try.underlying61 rfl (HIX.out _)) rfl ?_
  have hO5 := only_setRow W4 (w.heap.size + 1 + 1) (RP D z v')
  exact ⟨v', rfl, HV4.out.apart hO5 HOFF4.out, HP4.out.only hO5 (by simpa using (HNE.out _ (by omega)).1), ((Only.of_below (S := P.cs) HAL.out).trans HO4.out).trans' hO5 (fun k hk => .inr (by
    obtain rfl : k = w.heap.size + 1 + 1 := by simpa using hk
    omega)), HNS.out⟩
set_option maxRecDepth 100000 in
set_option maxHeartbeats 4000000 in
theorem pstep_3 (w : World) (P : PR) (L : List Int) (v : Value) (x : Int) (h : PoolIs w P L) (hv : IntsC w v L) :
    Calls Try.prog 40 #[.pointer (some ⟨P.p, 0, none⟩), .agg (RP P.qc.length P.g.z v), .agg (opV 3 x)] w (StepPost P ((pairOf P.qc.length P.g.z L).1) v w) := by
  have hrp := h.rp
  have hbs := h.lt
  obtain ⟨D, hD⟩ : ∃ D, P.qc.length = D := ⟨_, rfl⟩
  obtain ⟨z, hz⟩ : ∃ z, P.g.z = z := ⟨_, rfl⟩
  obtain ⟨W0, hW0, hal, hx0, ho0, hr0⟩ := step_rows w (RP P.qc.length P.g.z v) (opV 3 x)
  have hzz := (zero_of_info Try.infoRP).1
  have HIX := Lib.hid (fun u => rp_info P.qc.length P.g.z u)
  have HZX : Hid (∀ u, (RP 0 0 (.slice none 0 0)).size = (RP P.qc.length P.g.z u).size) := Lib.hid (fun _ => rfl)
  have HOC : Hid (∀ W : World, W.heap[w.heap.size + 1]? = some (.cells (opV 3 x) 74 (0, 0)) → W.cell? ⟨w.heap.size + 1, 0, none⟩ = some (.int .i64 3) ∧ W.cell? ⟨w.heap.size + 1, 1, none⟩ = some (.int .i64 x)) := Lib.hid (fun W hh => ⟨(cell_of_row _ _ _ _ _ _ hh).trans rfl, (cell_of_row _ _ _ _ _ _ hh).trans rfl⟩)
  have HW0 := Lib.hid hW0
  have HX0 := Lib.hid hx0
  have HO0 := Lib.hid ho0
  have HR0 := Lib.hid hr0
  have HP0 := Lib.hid (h.below hal)
  have HV0 := Lib.hid (hv.belowP hal)
  have HOFF := Lib.hid (OffB.of_old hv (show w.heap.size ≤ w.heap.size + 1 + 1 by omega))
  have HSH := Lib.hid (IntsC.shape hv)
  have HAL := Lib.hid hal
  have HOK := Lib.hid hrp
  have HCS : Hid (∀ k ∈ P.cs, k < w.heap.size) := Lib.hid (fun k hk => hbs k (PR.cs_bs hk))
  have HBS := Lib.hid hbs
  have zr : w.heap.size + 1 + 1 < W0.heap.size := (Array.getElem?_eq_some_iff.1 hr0).1
  have HNE : Hid (∀ i, w.heap.size ≤ i → i ∉ P.bs ∧ i ∉ P.cs) := Lib.hid (fun i hi => ⟨fun h => by have := hbs i h; omega, fun h => by have := hbs i (PR.cs_bs h); omega⟩)
  rw [hD, hz] at HIX HZX HOK HX0 HW0 ⊢
  unfold StepPost
  rw [hD, hz]
  have HDE := Lib.hid hD
  have HZE := Lib.hid hz
  obtain ⟨R, hR⟩ : ∃ R, pairOf D z L = R := ⟨_, rfl⟩
  have HREF := Lib.hid (fun (W : World) (hW : IntsC W v L) => rpc_pair D z v L W HOK.out hW)
  have HIMP := Lib.hid (fun (W : World) (hW : PoolIs W P L) => ppair_any W P L hW)
  try simp only [HDE.out, HZE.out] at HIMP
  rw [hR] at HREF HIMP ⊢
  clear hR
  clear h hv hW0 hal hx0 ho0 hr0 hrp hbs hD hz
  go_enter Try.func40, Try.ntmps40
  go_upto_region 1 with (fail)
  rw [HW0.out]
  obtain ⟨o0, o1⟩ := HOC.out _ HO0.out
  have o0' := o0
  go_wp2_with fail
  refine (HIMP.out _ HP0.out).mono ?_
  rintro e w2 ⟨rfl, hP2, hO2⟩
  have zO2 := hO2.size
  have HX2 := Lib.hid (hO2.get HX0.out (HNE.out _ (by omega)).2)
  have ho2 := hO2.get HO0.out (HNE.out _ (by omega)).2
  have HR2 := Lib.hid (hO2.get HR0.out (HNE.out _ (by omega)).2)
  have HP2 := Lib.hid hP2
  have HV2 := Lib.hid (HV0.out.apart hO2 (fun h0 ad n c e => int_ne_chan HV0.out HP0.out h0 e))
  have HO2 := Lib.hid hO2
  obtain ⟨o0, o1⟩ := HOC.out _ ho2
  clear hP2 hO2 ho2 o0'
  go_wp2_with (refine wpList_row_on (by rfl) 61 _ rfl w.heap.size rfl 61 _ _ _ HX2.out Try.underlying61 rfl (HIX.out _) ?_)
  refine (HREF.out _ HV2.out).mono ?_
  rintro e w3 ⟨v', rfl, hv', hs', hB3⟩
  have HSH' := Lib.hid (IntsC.shape hv')
  obtain ⟨W4, hW4⟩ : ∃ W4, w3.alloc (.cells (RP D z v') 61) = W4 := ⟨_, rfl⟩
  have hb4 : Below w3.heap.size w3 W4 := by rw [← hW4]; exact (Below.refl _ _).alloc (Nat.le_refl _) _
  have z3 := hB3.size
  have hB24 := hB3.trans (hb4.mono z3)
  have zr2 := (Array.getElem?_eq_some_iff.1 HR2.out).1
  have HT4 := Lib.hid (show W4.heap[w3.heap.size]? = some (.cells (RP D z v') 61 (0, 0)) by rw [← hW4]; exact heap_alloc_new w3 _)
  have HR4 := Lib.hid ((hB24.block (w.heap.size + 1 + 1) zr2).trans HR2.out)
  have HP4 := Lib.hid (HP2.out.below hB24)
  have HV4 := Lib.hid (hv'.belowP hb4)
  have HOFF4 := Lib.hid (HOFF.out.step HV2.out hv' hs' zr2)
  have HNS : Hid (v' = v ∨ NewS w.heap.size v') := Lib.hid (hs'.imp id (fun h => fun ad n c e => by have := h ad n c e; omega))
  have HO4 := Lib.hid (HO2.out.trans (Only.of_below hB24))
  have z4 : w3.heap.size < W4.heap.size := (Array.getElem?_eq_some_iff.1 HT4.out).1
  have HW4 := Lib.hid hW4
  clear hB3 hb4 hB24 hW4 hv' hs'
  go_upto_region 12 with (refine wpList_store_row rfl 61 _ _ rfl w3.heap.size (RP D z v') rfl rfl 61 (RP 0 0 (.slice none 0 0)) (heap_alloc_new w3 _) (HIX.out _) (HZX.out _) (rp_one _ _ HSH'.out) ?_; rw [World.setRow_alloc_new])
  rw [HW4.out]
  go_wp2_with (first | (refine wpList_row_on (by rfl) 61 _ rfl w3.heap.size rfl 61 _ _ _ HT4.out Try.underlying61 rfl (HIX.out _) ?_) | (refine wpList_store_row rfl 61 _ _ rfl (w.heap.size + 1 + 1) (RP D z v') rfl rfl 61 (RP 0 0 (.slice none 0 0)) HR4.out (HIX.out _) (HZX.out _) (rp_one _ _ HSH'.out) ?_))
  refine bodyPost_ret (rres_ct rfl _ _ (w.heap.size + 1 + 1) 61 (RP D z v') _ _ rfl (setRow_heap _ _ _ _ _ _ HR4.out) Try.underlying61 rfl (HIX.out _)) rfl ?_
  have hO5 := only_setRow W4 (w.heap.size + 1 + 1) (RP D z v')
  exact ⟨v', rfl, HV4.out.apart hO5 HOFF4.out, HP4.out.only hO5 (by simpa using (HNE.out _ (by omega)).1), ((Only.of_below (S := P.cs) HAL.out).trans HO4.out).trans' hO5 (fun k hk => .inr (by
    obtain rfl : k = w.heap.size + 1 + 1 := by simpa using hk
    omega)), HNS.out⟩
set_option maxRecDepth 100000 in
set_option maxHeartbeats 4000000 in
theorem pstep_o (w : World) (P : PR) (L : List Int) (v : Value) (kind x : Int) (h : PoolIs w P L) (hv : IntsC w v L) (n1 : kind ≠ 1) (n2 : kind ≠ 2) (n3 : kind ≠ 3) (n4 : kind ≠ 4) :
    Calls Try.prog 40 #[.pointer (some ⟨P.p, 0, none⟩), .agg (RP P.qc.length P.g.z v), .agg (opV kind x)] w (StepPost P (L) v w) := by
  have hrp := h.rp
  have hbs := h.lt
  obtain ⟨D, hD⟩ : ∃ D, P.qc.length = D := ⟨_, rfl⟩
  obtain ⟨z, hz⟩ : ∃ z, P.g.z = z := ⟨_, rfl⟩
  obtain ⟨W0, hW0, hal, hx0, ho0, hr0⟩ := step_rows w (RP P.qc.length P.g.z v) (opV kind x)
  have hzz := (zero_of_info Try.infoRP).1
  have HIX := Lib.hid (fun u => rp_info P.qc.length P.g.z u)
  have HZX : Hid (∀ u, (RP 0 0 (.slice none 0 0)).size = (RP P.qc.length P.g.z u).size) := Lib.hid (fun _ => rfl)
  have HOC : Hid (∀ W : World, W.heap[w.heap.size + 1]? = some (.cells (opV kind x) 74 (0, 0)) → W.cell? ⟨w.heap.size + 1, 0, none⟩ = some (.int .i64 kind) ∧ W.cell? ⟨w.heap.size + 1, 1, none⟩ = some (.int .i64 x)) := Lib.hid (fun W hh => ⟨(cell_of_row _ _ _ _ _ _ hh).trans rfl, (cell_of_row _ _ _ _ _ _ hh).trans rfl⟩)
  have HW0 := Lib.hid hW0
  have HX0 := Lib.hid hx0
  have HO0 := Lib.hid ho0
  have HR0 := Lib.hid hr0
  have HP0 := Lib.hid (h.below hal)
  have HV0 := Lib.hid (hv.belowP hal)
  have HOFF := Lib.hid (OffB.of_old hv (show w.heap.size ≤ w.heap.size + 1 + 1 by omega))
  have HSH := Lib.hid (IntsC.shape hv)
  have HAL := Lib.hid hal
  have HOK := Lib.hid hrp
  have HCS : Hid (∀ k ∈ P.cs, k < w.heap.size) := Lib.hid (fun k hk => hbs k (PR.cs_bs hk))
  have HBS := Lib.hid hbs
  have zr : w.heap.size + 1 + 1 < W0.heap.size := (Array.getElem?_eq_some_iff.1 hr0).1
  have HNE : Hid (∀ i, w.heap.size ≤ i → i ∉ P.bs ∧ i ∉ P.cs) := Lib.hid (fun i hi => ⟨fun h => by have := hbs i h; omega, fun h => by have := hbs i (PR.cs_bs h); omega⟩)
  rw [hD, hz] at HIX HZX HOK HX0 HW0 ⊢
  unfold StepPost
  rw [hD, hz]
  have HDE := Lib.hid hD
  have HZE := Lib.hid hz
  clear h hv hW0 hal hx0 ho0 hr0 hrp hbs hD hz
  go_enter Try.func40, Try.ntmps40
  go_upto_region 1 with (fail)
  rw [HW0.out]
  obtain ⟨o0, o1⟩ := HOC.out _ HO0.out
  have t1 : (kind == 1) = false := by simpa using n1
  have t2 : (kind == 2) = false := by simpa using n2
  have t3 : (kind == 3) = false := by simpa using n3
  have t4 : (kind == 4) = false := by simpa using n4
  go_wp2_with (first | (refine wpList_row_on (by rfl) 61 _ rfl w.heap.size rfl 61 _ _ _ HX0.out Try.underlying61 rfl (HIX.out _) ?_) | (refine wpList_store_row rfl 61 _ _ rfl (w.heap.size + 1 + 1) (RP D z v) rfl rfl 61 (RP 0 0 (.slice none 0 0)) HR0.out (HIX.out _) (HZX.out _) (rp_one _ _ HSH.out) ?_))
  refine bodyPost_ret (rres_ct rfl _ _ (w.heap.size + 1 + 1) 61 (RP D z v) _ _ rfl (setRow_heap _ _ _ _ _ _ HR0.out) Try.underlying61 rfl (HIX.out _)) rfl ?_
  have hO5 := only_setRow W0 (w.heap.size + 1 + 1) (RP D z v)
  exact ⟨v, rfl, HV0.out.apart hO5 HOFF.out, HP0.out.only hO5 (by simpa using (HNE.out _ (by omega)).1), (Only.of_below (S := P.cs) HAL.out).trans' hO5 (fun k hk => .inr (by
    obtain rfl : k = w.heap.size + 1 + 1 := by simpa using hk
    omega)), .inl rfl⟩
theorem pstep_any (w : World) (P : PR) (L : List Int) (v : Value) (kind x : Int) (h : PoolIs w P L) (hv : IntsC w v L) :
    Calls Try.prog 40 #[.pointer (some ⟨P.p, 0, none⟩), .agg (RP P.qc.length P.g.z v), .agg (opV kind x)] w (StepPost P (stepOf P.qc.length P.g.z L kind x) v w) := by
  unfold stepOf
  by_cases k1 : kind = 1
  · subst k1; rw [if_pos rfl]; exact pstep_1 w P L v x h hv
  · rw [if_neg k1]
    by_cases k2 : kind = 2
    · subst k2; rw [if_pos rfl]; exact pstep_2 w P L v x h hv
    · rw [if_neg k2]
      by_cases k3 : kind = 3
      · subst k3; rw [if_pos rfl]; exact pstep_3 w P L v x h hv
      · rw [if_neg k3]
        by_cases k4 : kind = 4
        · subst k4; rw [if_pos rfl]; exact pstep_4 w P L v x h hv
        · rw [if_neg k4]
          exact pstep_o w P L v kind x h hv k1 k2 k3 k4
end Go.Proofs.Ytogijlpclceanaa
