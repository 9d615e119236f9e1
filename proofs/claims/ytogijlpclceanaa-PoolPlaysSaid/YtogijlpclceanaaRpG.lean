/- Proved here: the contract of the document's pool: Pair. -/
import Derived.Test.YtogijlpclceanaaRpF
namespace Go.Proofs.Ytogijlpclceanaa
open Go.Conc Go.RowKit Go.Rv Go.Shelf
set_option linter.unusedVariables false
attribute [local go_sem] Oper.semAt_some
open PoolM (dl cnt Ok less cntR giveOf dropOf takeOf pairOf npairs domA domB pairZ)
set_option maxRecDepth 100000 in
set_option maxHeartbeats 4000000 in
theorem rpc_pair (D : Nat) (z : Int) (v : Value) (L : List Int) (w : World) (h : RpOk D z L) (hv : IntsC w v L) :
    Calls Try.prog 55 #[.agg (RP D z v)] w (RpPost D z v (pairOf D z L).1 [.int .i64 (pairOf D z L).2.1, .int .i64 (pairOf D z L).2.2.1, .int .i64 (pairOf D z L).2.2.2] w) := by
  obtain ⟨R, hR⟩ : ∃ R, pairOf D z L = R := ⟨_, rfl⟩
  rw [hR]
  have HRE := Lib.hid hR
  clear hR
  obtain ⟨W0, hW0, hal, hnew, hr0⟩ := rp_row0 w (RP D z v)
  have hzz := (zero_of_info Try.infoRP).1
  have HIX := Lib.hid (fun u => rp_info D z u)
  have HSX : Hid (∀ u u', (RP D z u).size = (RP D z u').size) := Lib.hid (fun _ _ => rfl)
  have HW0 := Lib.hid hW0
  have z0 : w.heap.size + 1 < W0.heap.size := (Array.getElem?_eq_some_iff.1 hr0).1
  have HRW := Lib.hid hnew
  have HRR := Lib.hid hr0
  have HBR := Lib.hid hal
  have hd2 := h.d2
  have HU := Lib.hid (hv.belowP hal)
  have HOFF := Lib.hid (OffB.of_old hv (Nat.le_refl w.heap.size))
  have HOFFR := Lib.hid (OffB.of_old hv (Nat.le_succ w.heap.size))
  have HSH := Lib.hid (IntsC.shape hv)
  obtain ⟨a1, a2, -⟩ := PoolM.domA_is z L hd2
  obtain ⟨b1, b2, -⟩ := PoolM.domB_is z L hd2
  have HM1 : Hid (∀ W, IntsC W v L → Calls Try.prog 64 #[.agg (RP D z v), .int .i64 (-1)] W fun e w' => e = .returned (.int .i64 (domA D z L : Nat)) ∧ Below W.heap.size W w') := Lib.hid (fun W hW => by have := rpc_most D z v L (-1) W h hW; rwa [a2] at this)
  have HM2 : Hid (∀ W, IntsC W v L → Calls Try.prog 64 #[.agg (RP D z v), .int .i64 (domA D z L : Nat)] W fun e w' => e = .returned (.int .i64 (domB D z L : Nat)) ∧ Below W.heap.size W w') := Lib.hid (fun W hW => by have := rpc_most D z v L (domA D z L : Nat) W h hW; rwa [b2] at this)
  have HCT : Hid (∀ W, IntsC W v L → Calls Try.prog 59 #[.agg (RP D z v), .int .i64 (domB D z L : Nat)] W fun e w' => e = .returned (.int .i64 (cnt z L (domB D z L) : Nat)) ∧ Below W.heap.size W w') := Lib.hid (fun W hW => rpc_count D z v L (domB D z L : Nat) W h hW)
  have hnd := PoolM.pairZ_none h.ok hd2
  have HTA := Lib.hid (fun (W : World) (hW : IntsC W v L) => rpc_take D z v L (domA D z L : Nat) W h hW)
  clear hv hW0 hnew hal hr0 a2 b2
  obtain ⟨da, hda⟩ : ∃ da, domA D z L = da := ⟨_, rfl⟩
  obtain ⟨db, hdb⟩ : ∃ db, domB D z L = db := ⟨_, rfl⟩
  have HDA := Lib.hid hda
  have HDB := Lib.hid hdb
  rw [hda] at HM1 HM2 HTA a1
  rw [hdb] at HM2 HCT hnd b1
  clear hda hdb
  go_enter Try.func55, Try.ntmps55
  go_upto_region 1 with (fail)
  rw [HW0.out]
  have zr : w.heap.size < W0.heap.size := by omega
  go_wp2_with (refine wpList_row_on (by rfl) 61 _ rfl w.heap.size rfl 61 _ _ _ HRW.out Try.underlying61 rfl (HIX.out _) ?_)
  refine (HM1.out _ HU.out).mono ?_
  rintro e w2 ⟨rfl, hB2⟩
  have HRW2 := Lib.hid ((hB2.block w.heap.size (by omega)).trans HRW.out)
  have HRR2 := Lib.hid ((hB2.block (w.heap.size + 1) (by omega)).trans HRR.out)
  have HU2 := Lib.hid (HU.out.belowP hB2)
  have HBR2 := Lib.hid (HBR.out.trans (hB2.mono HBR.out.size))
  have zr2 := (Array.getElem?_eq_some_iff.1 HRR2.out).1
  clear hB2
  go_wp2_with (refine wpList_row_on (by rfl) 61 _ rfl w.heap.size rfl 61 _ _ _ HRW2.out Try.underlying61 rfl (HIX.out _) ?_)
  refine (HM2.out _ HU2.out).mono ?_
  rintro e w3 ⟨rfl, hB3⟩
  have HRW3 := Lib.hid ((hB3.block w.heap.size (by omega)).trans HRW2.out)
  have HRR3 := Lib.hid ((hB3.block (w.heap.size + 1) (by omega)).trans HRR2.out)
  have HU3 := Lib.hid (HU2.out.belowP hB3)
  have HBR3 := Lib.hid (HBR2.out.trans (hB3.mono HBR2.out.size))
  have zr3 := (Array.getElem?_eq_some_iff.1 HRR3.out).1
  clear hB3
  go_wp2_with (refine wpList_row_on (by rfl) 61 _ rfl w.heap.size rfl 61 _ _ _ HRW3.out Try.underlying61 rfl (HIX.out _) ?_)
  refine (HCT.out _ HU3.out).mono ?_
  rintro e w4 ⟨rfl, hB4⟩
  have HRW4 := Lib.hid ((hB4.block w.heap.size (by omega)).trans HRW3.out)
  have HRR4 := Lib.hid ((hB4.block (w.heap.size + 1) (by omega)).trans HRR3.out)
  have HU4 := Lib.hid (HU3.out.belowP hB4)
  have HBR4 := Lib.hid (HBR3.out.trans (hB4.mono HBR3.out.size))
  have zr4 := (Array.getElem?_eq_some_iff.1 HRR4.out).1
  clear hB4
  by_cases h0 : cnt z L db = 0
  · have t5 : (((cnt z L db : Nat) : Int) == 0) = true := by rw [h0]; rfl
    obtain rfl : R = (L, 0, 0, 15) := HRE.out.symm.trans (by unfold pairOf; rw [hnd.2 h0])
    clear h0 hnd
    generalize cnt z L db = cc at *
    go_wp2_with (first | (refine wpList_row_on (by rfl) 61 _ rfl w.heap.size rfl 61 _ _ _ HRW4.out Try.underlying61 rfl (HIX.out _) ?_) | (refine wpList_store_row rfl 61 _ _ rfl (w.heap.size + 1) (RP D z v) rfl rfl 61 (RP 0 0 (.slice none 0 0)) HRR4.out (HIX.out _) rfl (rp_one _ _ HSH.out) ?_))
    refine bodyPost_ret (rres_cttt rfl _ _ (w.heap.size + 1) 61 (RP D z v) _ _ rfl (setRow_heap _ _ _ _ _ _ HRR4.out) Try.underlying61 rfl (HIX.out _)) rfl ?_
    exact ⟨v, rfl, HU4.out.apart (only_setRow _ _ _) HOFFR.out, .inl rfl, below_setRow HBR4.out (by omega) _⟩
  · have t5 : (((cnt z L db : Nat) : Int) == 0) = false := by simp; omega
    have hne : pairZ D z L ≠ none := fun e => h0 (hnd.1 e)
    obtain ⟨xy, hxy⟩ := Option.ne_none_iff_exists'.1 hne
    obtain ⟨x, y⟩ := xy
    obtain ⟨t, s, ha, -, hb, -⟩ := PoolM.pairZ_some h.ok hd2 hxy
    obtain rfl : R = (less (less L x) y, x, y, 0) := HRE.out.symm.trans (by unfold pairOf; rw [hxy])
    rw [HDA.out] at ha
    rw [HDB.out] at hb
    have hok1 : RpOk D z (less L x) := ⟨h.ok.filter _, h.z64, h.d8, h.d2⟩
    have HTA2 : Hid (∀ W, IntsC W v L → Calls Try.prog 54 #[.agg (RP D z v), .int .i64 (da : Nat)] W (RpPost D z v (less L x) [.int .i64 x, .int .i64 0] W)) := Lib.hid (fun W hW => by have := HTA.out W hW; rwa [PoolM.take_nat a1 ha] at this)
    have HTB2 : Hid (∀ u' W, IntsC W u' (less L x) → Calls Try.prog 54 #[.agg (RP D z u'), .int .i64 (db : Nat)] W (RpPost D z u' (less (less L x) y) [.int .i64 y, .int .i64 0] W)) := Lib.hid (fun u' W hW => by have := rpc_take D z u' (less L x) (db : Nat) W hok1 hW; rwa [PoolM.take_nat b1 hb] at this)
    clear hne hxy ha hb hok1 h0 hnd HTA h HRE
    generalize cnt z L db = cc at *
    go_wp2_with (refine wpList_row_on (by rfl) 61 _ rfl w.heap.size rfl 61 _ _ _ HRW4.out Try.underlying61 rfl (HIX.out _) ?_)
    refine (HTA2.out _ HU4.out).mono ?_
    rintro e w5 ⟨u1, rfl, hu1, hs1, hB5⟩
    have HSH1 := Lib.hid (IntsC.shape hu1)
    have HRW5 := Lib.hid ((hB5.block w.heap.size (by omega)).trans HRW4.out)
    have hrr5 := (hB5.block (w.heap.size + 1) (by omega)).trans HRR4.out
    have hbr5 := HBR4.out.trans (hB5.mono HBR4.out.size)
    obtain ⟨V5, hV5⟩ : ∃ V, w5.setRow w.heap.size (RP D z u1) = V := ⟨_, rfl⟩
    have hO5 : Only [w.heap.size] w5 V5 := by rw [← hV5]; exact only_setRow _ _ _
    have hoff1 := HOFF.out.step HU4.out hu1 hs1 (show w.heap.size < w4.heap.size by omega)
    have hoffr1 := HOFFR.out.step HU4.out hu1 hs1 (show w.heap.size + 1 < w4.heap.size by omega)
    have HU5 := Lib.hid (hu1.apart hO5 hoff1)
    have HOFF1 := Lib.hid hoff1
    have HOFFR1 := Lib.hid hoffr1
    have HRW5' : Hid (V5.heap[w.heap.size]? = some (.cells (RP D z u1) 61 (0, 0))) := Lib.hid (by rw [← hV5]; exact setRow_heap _ _ _ _ _ _ HRW5.out)
    have HRR5 := Lib.hid (hO5.get hrr5 (by simp))
    have HBR5 := Lib.hid (hbr5.trans (hO5.below (by simp) hbr5.size))
    have HWW5 := Lib.hid hV5
    have zz5 := (Array.getElem?_eq_some_iff.1 HRR5.out).1
    have HNEW1 : Hid (u1 = v ∨ NewS w.heap.size u1) := Lib.hid (hs1.imp id (fun h => fun ad n c e => by have := h ad n c e; omega))
    clear hu1 hs1 hB5 hV5 hO5 hoff1 hoffr1 hrr5 hbr5
    go_upto_region 6 with (refine wpList_store_row rfl 61 _ _ rfl w.heap.size (RP D z u1) rfl rfl 61 (RP D z v) HRW5.out (HIX.out _) (HSX.out _ _) (rp_one _ _ HSH1.out) ?_; rw [HWW5.out])
    go_wp2_with (refine wpList_row_on (by rfl) 61 _ rfl w.heap.size rfl 61 _ _ _ HRW5'.out Try.underlying61 rfl (HIX.out _) ?_)
    refine (HTB2.out _ _ HU5.out).mono ?_
    rintro e w6 ⟨u2, rfl, hu2, hs2, hB6⟩
    have HSH2 := Lib.hid (IntsC.shape hu2)
    have HRW6 := Lib.hid ((hB6.block w.heap.size (by omega)).trans HRW5'.out)
    have hrr6 := (hB6.block (w.heap.size + 1) (by omega)).trans HRR5.out
    have hbr6 := HBR5.out.trans (hB6.mono HBR5.out.size)
    obtain ⟨V6, hV6⟩ : ∃ V, w6.setRow w.heap.size (RP D z u2) = V := ⟨_, rfl⟩
    have hO6 : Only [w.heap.size] w6 V6 := by rw [← hV6]; exact only_setRow _ _ _
    have hoff2 := HOFF1.out.step HU5.out hu2 hs2 (show w.heap.size < V5.heap.size by omega)
    have hoffr2 := HOFFR1.out.step HU5.out hu2 hs2 (show w.heap.size + 1 < V5.heap.size by omega)
    have HU6 := Lib.hid (hu2.apart hO6 hoff2)
    have HOFF2 := Lib.hid hoff2
    have HOFFR2 := Lib.hid hoffr2
    have HRW6' : Hid (V6.heap[w.heap.size]? = some (.cells (RP D z u2) 61 (0, 0))) := Lib.hid (by rw [← hV6]; exact setRow_heap _ _ _ _ _ _ HRW6.out)
    have HRR6 := Lib.hid (hO6.get hrr6 (by simp))
    have HBR6 := Lib.hid (hbr6.trans (hO6.below (by simp) hbr6.size))
    have HWW6 := Lib.hid hV6
    have zz6 := (Array.getElem?_eq_some_iff.1 HRR6.out).1
    have HNEW2 : Hid (u2 = v ∨ NewS w.heap.size u2) := Lib.hid (by rcases hs2 with rfl | h; exact HNEW1.out; exact .inr (fun ad n c e => by have := h ad n c e; omega))
    clear hu2 hs2 hB6 hV6 hO6 hoff2 hoffr2 hrr6 hbr6
    go_upto_region 7 with (refine wpList_store_row rfl 61 _ _ rfl w.heap.size (RP D z u2) rfl rfl 61 (RP D z u1) HRW6.out (HIX.out _) (HSX.out _ _) (rp_one _ _ HSH2.out) ?_; rw [HWW6.out])
    go_wp2_with (first | (refine wpList_row_on (by rfl) 61 _ rfl w.heap.size rfl 61 _ _ _ HRW6'.out Try.underlying61 rfl (HIX.out _) ?_) | (refine wpList_store_row rfl 61 _ _ rfl (w.heap.size + 1) (RP D z u2) rfl rfl 61 (RP 0 0 (.slice none 0 0)) HRR6.out (HIX.out _) rfl (rp_one _ _ HSH2.out) ?_))
    refine bodyPost_ret (rres_cttt rfl _ _ (w.heap.size + 1) 61 (RP D z u2) _ _ rfl (setRow_heap _ _ _ _ _ _ HRR6.out) Try.underlying61 rfl (HIX.out _)) rfl ?_
    exact ⟨u2, rfl, HU6.out.apart (only_setRow _ _ _) HOFFR2.out, HNEW2.out, below_setRow HBR6.out (by omega) _⟩
end Go.Proofs.Ytogijlpclceanaa
