/- Proved here: the contract of the document's pool: Take. -/
import Derived.Test.YtogijlpclceanaaRpD
namespace Go.Proofs.Ytogijlpclceanaa
open Go.Conc Go.RowKit Go.Rv Go.Shelf
set_option linter.unusedVariables false
attribute [local go_sem] Oper.semAt_some
open PoolM (dl cnt Ok less cntR giveOf dropOf takeOf pairOf)
set_option maxRecDepth 100000 in
set_option maxHeartbeats 2000000 in
theorem rp_take_out (D : Nat) (z : Int) (a : Option Addr) (cp : Nat) (L : List Int) (d : Int) (w : World) (hD : D ≤ 8) (hd : ¬ (0 ≤ d ∧ d < (D : Int))) :
    Calls Try.prog 54 #[.agg (RP D z (.slice a L.length cp)), .int .i64 d] w fun e w' => e = .returned (.tuple #[.agg (RP D z (.slice a L.length cp)), .int .i64 0, .int .i64 13]) ∧ Below w.heap.size w w' := by
  obtain ⟨W0, hW0, hal, hx0, hr0⟩ := rp_row0 w (RP D z (.slice a L.length cp))
  have hzz := (zero_of_info Try.infoRP).1
  have HIX := Lib.hid (rp_info D z (.slice a L.length cp))
  have H1X := Lib.hid (RP_one D z a L.length cp)
  have HSX : Hid ((RP 0 0 (.slice none 0 0)).size = (RP D z (.slice a L.length cp)).size) := Lib.hid rfl
  have c0 := (rp_cells hx0).1
  have HW0 := Lib.hid hW0
  have HX0 := Lib.hid hx0
  have HR0 := Lib.hid hr0
  have HAL := Lib.hid hal
  have zr : w.heap.size + 1 < W0.heap.size := (Array.getElem?_eq_some_iff.1 hr0).1
  clear hW0 hal hx0 hr0
  generalize hX : RP D z (.slice a L.length cp) = X at *
  clear hX
  by_cases h0 : d < 0
  · have t1 : decide (d < 0) = true := decide_eq_true h0
    go_enter Try.func54, Try.ntmps54
    go_upto_region 1 with (fail)
    rw [HW0.out]
    go_wp2_with (first | (refine wpList_row_on (by rfl) 61 _ rfl w.heap.size rfl 61 _ _ _ HX0.out Try.underlying61 rfl HIX.out ?_) | (refine wpList_store_row rfl 61 _ _ rfl (w.heap.size + 1) X rfl rfl 61 (RP 0 0 (.slice none 0 0)) HR0.out HIX.out HSX.out H1X.out ?_))
    refine bodyPost_ret (rres_ctt rfl _ _ (w.heap.size + 1) 61 X _ _ rfl (setRow_heap _ _ _ _ _ _ HR0.out) Try.underlying61 rfl HIX.out) rfl ?_
    exact ⟨rfl, below_setRow HAL.out (by omega) _⟩
  · have t1 : decide (d < 0) = false := decide_eq_false h0
    have t2 : decide ((D : Int) ≤ d) = true := decide_eq_true (by omega)
    go_enter Try.func54, Try.ntmps54
    go_upto_region 1 with (fail)
    rw [HW0.out]
    go_wp2_with (first | (refine wpList_row_on (by rfl) 61 _ rfl w.heap.size rfl 61 _ _ _ HX0.out Try.underlying61 rfl HIX.out ?_) | (refine wpList_store_row rfl 61 _ _ rfl (w.heap.size + 1) X rfl rfl 61 (RP 0 0 (.slice none 0 0)) HR0.out HIX.out HSX.out H1X.out ?_))
    refine bodyPost_ret (rres_ctt rfl _ _ (w.heap.size + 1) 61 X _ _ rfl (setRow_heap _ _ _ _ _ _ HR0.out) Try.underlying61 rfl HIX.out) rfl ?_
    exact ⟨rfl, below_setRow HAL.out (by omega) _⟩
set_option maxRecDepth 100000 in
set_option maxHeartbeats 4000000 in
theorem rp_take_in (D : Nat) (z : Int) (a : Option Addr) (cp : Nat) (L : List Int) (d : Int) (w : World) (hok : Ok D z L) (hz : z ≤ 64) (hD : D ≤ 8) (hl : L.length ≤ 512) (hI : Ints w a L) (hn : a = none → cp = 0) (hcp : L.length ≤ cp) (hcm : cp ≤ 9223372036854775807) (hd : 0 ≤ d ∧ d < (D : Int)) :
    Calls Try.prog 54 #[.agg (RP D z (.slice a L.length cp)), .int .i64 d] w fun e w' => ∃ v', e = .returned (.tuple #[.agg (RP D z v'), .int .i64 (takeOf D z L d).2.1, .int .i64 (takeOf D z L d).2.2]) ∧ IntsC w' v' (takeOf D z L d).1 ∧ (v' = .slice a L.length cp ∨ NewS w.heap.size v') ∧ Below w.heap.size w w' := by
  obtain ⟨R, hR⟩ : ∃ R, takeOf D z L d = R := ⟨_, rfl⟩
  rw [hR]
  have HRE := Lib.hid hR
  clear hR
  have HDR := Lib.hid (fun (W : World) (hW : Below w.heap.size w W) (x : Int) (hx : x ∈ L) => rp_drop_some D z a cp L x W hl (hI.below hW) hx)
  have hz1 := hok.z1
  have HR := Lib.hid hok.rng
  have HI := Lib.hid hI
  obtain ⟨W0, hW0, hal, hx0, hr0⟩ := rp_row0 w (RP D z (.slice a L.length cp))
  have hzz := (zero_of_info Try.infoRP).1
  have HCS : Hid (∀ (W : World), W.heap[w.heap.size]? = some (.cells (RP D z (.slice a L.length cp)) 61 (0, 0)) → W.cell? ⟨w.heap.size, 0, none⟩ = some (.int .i64 (D : Nat)) ∧ W.cell? ⟨w.heap.size, 1, none⟩ = some (.int .i64 z) ∧ W.cell? ⟨w.heap.size, 2, none⟩ = some (.slice a L.length cp)) := Lib.hid (fun W h => rp_cells h)
  have HIX := Lib.hid (rp_info D z (.slice a L.length cp))
  have H1X := Lib.hid (RP_one D z a L.length cp)
  have HSX : Hid ((RP 0 0 (.slice none 0 0)).size = (RP D z (.slice a L.length cp)).size) := Lib.hid rfl
  have HIV := Lib.hid (fun v => rp_info D z v)
  have HSV : Hid (∀ v, (RP D z (.slice a L.length cp)).size = (RP D z v).size) := Lib.hid (fun _ => rfl)
  have HW0 := Lib.hid hW0
  have HX0 := Lib.hid hx0
  have HR0 := Lib.hid hr0
  have HAL := Lib.hid hal
  have zr : w.heap.size + 1 < W0.heap.size := (Array.getElem?_eq_some_iff.1 hr0).1
  have hDz : (D : Int) * z ≤ 512 := by
    have h1 : (D : Int) * z ≤ 8 * z := Int.mul_le_mul_of_nonneg_right (by omega) (by omega)
    omega
  have t1 : decide (d < 0) = false := decide_eq_false (by omega)
  have t2 : decide ((D : Int) ≤ d) = false := decide_eq_false (by omega)
  have HD := Lib.hid hd
  obtain ⟨c0, -, -⟩ := HCS.out _ hx0
  clear hok hI hW0 hal hx0 hr0 hd
  generalize hX : RP D z (.slice a L.length cp) = X at *
  have HXE := Lib.hid hX
  clear hX
  go_enter Try.func54, Try.ntmps54
  go_upto_region 1 with (fail)
  rw [HW0.out]
  go_wp2
  clear c0
  go_loopw [7] (fun i wr => ∃ k : Nat, k ≤ L.length ∧ i = .int .i64 k ∧ (∀ u ∈ L.take k, u / z ≠ d) ∧ Below W0.heap.size W0 wr) (fun i _ => L.length - (intOf i).toNat)
  case atStart => exact ⟨0, Nat.zero_le _, rfl, by simp, Below.refl _ _⟩
  case round =>
    obtain ⟨k, hk, rfl, hno, hB⟩ := hrel
    have hxr := (hB.block w.heap.size (by omega)).trans HX0.out
    obtain ⟨-, c1, c2⟩ := HCS.out _ hxr
    have HB := Lib.hid hB
    have HXR := Lib.hid hxr
    have HRR := Lib.hid ((hB.block (w.heap.size + 1) zr).trans HR0.out)
    have HNO := Lib.hid hno
    have HBA := Lib.hid (HAL.out.trans (hB.mono HAL.out.size))
    have zB := hB.size
    clear hB hxr hno
    by_cases hlt : k < L.length
    · obtain ⟨b, ob, y, rfl, hbl, hcz, -, -, hy⟩ := HI.out.at hlt
      have hcell := (HBA.out.cell (p := ⟨b, ob + k, none⟩) hbl).trans hcz
      have hym := HR.out y (List.mem_of_getElem? hy)
      obtain ⟨hy0, hy1⟩ : 0 ≤ y ∧ y ≤ 512 := ⟨hym.1, by omega⟩
      have HY := Lib.hid hy
      clear hcz hy hym
      by_cases e : y / z = d
      · have t5 : (y / z == d) = true := by simpa using e
        have HTK := Lib.hid (PoolM.take_found HD.out HNO.out HY.out e)
        have HYM : Hid (y ∈ L) := Lib.hid (List.mem_of_getElem? HY.out)
        have HDY := Lib.hid (fun (W : World) (hW : Below w.heap.size w W) => HDR.out W hW y HYM.out)
        obtain rfl : R = (less L y, y, 0) := HRE.out.symm.trans HTK.out
        clear e
        go_wp2
        go_quiet (fail)
        have hBn := below_drewN' wr nq
        have HXQ := Lib.hid ((hBn.block w.heap.size (by omega)).trans HXR.out)
        have HRQ := Lib.hid ((hBn.block (w.heap.size + 1) (by omega)).trans HRR.out)
        have HBQ := Lib.hid (HBA.out.trans (hBn.mono HBA.out.size))
        have zq := hBn.size
        obtain ⟨wq, hwq⟩ : ∃ wq, wr.drewN nq = wq := ⟨_, rfl⟩
        have hcellq : wq.cell? ⟨b, ob + k, none⟩ = some (.int .i64 y) := by rw [← hwq, hBn.cell (by have := HBA.out.size; exact Nat.lt_of_lt_of_le hbl this)]; exact hcell
        rw [hwq] at HXQ HRQ HBQ zq ⊢
        clear hwq hBn
        obtain ⟨-, d1, d2⟩ := HCS.out _ HXQ.out
        go_wp2_with (refine wpList_row_on (by rfl) 61 _ rfl w.heap.size rfl 61 _ _ _ HXQ.out Try.underlying61 rfl HIX.out ?_)
        refine (HDY.out wq HBQ.out).mono ?_
        rintro e w3 ⟨v', rfl, hv3, hnw, hB3⟩
        obtain ⟨sa, sn, sc, rfl⟩ : ∃ sa sn sc, v' = .slice sa sn sc := by
          obtain ⟨a, c, e, -⟩ := hv3
          exact ⟨a, _, c, e⟩
        have HX3 := Lib.hid ((hB3.block w.heap.size (by omega)).trans HXQ.out)
        have HR3 := Lib.hid ((hB3.block (w.heap.size + 1) (by omega)).trans HRQ.out)
        have HB3 := Lib.hid (HBQ.out.trans (hB3.mono HBQ.out.size))
        have HV3 := Lib.hid hv3
        have HNW := Lib.hid hnw
        obtain ⟨W4, hW4⟩ : ∃ W4, w3.setRow w.heap.size (RP D z (.slice sa sn sc)) = W4 := ⟨_, rfl⟩
        have hO4 : Only [w.heap.size] w3 W4 := by rw [← hW4]; exact only_setRow _ _ _
        have HX4 : Hid (W4.heap[w.heap.size]? = some (.cells (RP D z (.slice sa sn sc)) 61 (0, 0))) := Lib.hid (by rw [← hW4]; exact setRow_heap _ _ _ _ _ _ HX3.out)
        have HR4 := Lib.hid (hO4.get HR3.out (by simp))
        have HB4 := Lib.hid (HB3.out.trans (hO4.below (by simp) HB3.out.size))
        have HW4 := Lib.hid hW4
        have HO4 := Lib.hid hO4
        clear hB3 hv3 hnw hW4 hO4 d1 d2 hcellq c1 c2
        go_upto_region 9 with (refine wpList_store_row rfl 61 _ _ rfl w.heap.size (RP D z (.slice sa sn sc)) rfl rfl 61 X HX3.out (HIV.out _) (HSV.out _) (RP_one _ _ _ _ _) ?_; rw [HW4.out])
        go_wp2_with (first | (refine wpList_row_on (by rfl) 61 _ rfl w.heap.size rfl 61 _ _ _ HX4.out Try.underlying61 rfl (HIV.out _) ?_) | (refine wpList_store_row rfl 61 _ _ rfl (w.heap.size + 1) (RP D z (.slice sa sn sc)) rfl rfl 61 (RP 0 0 (.slice none 0 0)) HR4.out (HIV.out _) rfl (RP_one _ _ _ _ _) ?_))
        refine bodyPost_ret (rres_ctt rfl _ _ (w.heap.size + 1) 61 (RP D z (.slice sa sn sc)) _ _ rfl (setRow_heap _ _ _ _ _ _ HR4.out) Try.underlying61 rfl (HIV.out _)) rfl ?_
        have hO5 : Only [w.heap.size + 1] W4 (W4.setRow (w.heap.size + 1) (RP D z (.slice sa sn sc))) := only_setRow _ _ _
        have hV5 := (HV3.out.apart HO4.out (fun h0 ad n c e hm => by
          have h1 := HNW.out ad n c e
          have h2 : ad.block = w.heap.size := by simpa using hm
          omega)).apart hO5 (fun h0 ad n c e hm => by
          have h1 := HNW.out ad n c e
          have h2 : ad.block = w.heap.size + 1 := by simpa using hm
          omega)
        exact ⟨_, rfl, hV5, .inr (fun ad n c e => by have := HNW.out ad n c e; omega), below_setRow HB4.out (by omega) _⟩
      · have t5 : (y / z == d) = false := by simpa using e
        have HN2 := Lib.hid (PoolM.miss_step HY.out HNO.out e)
        clear e
        go_wp2
        go_quiet (fail)
        go_wp2
        go_roundw
        case rel => exact ⟨k + 1, by omega, by go_num, HN2.out, HB.out.trans ((below_drewN' wr nq).mono HB.out.size)⟩
        case measure => simp [intOf]; omega
    · obtain rfl : k = L.length := by omega
      have HTK := Lib.hid (PoolM.take_miss (z := z) HD.out (by have := HNO.out; rwa [List.take_length] at this))
      obtain rfl : R = (L, 0, 15) := HRE.out.symm.trans HTK.out
      go_wp2_with (first | (refine wpList_row_on (by rfl) 61 _ rfl w.heap.size rfl 61 _ _ _ HXR.out Try.underlying61 rfl HIX.out ?_) | (refine wpList_store_row rfl 61 _ _ rfl (w.heap.size + 1) X rfl rfl 61 (RP 0 0 (.slice none 0 0)) HRR.out HIX.out HSX.out H1X.out ?_))
      refine bodyPost_ret (rres_ctt rfl _ _ (w.heap.size + 1) 61 X _ _ rfl (setRow_heap _ _ _ _ _ _ HRR.out) Try.underlying61 rfl HIX.out) rfl ?_
      have hO5 : Only [w.heap.size + 1] wr (wr.setRow (w.heap.size + 1) X) := only_setRow _ _ _
      have hI5 := (HI.out.below HBA.out)
      exact ⟨_, by rw [← HXE.out]; rfl, IntsC.apart ⟨a, cp, rfl, hI5, hn, hcp, hcm⟩ hO5 (fun h0 ad n c e hm => by
        have h2 : ad.block = w.heap.size + 1 := by simpa using hm
        injection e with e1
        have h3 := HI.out.lt h0 e1
        omega), .inl rfl, below_setRow HBA.out (by omega) _⟩
end Go.Proofs.Ytogijlpclceanaa
