/- Proved here: contracts of the document's pool: Count and Has. -/
import Derived.Test.YtogijlpclceanaaPlStart
import Derived.Test.YtogijlpclceanaaQRef
import Derived.Test.YtogijlpclceanaaAsk
import Derived.Test.YtogijlpclceanaaConfU
import Derived.IntWalk
namespace PoolM
def cntR (z : Int) (L : List Int) (d : Int) : Nat := (L.filter fun x => x / z == d).length
theorem cntR_nat (z : Int) (L : List Int) (d : Nat) : cntR z L d = cnt z L d := rfl
theorem cntR_le (z : Int) (L : List Int) (d : Int) : cntR z L d ≤ L.length := List.length_filter_le _ _
theorem cntR_step {z : Int} {L : List Int} {k : Nat} {y d : Int} (h : L[k]? = some y) : cntR z (L.take (k + 1)) d = cntR z (L.take k) d + if y / z = d then 1 else 0 := by
  obtain ⟨hk, rfl⟩ := List.getElem?_eq_some_iff.1 h
  unfold cntR
  rw [List.take_succ_eq_append_getElem hk, List.filter_append, List.length_append]
  by_cases h : L[k] / z = d <;> simp [h]
theorem take_no {L : List Int} {k : Nat} {x y : Int} (h : L[k]? = some y) (hn : x ∉ L.take k) (hy : y ≠ x) : x ∉ L.take (k + 1) := by
  obtain ⟨hk, rfl⟩ := List.getElem?_eq_some_iff.1 h
  rw [List.take_succ_eq_append_getElem hk]
  intro hm
  rcases List.mem_append.1 hm with hm | hm
  · exact hn hm
  · have e : x = L[k] := by simpa using hm
    exact hy e.symm
end PoolM
namespace Go.Proofs.Ytogijlpclceanaa
open Go.Conc Go.RowKit Go.Rv Go.Shelf
set_option linter.unusedVariables false
attribute [local go_sem] Oper.semAt_some
open PoolM (dl cnt Ok less cntR)
theorem rp_cells {W : World} {b : Nat} {d z : Int} {v : Value} {t : TypeId} (h : W.heap[b]? = some (.cells (RP d z v) t (0, 0))) : W.cell? ⟨b, 0, none⟩ = some (.int .i64 d) ∧ W.cell? ⟨b, 1, none⟩ = some (.int .i64 z) ∧ W.cell? ⟨b, 2, none⟩ = some v :=
  ⟨(cell_of_row _ _ _ _ _ _ h).trans rfl, (cell_of_row _ _ _ _ _ _ h).trans rfl, (cell_of_row _ _ _ _ _ _ h).trans rfl⟩
theorem rp_info (d z : Int) (v : Value) : (Try.prog.info? 61).map (·.size) = some (RP d z v).size := (zero_of_info Try.infoRP).2
theorem below_drewN' (w : World) (n : Nat) : Below w.heap.size w (w.drewN n) := below_drewN w n
set_option maxRecDepth 100000 in
set_option maxHeartbeats 2000000 in
theorem rp_count (D : Nat) (z : Int) (a : Option Addr) (cp : Nat) (L : List Int) (dd : Int) (w : World) (hok : Ok D z L) (hz : z ≤ 64) (hD : D ≤ 8) (hl : L.length ≤ 512) (hI : Ints w a L) :
    Calls Try.prog 59 #[.agg (RP D z (.slice a L.length cp)), .int .i64 dd] w fun e w' => e = .returned (.int .i64 (cntR z L dd : Nat)) ∧ Below w.heap.size w w' := by
  have hz1 := hok.z1
  have HR := Lib.hid hok.rng
  have HI := Lib.hid hI
  have hnew := heap_alloc_new w (.cells (RP D z (.slice a L.length cp)) 61)
  have hal : Below w.heap.size w (w.alloc (.cells (RP D z (.slice a L.length cp)) 61)) := (Below.refl _ _).alloc (Nat.le_refl _) _
  obtain ⟨W0, hW0⟩ : ∃ W0, w.alloc (.cells (RP D z (.slice a L.length cp)) 61) = W0 := ⟨_, rfl⟩
  rw [hW0] at hnew hal
  have HCS : Hid (∀ (W : World), W.heap[w.heap.size]? = some (.cells (RP D z (.slice a L.length cp)) 61 (0, 0)) → W.cell? ⟨w.heap.size, 1, none⟩ = some (.int .i64 z) ∧ W.cell? ⟨w.heap.size, 2, none⟩ = some (.slice a L.length cp)) := Lib.hid (fun W h => ⟨(rp_cells h).2.1, (rp_cells h).2.2⟩)
  have HW0 := Lib.hid hW0
  have z0 : w.heap.size < W0.heap.size := (Array.getElem?_eq_some_iff.1 hnew).1
  have HN0 := Lib.hid hnew
  have HAL := Lib.hid hal
  have HC0 : Hid (cntR z (L.take 0) dd = 0) := Lib.hid rfl
  have HCL : Hid (cntR z (L.take L.length) dd = cntR z L dd) := Lib.hid (by rw [List.take_length])
  have hDz : (D : Int) * z ≤ 512 := by
    have h1 : (D : Int) * z ≤ 8 * z := Int.mul_le_mul_of_nonneg_right (by omega) (by omega)
    omega
  clear hok hI hW0 hnew hal
  generalize hX : RP D z (.slice a L.length cp) = X at *
  clear hX
  go_enter Try.func59, Try.ntmps59
  go_wp2
  rw [HW0.out]
  go_loopw [5, 6] (fun n i wr => ∃ k : Nat, k ≤ L.length ∧ i = .int .i64 k ∧ n = .int .i64 (cntR z (L.take k) dd : Nat) ∧ Below W0.heap.size W0 wr) (fun _ i _ => L.length - (intOf i).toNat)
  case atStart => exact ⟨0, Nat.zero_le _, rfl, by rw [HC0.out]; rfl, Below.refl _ _⟩
  case round =>
    obtain ⟨k, hk, rfl, rfl, hB⟩ := hrel
    have hr := (hB.block w.heap.size z0).trans HN0.out
    obtain ⟨c1, c2⟩ := HCS.out _ hr
    have HB := Lib.hid hB
    have hcl := PoolM.cntR_le z (L.take k) dd
    rw [List.length_take] at hcl
    clear hB hr
    by_cases hlt : k < L.length
    · obtain ⟨b, ob, y, rfl, hbl, hcz, -, -, hy⟩ := HI.out.at hlt
      have hcell := ((HB.out.mono HAL.out.size).cell (p := ⟨b, ob + k, none⟩) hbl).trans ((HAL.out.cell (p := ⟨b, ob + k, none⟩) hbl).trans hcz)
      have hym := HR.out y (List.mem_of_getElem? hy)
      obtain ⟨hy0, hy1⟩ : 0 ≤ y ∧ y ≤ 512 := ⟨hym.1, by omega⟩
      have HST := Lib.hid (PoolM.cntR_step (z := z) (d := dd) hy)
      clear hcz hy hym
      by_cases e : y / z = dd
      · have t5 : (y / z == dd) = true := by simpa using e
        have HS : Hid (cntR z (L.take (k + 1)) dd = cntR z (L.take k) dd + 1) := Lib.hid (by rw [HST.out, if_pos e])
        clear e
        generalize cntR z (L.take k) dd = n at *
        go_wp2
        go_quiet (fail)
        go_wp2
        go_roundw
        case rel => exact ⟨k + 1, by omega, by go_num, by rw [HS.out]; go_num, HB.out.trans ((below_drewN' wr nq).mono HB.out.size)⟩
        case measure => simp [intOf]; omega
      · have t5 : (y / z == dd) = false := by simpa using e
        have HS : Hid (cntR z (L.take (k + 1)) dd = cntR z (L.take k) dd) := Lib.hid (by rw [HST.out, if_neg e, Nat.add_zero])
        clear e
        generalize cntR z (L.take k) dd = n at *
        go_wp2
        go_quiet (fail)
        go_wp2
        go_roundw
        case rel => exact ⟨k + 1, by omega, by go_num, by rw [HS.out], HB.out.trans ((below_drewN' wr nq).mono HB.out.size)⟩
        case measure => simp [intOf]; omega
    · obtain rfl : k = L.length := by omega
      rw [HCL.out]
      go_wp2
      go_ret
      exact ⟨rfl, HAL.out.trans (HB.out.mono HAL.out.size)⟩
set_option maxRecDepth 100000 in
set_option maxHeartbeats 2000000 in
theorem rp_has (d z : Int) (a : Option Addr) (cp : Nat) (L : List Int) (x : Int) (w : World) (hl : L.length ≤ 512) (hI : Ints w a L) :
    Calls Try.prog 58 #[.agg (RP d z (.slice a L.length cp)), .int .i64 x] w fun e w' => e = .returned (.bool (decide (x ∈ L))) ∧ Below w.heap.size w w' := by
  have HI := Lib.hid hI
  have hnew := heap_alloc_new w (.cells (RP d z (.slice a L.length cp)) 61)
  have hal : Below w.heap.size w (w.alloc (.cells (RP d z (.slice a L.length cp)) 61)) := (Below.refl _ _).alloc (Nat.le_refl _) _
  obtain ⟨W0, hW0⟩ : ∃ W0, w.alloc (.cells (RP d z (.slice a L.length cp)) 61) = W0 := ⟨_, rfl⟩
  rw [hW0] at hnew hal
  have HCS : Hid (∀ (W : World), W.heap[w.heap.size]? = some (.cells (RP d z (.slice a L.length cp)) 61 (0, 0)) → W.cell? ⟨w.heap.size, 2, none⟩ = some (.slice a L.length cp)) := Lib.hid (fun W h => (rp_cells h).2.2)
  have HW0 := Lib.hid hW0
  have z0 : w.heap.size < W0.heap.size := (Array.getElem?_eq_some_iff.1 hnew).1
  have HN0 := Lib.hid hnew
  have HAL := Lib.hid hal
  clear hI hW0 hnew hal
  generalize hX : RP d z (.slice a L.length cp) = X at *
  clear hX
  go_enter Try.func58, Try.ntmps58
  go_wp2
  rw [HW0.out]
  go_loopw [5] (fun i wr => ∃ k : Nat, k ≤ L.length ∧ i = .int .i64 k ∧ x ∉ L.take k ∧ Below W0.heap.size W0 wr) (fun i _ => L.length - (intOf i).toNat)
  case atStart => exact ⟨0, Nat.zero_le _, rfl, by simp, Below.refl _ _⟩
  case round =>
    obtain ⟨k, hk, rfl, hno, hB⟩ := hrel
    have hr := (hB.block w.heap.size z0).trans HN0.out
    have c2 := HCS.out _ hr
    have HB := Lib.hid hB
    have HNO := Lib.hid hno
    clear hB hr hno
    by_cases hlt : k < L.length
    · obtain ⟨b, ob, y, rfl, hbl, hcz, -, -, hy⟩ := HI.out.at hlt
      have hcell := ((HB.out.mono HAL.out.size).cell (p := ⟨b, ob + k, none⟩) hbl).trans ((HAL.out.cell (p := ⟨b, ob + k, none⟩) hbl).trans hcz)
      have HY := Lib.hid hy
      clear hcz hy
      by_cases e : y = x
      · have t5 : (y == x) = true := by simpa using e
        have HM : Hid (decide (x ∈ L) = true) := Lib.hid (decide_eq_true (by rw [← e]; exact List.mem_of_getElem? HY.out))
        clear e
        go_wp2
        go_ret
        exact ⟨by rw [HM.out]; rfl, HAL.out.trans (HB.out.mono HAL.out.size)⟩
      · have t5 : (y == x) = false := by simpa using e
        have HN2 := Lib.hid (PoolM.take_no HY.out HNO.out e)
        clear e
        go_wp2
        go_roundw
        case rel => exact ⟨k + 1, by omega, by go_num, HN2.out, HB.out⟩
        case measure => simp [intOf]; omega
    · obtain rfl : k = L.length := by omega
      have HM : Hid (decide (x ∈ L) = false) := Lib.hid (decide_eq_false (by have := HNO.out; rwa [List.take_length] at this))
      go_wp2
      go_ret
      exact ⟨by rw [HM.out]; rfl, HAL.out.trans (HB.out.mono HAL.out.size)⟩
end Go.Proofs.Ytogijlpclceanaa
