/- Proved here: the contract of a sector's Xor. -/
import Derived.Test.YtfcadbeamojdpaaEncode
import Derived.Test.YtfcadbeamojdpaaMathE
import Derived.StillTailTactics
namespace Go.Proofs.Ytfcadbeamojdpaa
open Go.RowKit Go.Rv Frm
set_option linter.unusedVariables false
set_option maxRecDepth 100000 in
set_option maxHeartbeats 1000000 in
theorem xor_any (l m : List Nat) (w : World) (hl : l.length = 64) (hm : m.length = 64) (bl : ∀ c ∈ l, c < 256) (bm : ∀ c ∈ m, c < 256) :
    Calls Try.prog 21 #[.agg (byteCells l), .agg (byteCells m)] w fun e w' => e = .returned (.agg (byteCells (Crc.xorTo l m 64))) ∧ Below w.heap.size w w' := by
  have hz := (zero_of_info Try.infoSector).1
  obtain ⟨hA0, hM0, hZ0⟩ := alloc3_at w (.cells (byteCells l) 31) (.cells (byteCells m) 31) (.cells (byteCells (List.replicate 64 0)) 31)
  have hB0 := below3 w (.cells (byteCells l) 31) (.cells (byteCells m) 31) (.cells (byteCells (List.replicate 64 0)) 31)
  obtain ⟨X, hX⟩ : ∃ X, Crc.xorTo l m 64 = X := ⟨_, rfl⟩
  have hXl : X.length = 64 := by rw [← hX, Crc.xorTo_length, hl]
  have HX := Lib.hid hX
  rw [hX]
  have HIX := Lib.hid (size_sec hXl)
  have H1X := Lib.hid (one_byteCells X)
  have HSZ := Lib.hid (show (byteCells (List.replicate 64 0)).size = (byteCells X).size by rw [size_byteCells, size_byteCells, hXl]; simp)
  obtain ⟨XA, hXA⟩ : ∃ XA, byteCells X = XA := ⟨_, rfl⟩
  have HXA := Lib.hid hXA
  rw [hXA] at HIX H1X HSZ
  rw [hXA]
  clear hX hXl hXA
  have HL := Lib.hid hl
  have HM := Lib.hid hm
  have BL := Lib.hid bl
  have BM := Lib.hid bm
  clear hl hm bl bm
  generalize byteCells (List.replicate 64 0) = ZS at *
  go_enter Try.func21, Try.ntmps21
  go_wp2_with fail
  go_loopw [6] (fun i wr => ∃ k : Nat, k ≤ 64 ∧ i = .int .i64 k ∧ wr.heap[w.heap.size]? = some (.cells (byteCells (Crc.xorTo l m k)) 31 (0, 0)) ∧ wr.heap[w.heap.size + 1]? = some (.cells (byteCells m) 31 (0, 0)) ∧ wr.heap[w.heap.size + 1 + 1]? = some (.cells ZS 31 (0, 0)) ∧ Below w.heap.size w wr) (fun i _ => 64 - (intOf i).toNat)
  case atStart => exact ⟨0, by omega, rfl, hA0, hM0, hZ0, hB0⟩
  case round =>
    obtain ⟨k, hk, rfl, hA, hM, hZ, hB⟩ := hrel
    clear hA0 hM0 hZ0 hB0
    by_cases hlt : k < 64
    · have hxl := Crc.xorTo_length l m k
      rw [HL.out] at hxl
      have hxb := Crc.xorTo_lt BL.out BM.out k
      have hx : wr.cell? ⟨w.heap.size, k, none⟩ = some (.int .u8 ((Crc.xorTo l m k).getD k 0 : Nat)) := (cell_of_row _ _ _ _ _ _ hA).trans (byteCells_at _ _ (by rw [hxl]; exact hlt))
      have hy : wr.cell? ⟨w.heap.size + 1, k, none⟩ = some (.int .u8 (m.getD k 0 : Nat)) := (cell_of_row _ _ _ _ _ _ hM).trans (byteCells_at _ _ (by rw [HM.out]; exact hlt))
      have hfz : wr.frozen? ⟨w.heap.size, k, none⟩ = false := frozen_of_row _ _ _ _ _ hA
      have hx8 := Crc.getD_lt hxb k
      have hy8 := Crc.getD_lt BM.out k
      have hst : (byteCells (Crc.xorTo l m k)).setIfInBounds k (.int .u8 (((Crc.xorTo l m k).getD k 0 ^^^ m.getD k 0 : Nat) : Int)) = byteCells (Crc.xorTo l m (k + 1)) := byteCells_set _ _ _
      have HST := Lib.hid hst
      clear hst
      generalize (Crc.xorTo l m k).getD k 0 = x at *
      generalize m.getD k 0 = y at *
      have hxy : bits .xor .u8 (x : Int) (y : Int) = ((x ^^^ y : Nat) : Int) := u8_xor_nat x y hx8 hy8
      generalize x ^^^ y = z at *
      have i0 : (0 : Int) ≤ (k : Int) := by omega
      have i1 : (k : Int) < 64 := by omega
      clear hxl hxb
      go_wp2
      go_still_tail 8, (by kernel_rfl)
      change wpList _ _ _ _ _ wr.drew
      have hA2 : wr.drew.heap[w.heap.size]? = some (.cells (byteCells (Crc.xorTo l m k)) 31 (0, 0)) := hA
      have hM2 : wr.drew.heap[w.heap.size + 1]? = some (.cells (byteCells m) 31 (0, 0)) := hM
      have hZ2 : wr.drew.heap[w.heap.size + 1 + 1]? = some (.cells ZS 31 (0, 0)) := hZ
      have hx2 : wr.drew.cell? ⟨w.heap.size, k, none⟩ = some (.int .u8 x) := hx
      have hf2 : wr.drew.frozen? ⟨w.heap.size, k, none⟩ = false := hfz
      have hB2 : Below w.heap.size w wr.drew := hB.drew
      clear hA hM hZ hx hy hfz hB
      generalize wr.drew = wd at *
      have HN := Lib.hid (show ((wd.setCell ⟨w.heap.size, k, none⟩ (.int .u8 (z : Nat))).heap[w.heap.size]? = some (.cells (byteCells (Crc.xorTo l m (k + 1))) 31 (0, 0)) ∧ (wd.setCell ⟨w.heap.size, k, none⟩ (.int .u8 (z : Nat))).heap[w.heap.size + 1]? = some (.cells (byteCells m) 31 (0, 0)) ∧ (wd.setCell ⟨w.heap.size, k, none⟩ (.int .u8 (z : Nat))).heap[w.heap.size + 1 + 1]? = some (.cells ZS 31 (0, 0)) ∧ Below w.heap.size w (wd.setCell ⟨w.heap.size, k, none⟩ (.int .u8 (z : Nat)))) from ⟨by rw [heap_setCell_same _ _ _ _ _ _ hA2, HST.out], (Below.heap_setCell wd _ _ (w.heap.size + 1) (by simp)).trans hM2, (Below.heap_setCell wd _ _ (w.heap.size + 1 + 1) (by simp; omega)).trans hZ2, hB2.setCell (p := ⟨w.heap.size, k, none⟩) (Nat.le_refl _) _⟩)
      clear hA2 hM2 hZ2 hB2
      go_wp2
      go_roundw
      case rel => exact ⟨k + 1, by omega, by go_num, HN.out.1, HN.out.2.1, HN.out.2.2.1, HN.out.2.2.2⟩
      case measure => simp [intOf]; omega
    · obtain rfl : k = 64 := by omega
      clear hlt
      rw [HX.out, HXA.out] at hA
      go_wp2_with (first | (refine wpList_load_row rfl 31 _ rfl w.heap.size rfl 31 _ _ _ hA Try.underlying31 rfl HIX.out ?_) | (refine wpList_store_row rfl 31 _ _ rfl (w.heap.size + 1 + 1) XA rfl rfl 31 ZS hZ HIX.out HSZ.out H1X.out ?_))
      refine bodyPost_ret (results_cell_row rfl _ _ (w.heap.size + 1 + 1) 31 XA _ _ rfl (setRow_heap _ _ _ _ _ _ hZ) Try.underlying31 rfl HIX.out) rfl ?_
      exact ⟨rfl, below_setRow hB (by omega) _⟩
end Go.Proofs.Ytfcadbeamojdpaa
