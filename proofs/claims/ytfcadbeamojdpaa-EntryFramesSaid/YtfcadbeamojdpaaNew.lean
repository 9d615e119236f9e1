/- Proved here: the contract of New: the table. -/
import Derived.Test.YtfcadbeamojdpaaRows
import Derived.Test.YtfcadbeamojdpaaMath
import Derived.WalkKit
import Derived.WalkLawsBesides
import Derived.WalkSpells
import Derived.Outline
import Derived.Lib.Hide
import Derived.Deep.WholeRow
import Derived.Laws.CopyOwn
namespace Go.Proofs.Ytfcadbeamojdpaa
open Go.RowKit
set_option linter.unusedVariables false
namespace Tb
def zero : Array Value := Array.replicate 256 (.int .u32 0)
def part (k : Nat) : Array Value := ((List.range 256).map fun i => if i < k then Value.int .u32 (Crc.tab i) else .int .u32 0).toArray
def tabV : Array Value := ((List.range 256).map fun i => Value.int .u32 (Crc.tab i)).toArray
end Tb
theorem Try.infoTab : (Try.prog.info? 28).map (fun i => (i.zero, i.size)) = some (some (.agg Tb.zero), 256) := by kernel_rfl
namespace Tb
theorem size_zero : zero.size = 256 := by simp [zero]
theorem size_part (k : Nat) : (part k).size = 256 := by simp [part]
theorem size_tabV : tabV.size = 256 := by simp [tabV]
theorem part_zero : part 0 = zero := by
  apply Array.ext_getElem?
  intro i
  simp [part, zero, Array.getElem?_replicate]
  by_cases h : i < 256 <;> simp [h]
theorem part_full : part 256 = tabV := by
  apply Array.ext_getElem?
  intro i
  simp [part, tabV]
  by_cases h : i < 256 <;> simp [h]
theorem part_succ (k : Nat) (hk : k < 256) : part (k + 1) = (part k).setIfInBounds k (.int .u32 (Crc.tab k)) := by
  apply Array.ext_getElem?
  intro i
  rw [Array.getElem?_setIfInBounds]
  simp [part]
  by_cases hi : k = i
  · subst hi; simp [hk]
  · by_cases h : i < 256
    · simp [h, hi]
      by_cases h2 : i < k
      · simp [h2, show i < k + 1 by omega]
      · simp [h2, show ¬ i < k + 1 by omega]
    · simp [h, hi]
theorem part_at (k j : Nat) (hj : j < 256) : ∃ v, (part k)[j]? = some v := by
  exact ⟨_, Array.getElem?_eq_getElem (by rw [size_part]; exact hj)⟩
theorem tabV_at (j : Nat) (hj : j < 256) : tabV[j]? = some (.int .u32 (Crc.tab j)) := by
  simp [tabV, hj]
theorem one_tabV : tabV.all (·.oneCell') = true := by
  rw [Array.all_eq_true_iff_forall_mem]
  intro v hv
  simp only [tabV, List.mem_toArray, List.mem_map] at hv
  obtain ⟨i, _, rfl⟩ := hv
  rfl
end Tb
theorem and1 (a : Nat) (ha : a < 2 ^ 32) : bits .and .u32 (a : Int) 1 = ((a % 2 : Nat) : Int) := by
  have := u32_and_nat a 1 (by simpa using ha) (by omega)
  rw [Nat.and_one_is_mod] at this
  exact this
theorem xorG (a : Nat) (ha : a < 2 ^ 32) : bits .xor .u32 ((a : Int) / 2) 2197175160 = (((a / 2) ^^^ Crc.G : Nat) : Int) := by
  have := u32_xor_nat (a / 2) 2197175160 (by omega) (by omega)
  simpa [Crc.G] using this
set_option maxRecDepth 100000 in
set_option maxHeartbeats 400000 in
theorem new_any (w : World) : Calls Try.prog 16 #[] w fun e w' => e = .returned (.agg Tb.tabV) ∧ Below w.heap.size w w' := by
  have hz := (zero_of_info Try.infoTab).1
  go_enter Try.func16, Try.ntmps16
  go_wp2
  go_loopw [5] (fun i wr => ∃ k : Nat, k ≤ 256 ∧ i = .int .i64 k ∧ wr.heap[w.heap.size + 1]? = some (.cells (Tb.part k) 28 (0, 0)) ∧ wr.heap[w.heap.size]? = some (.cells Tb.zero 28 (0, 0)) ∧ Below w.heap.size w wr)
    (fun i _ => 256 - (intOf i).toNat)
  case atStart =>
    exact ⟨0, by omega, rfl, by rw [Tb.part_zero]; exact heap_alloc2_new _ _ _, heap_alloc2_old _ _ _, ((Below.refl _ _).alloc (Nat.le_refl _) _).alloc (by simp) _⟩
  case round =>
    obtain ⟨k, hk, rfl, hT, hR, hB⟩ := hrel
    by_cases hlt : k < 256
    · have hk32 : k < 2 ^ 32 := by omega
      go_wp2
      go_loop [3, 10] (fun r j => ∃ m : Nat, m ≤ 8 ∧ j = .int .i64 m ∧ r = .int .u32 (Crc.hn m k : Nat)) (fun _ j => 8 - (intOf j).toNat)
      case atStart => exact ⟨0, by omega, rfl, rfl⟩
      case round =>
        obtain ⟨m, hm, rfl, rfl⟩ := hrel
        have hl := Crc.hn_lt m hk32
        by_cases hm8 : m < 8
        · have hs : Hid (Crc.hn (m + 1) k = if Crc.hn m k % 2 = 1 then (Crc.hn m k / 2) ^^^ Crc.G else Crc.hn m k / 2) := by
            show Crc.hn (m + 1) k = _
            rw [Crc.hn_add]; rfl
          by_cases h1 : Crc.hn m k % 2 = 1
          · have e1 : (bits BinOp.and IntKind.u32 (↑(Crc.hn m k)) 1 == 1) = true := by rw [and1 _ hl, h1]; rfl
            have e2 := xorG _ hl
            have h1' := Lib.hid h1
            clear h1
            go_wp2
            go_round
            case rel => exact ⟨m + 1, by omega, by go_num, by rw [hs.out, if_pos h1'.out]⟩
            case measure => simp [intOf]; omega
          · have e1 : (bits BinOp.and IntKind.u32 (↑(Crc.hn m k)) 1 == 1) = false := by
              rw [and1 _ hl, show Crc.hn m k % 2 = 0 by omega]; rfl
            go_wp2
            go_round
            case rel => exact ⟨m + 1, by omega, by go_num, by rw [hs.out, if_neg h1]; rfl⟩
            case measure => simp [intOf]; omega
        · obtain rfl : m = 8 := by omega
          obtain ⟨v, hv⟩ := Tb.part_at k k hlt
          have hc : wr.cell? ⟨w.heap.size + 1, k, none⟩ = some v := (cell_of_row _ _ _ _ _ _ hT).trans hv
          have hf : wr.frozen? ⟨w.heap.size + 1, k, none⟩ = false := frozen_of_row _ _ _ _ _ hT
          clear hm8
          go_wp2
          go_roundw
          case rel =>
            exact ⟨k + 1, by omega, by go_num, by rw [heap_setCell_same _ _ _ _ _ _ hT, Tb.part_succ k hlt]; rfl, by rw [heap_setCell_other _ _ _ _ (by simp)]; exact hR, hB.setCell (p := ⟨w.heap.size + 1, k, none⟩) (by simp) _⟩
          case measure => simp [intOf]; omega
    · obtain rfl : k = 256 := by omega
      rw [Tb.part_full] at hT
      clear hlt
      have hi : (Try.prog.info? 28).map (·.size) = some Tb.tabV.size := by rw [Tb.size_tabV]; exact (zero_of_info Try.infoTab).2
      have hI := Lib.hid hi
      clear hi
      go_wp2_with (first | (refine wpList_load_row rfl 28 _ rfl (w.heap.size + 1) rfl 28 _ _ _ hT Try.underlying28 rfl hI.out ?_) | (refine wpList_store_row rfl 28 _ _ rfl w.heap.size Tb.tabV rfl rfl 28 Tb.zero hR hI.out (by rw [Tb.size_zero, Tb.size_tabV]) Tb.one_tabV ?_))
      refine bodyPost_ret (results_cell_row rfl _ _ w.heap.size 28 Tb.tabV _ _ rfl (setRow_heap _ _ _ _ _ _ hR) Try.underlying28 rfl hI.out) rfl ?_
      exact ⟨rfl, below_setRow hB (Nat.le_refl _) _⟩
end Go.Proofs.Ytfcadbeamojdpaa
