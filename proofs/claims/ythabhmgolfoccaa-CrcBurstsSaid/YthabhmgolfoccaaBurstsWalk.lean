/- Proved here: what the law CrcBursts' text does: it answers true. -/
import Derived.Test.YthabhmgolfoccaaTwoWalk
import Derived.Test.YthabhmgolfoccaaMathB
namespace Go.Proofs.Ythabhmgolfoccaa
open Go.RowKit
set_option linter.unusedVariables false
theorem bit_and1 (v k : Nat) (hv : v < 2 ^ 32) : (bits .and .u32 ((v : Int) / 2 ^ k) 1 == 1) = v.testBit k := by
  have e : ((v : Int) / 2 ^ k) = ((v / 2 ^ k : Nat) : Int) := by rw [Int.natCast_ediv, Int.natCast_pow]; rfl
  rw [e, and1 _ (Nat.lt_of_le_of_lt (Nat.div_le_self _ _) hv)]
  rw [← Nat.shiftRight_eq_div_pow, Nat.testBit]
  rw [Nat.one_and_eq_mod_two]
  rcases Nat.mod_two_eq_zero_or_one (v >>> k) with h | h <;> rw [h] <;> rfl
set_option maxRecDepth 100000 in
set_option maxHeartbeats 400000 in
theorem bursts_walk (v p n : Nat) (hv : v < 2 ^ 32) (hv0 : 0 < v) (hn : 5 ≤ n) (hn2 : n ≤ 200) (hp : p + 32 ≤ 8 * n) (w : World) :
    Calls Try.prog 7 #[.int .u32 v, .int .i64 p, .int .i64 n] w fun e w' => e = .returned (.bool true) ∧ Below w.heap.size w w' := by
  have hmk := run_make_bytes n (by omega)
  have hF := Lib.hid (decide_eq_false (Crc.burst_ne n p v hp hv (by omega)))
  have hv1 : ((v : Int) == 0) = false := by rw [beq_eq_false_iff_ne]; omega
  go_enter Try.func7, Try.ntmps7
  go_wp2_with (first | (go_at_call 11; refine (anchor_any _).mono ?_; rintro e w1 ⟨rfl, hB1⟩))
  go_loopw [34] (fun i wr => ∃ k : Nat, k ≤ 32 ∧ i = .int .i64 k ∧ wr.heap[w1.heap.size]? = some (.cells (byteCells (Crc.burst n p v k)) 5 (0, 0)) ∧ Below w.heap.size w wr ∧ w1.heap.size < wr.heap.size) (fun i _ => 32 - (intOf i).toNat)
  case atStart =>
    exact ⟨0, by omega, rfl, heap_alloc_new w1 _, hB1.alloc hB1.size _, by simp⟩
  case round =>
    obtain ⟨k, hk, rfl, hg, hB, hsz⟩ := hrel
    by_cases hlt : k < 32
    · by_cases hb : v.testBit k = true
      · have e1 := bit_and1 v k hv
        rw [hb] at e1
        have hlb := Crc.burst_lt n p v k
        have hll := Crc.length_burst n p v k
        obtain ⟨x0, v0, hx0, h0, e0, s0⟩ := or_step (Crc.burst n p v k) (p + k) hlb (by omega)
        have hc : wr.cell? ⟨w1.heap.size, (p + k) / 8, none⟩ = some (.int .u8 (x0 : Nat)) := (cell_of_row _ _ _ _ _ _ hg).trans h0
        have hf : wr.frozen? ⟨w1.heap.size, (p + k) / 8, none⟩ = false := frozen_of_row _ _ _ _ _ hg
        have H := Lib.hid (show (wr.setCell ⟨w1.heap.size, (p + k) / 8, none⟩ (.int .u8 (v0 : Nat))).heap[w1.heap.size]? = some (.cells (byteCells (Crc.burst n p v (k + 1))) 5 (0, 0)) by
          rw [heap_setCell_same _ _ _ _ _ _ hg, s0]; simp only [Crc.burst, hb, if_true])
        clear h0 s0 hx0 hg hll hlb hb
        go_wp2
        go_roundw
        case rel => exact ⟨k + 1, by omega, by go_num, H.out, hB.setCell (p := ⟨w1.heap.size, (p + k) / 8, none⟩) hB1.size _, by simp [World.setCell]; exact hsz⟩
        case measure => simp [intOf]; omega
      · have hb' : v.testBit k = false := by simpa using hb
        have e1 := bit_and1 v k hv
        rw [hb'] at e1
        have H := Lib.hid (show Crc.burst n p v (k + 1) = Crc.burst n p v k by simp [Crc.burst, hb'])
        clear hb hb'
        go_wp2
        go_roundw
        case rel => exact ⟨k + 1, by omega, by go_num, by rw [H.out]; exact hg, hB, hsz⟩
        case measure => simp [intOf]; omega
    · obtain rfl : k = 32 := by omega
      have HM := Lib.hid (fun (W : World) hb => multiple_any (some ⟨w1.heap.size, 0, none⟩) (Crc.burst n p v 32) n W hb (by rw [Crc.length_burst]; omega))
      rw [Crc.length_burst] at HM
      have hlb := Crc.burst_lt n p v 32
      clear hlt
      go_wp2_with (first | (go_at_call 12; refine (new_any _).mono ?_; rintro e w2 ⟨rfl, hB2⟩) | (go_at_call 18; refine (HM.out _ (byteCells_row ((hB2.block _ hsz).trans hg) hlb)).mono ?_; rw [hF.out]; rintro e w3 ⟨rfl, hB3⟩))
      go_ret
      have z1 := hB1.size
      have z2 := hB2.size
      exact ⟨rfl, (hB.trans (hB2.mono (by omega))).trans (hB3.mono (by omega))⟩
end Go.Proofs.Ythabhmgolfoccaa
