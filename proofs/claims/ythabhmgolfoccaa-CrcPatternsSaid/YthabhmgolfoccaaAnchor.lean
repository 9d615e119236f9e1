/- Proved here: the contract of the anchor, and of the document's own step. -/
import Derived.Test.YthabhmgolfoccaaSums
import Derived.Lib.SlBytesConst
namespace Go.Proofs.Ythabhmgolfoccaa
open Go.RowKit Go.Rv
set_option linter.unusedVariables false
def digits : List Nat := [49, 50, 51, 52, 53, 54, 55, 56, 57]
theorem digits_sum : Crc.sum digits = 3808858755 := by decide +kernel
theorem digits_at (w : World) : Bytes (w.alloc (.cells #[.int .u8 49, .int .u8 50, .int .u8 51, .int .u8 52, .int .u8 53, .int .u8 54, .int .u8 55, .int .u8 56, .int .u8 57] 5 (9, 10))) (some ⟨w.heap.size, 0, none⟩) digits := by
  refine ⟨by decide, .inr ⟨w.heap.size, 0, rfl, by simp, fun i hi => ?_⟩⟩
  rw [cell_of_row _ _ _ _ _ _ (heap_alloc_new w _)]
  have hi' : i < 9 := hi
  match i, hi' with
  | 0, _ | 1, _ | 2, _ | 3, _ | 4, _ | 5, _ | 6, _ | 7, _ | 8, _ => rfl
set_option maxRecDepth 100000 in
set_option maxHeartbeats 400000 in
theorem anchor_any (w : World) : Calls Try.prog 11 #[] w fun e w' => e = .returned (.bool true) ∧ Below w.heap.size w w' := by
  have kc := fun (w : World) (C : Array Value) (n c : Nat) => Lib.run_convert_bytes_const (P := Try.prog) w 28 5 C n c Try.underlying28 Try.underlying5
  go_enter Try.func11, Try.ntmps11
  go_wp2_with (first | (go_at_call 12; refine (new_any _).mono ?_; rintro e w1 ⟨rfl, hB1⟩) | (go_at_call 16; refine (sum_any _ digits 9 _ (digits_at w1) (by decide)).mono ?_; rintro e w2 ⟨rfl, hB2⟩; rw [digits_sum]))
  go_ret
  exact ⟨rfl, (hB1.alloc hB1.size _).trans (hB2.mono (by have := hB1.size; simp; omega))⟩
theorem xorG2 (a : Nat) (ha : a < 2 ^ 32) : bits .xor .u32 ((a : Int) / 2) 2197175160 = (((a / 2) ^^^ Crc.G : Nat) : Int) := xorG a ha
theorem xor_rc (r c : Nat) (hr : r < 2 ^ 32) (hc : c < 256) : bits .xor .u32 (r : Int) (c : Int) = ((r ^^^ c : Nat) : Int) :=
  u32_xor_nat r c (by simpa using hr) (by omega)
set_option maxRecDepth 100000 in
set_option maxHeartbeats 400000 in
theorem rstep_any (r c : Nat) (hr : r < 2 ^ 32) (hc : c < 256) (w : World) :
    Calls Try.prog 24 #[.int .u32 r, .int .u8 c] w fun e w' => e = .returned (.int .u32 (Crc.step r c : Nat)) ∧ w = w' := by
  have ex := xor_rc r c hr hc
  have hq : r ^^^ c < 2 ^ 32 := Nat.xor_lt_two_pow hr (by omega)
  have hst : Crc.step r c = Crc.hn 8 (r ^^^ c) := rfl
  rw [hst]
  clear hst
  generalize r ^^^ c = q at *
  go_enter Try.func24, Try.ntmps24
  go_wp2
  go_loop [0, 5] (fun t i => ∃ m : Nat, m ≤ 8 ∧ i = .int .i64 m ∧ t = .int .u32 (Crc.hn m q : Nat)) (fun _ i => 8 - (intOf i).toNat)
  case atStart => exact ⟨0, by omega, rfl, rfl⟩
  case round =>
    obtain ⟨m, hm, rfl, rfl⟩ := hrel
    have hl := Crc.hn_lt m hq
    by_cases hm8 : m < 8
    · have hs : Hid (Crc.hn (m + 1) q = if Crc.hn m q % 2 = 1 then (Crc.hn m q / 2) ^^^ Crc.G else Crc.hn m q / 2) := by
        show Crc.hn (m + 1) q = _
        rw [Crc.hn_add]; rfl
      by_cases h1 : Crc.hn m q % 2 = 1
      · have e2 := xorG _ hl
        have e1 : (((Crc.hn m q : Nat) : Int) % 2 == 1) = true := by simp; omega
        have h1' := Lib.hid h1
        clear h1
        go_wp2
        go_round
        case rel => exact ⟨m + 1, by omega, by go_num, by rw [hs.out, if_pos h1'.out]⟩
        case measure => simp [intOf]; omega
      · have e1 : (((Crc.hn m q : Nat) : Int) % 2 == 1) = false := by simp; omega
        go_wp2
        go_round
        case rel => exact ⟨m + 1, by omega, by go_num, by rw [hs.out, if_neg h1]; rfl⟩
        case measure => simp [intOf]; omega
    · obtain rfl : m = 8 := by omega
      go_wp2
      go_ret
      exact ⟨rfl, rfl⟩
end Go.Proofs.Ythabhmgolfoccaa
