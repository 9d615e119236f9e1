/- Plain mathematics: a burst, written bit by bit. -/
import Derived.Test.YtfcadbeamojdpaaMath
namespace Crc
def burst (n p w : Nat) : Nat → List Nat
  | 0 => List.replicate n 0
  | k + 1 => if w.testBit k then orAt (burst n p w k) (p + k) else burst n p w k
theorem length_burst (n p w k : Nat) : (burst n p w k).length = n := by
  induction k with
  | zero => simp [burst]
  | succ k ih => unfold burst; split <;> simp [length_orAt, ih]
theorem burst_lt (n p w k : Nat) : ∀ c ∈ burst n p w k, c < 256 := by
  induction k with
  | zero => exact zeros_lt n
  | succ k ih =>
    unfold burst
    split
    · exact orAt_lt ih _
    · exact ih
theorem bitOf_burst (n p w k j : Nat) (hk : p + k ≤ 8 * n) : bitOf (burst n p w k) j = (decide (p ≤ j) && (decide (j < p + k) && w.testBit (j - p))) := by
  induction k with
  | zero =>
    have : (decide (p ≤ j) && decide (j < p + 0)) = false := by simp
    rw [← Bool.and_assoc, this, Bool.false_and]
    exact bitOf_zeros n j
  | succ k ih =>
    have ih := ih (by omega)
    by_cases hjk : j = p + k
    · subst hjk
      have e1 : decide (p ≤ p + k) = true := by simp
      have e2 : decide (p + k < p + (k + 1)) = true := by simp
      have e3 : decide (p + k < p + k) = false := by simp
      rw [e1, e3] at ih
      rw [e1, e2, Nat.add_sub_cancel_left]
      unfold burst
      by_cases hw : w.testBit k = true
      · rw [if_pos hw, bitOf_orAt _ _ _ (by rw [length_burst]; omega), ih, hw]; simp
      · rw [if_neg hw, ih]; simp at hw; rw [hw]; rfl
    · have e2 : decide (j < p + (k + 1)) = decide (j < p + k) := by rw [decide_eq_decide]; omega
      rw [e2, ← ih]
      conv => lhs; unfold burst
      by_cases hw : w.testBit k = true
      · rw [if_pos hw, bitOf_orAt _ _ _ (by rw [length_burst]; omega)]
        have : decide (j = p + k) = false := by simp [hjk]
        rw [this, Bool.or_false]
      · rw [if_neg hw]
theorem burst_ne (n p w : Nat) (hp : p + 32 ≤ 8 * n) (hw : w < 2 ^ 32) (h0 : w ≠ 0) : over 0 (burst n p w 32) ≠ 0 := by
  refine over_ne_of_bits _ (burst_lt n p w 32) w p hw h0 (by rw [length_burst]; exact hp) fun i hi => ?_
  rw [bitOf_burst n p w 32 i hp]
  by_cases h : i < p + 32
  · simp [h]
  · have : w.testBit (i - p) = false := by
      apply Nat.testBit_lt_two_pow
      exact Nat.lt_of_lt_of_le hw (Nat.pow_le_pow_right (by decide) (by omega))
    rw [this]
    simp
end Crc
