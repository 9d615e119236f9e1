/- Plain mathematics: one bit that is turned turns raw sums and sums. -/
import Derived.Test.YthabhmgolfoccaaMath
namespace Crc
def xorAt (l : List Nat) (i : Nat) : List Nat := l.set (i / 8) (l.getD (i / 8) 0 ^^^ 2 ^ (i % 8))
theorem length_xorAt (l : List Nat) (i : Nat) : (xorAt l i).length = l.length := by simp [xorAt]
theorem xorAt_lt {l : List Nat} (hl : ∀ c ∈ l, c < 256) (i : Nat) : ∀ c ∈ xorAt l i, c < 256 := by
  intro c hc
  rcases List.mem_or_eq_of_mem_set hc with h | h
  · exact hl c h
  · rw [h]; exact Nat.xor_lt_two_pow (n := 8) (getD_lt hl _) (two_pow_lt i)
theorem bitOf_xorAt (l : List Nat) (i j : Nat) (hi : i < 8 * l.length) : bitOf (xorAt l i) j = (bitOf l j ^^ decide (j = i)) := by
  unfold bitOf xorAt
  simp only [List.getD_eq_getElem?_getD, List.getElem?_set]
  by_cases h : i / 8 = j / 8
  · rw [if_pos h, if_pos (by omega)]
    simp only [Option.getD_some, Nat.testBit_xor, Nat.testBit_two_pow, h]
    congr 1
    rw [decide_eq_decide]
    omega
  · rw [if_neg h]
    have : decide (j = i) = false := by rw [decide_eq_false_iff_not]; rintro rfl; exact h rfl
    rw [this, Bool.xor_false]
theorem over_xorAt (l : List Nat) (hl : ∀ c ∈ l, c < 256) (r i : Nat) (hi : i < 8 * l.length) : over r (xorAt l i) ≠ over r l := by
  rw [over_runB _ r (xorAt_lt hl i), over_runB _ r hl, length_xorAt]
  have e : runB (bitOf (xorAt l i)) 0 (8 * l.length) r = runB (fun j => bitOf l j ^^ decide (j = i)) 0 (8 * l.length) r :=
    runB_congr _ _ _ _ _ fun j hj => bitOf_xorAt l i _ hi
  have e2 := runB_xor (bitOf l) (fun j => decide (j = i)) 0 (8 * l.length) r 0
  rw [Nat.xor_zero] at e2
  rw [e, e2]
  obtain ⟨m, hm⟩ : ∃ m, 8 * l.length = i + (1 + m) := ⟨8 * l.length - i - 1, by omega⟩
  have e3 : runB (fun j => decide (j = i)) 0 (8 * l.length) 0 = hn (1 + m) 1 := by
    rw [hm, runB_add, runB_zero _ 0 i 0 (fun k hk => by simp; omega), hn_zero, runB_add, runB_word _ _ 1 0 1 (by decide) (fun k hk => by
      obtain rfl : k = 0 := by omega
      simp), runB_zero _ _ m _ (fun k hk => by simp; omega), hn_add]
    rfl
  rw [e3]
  intro h
  have h2 : hn (1 + m) 1 = 0 := by
    have h3 : runB (bitOf l) 0 (8 * l.length) r ^^^ (runB (bitOf l) 0 (8 * l.length) r ^^^ hn (1 + m) 1) = runB (bitOf l) 0 (8 * l.length) r ^^^ runB (bitOf l) 0 (8 * l.length) r := by rw [h]
    rwa [← Nat.xor_assoc, Nat.xor_self, Nat.zero_xor] at h3
  have := hn_ne (1 + m) (by decide) h2
  omega
theorem sum_xorAt (l : List Nat) (hl : ∀ c ∈ l, c < 256) (i : Nat) (hi : i < 8 * l.length) : sum (xorAt l i) ≠ sum l := by
  unfold sum
  intro h
  refine over_xorAt l hl ones i hi ?_
  have h3 : over ones (xorAt l i) ^^^ ones ^^^ ones = over ones l ^^^ ones ^^^ ones := by rw [h]
  rwa [Nat.xor_assoc, Nat.xor_self, Nat.xor_zero, Nat.xor_assoc, Nat.xor_self, Nat.xor_zero] at h3
end Crc
