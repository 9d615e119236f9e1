/- Plain mathematics: the exclusive or of two lists, noughts ahead. -/
import Derived.Test.YthabhmgolfoccaaMath
namespace Crc
/-- k bytes of the exclusive or, behind q noughts, in a list of q + n bytes -/
def xorUpto (q n : Nat) (a b : List Nat) : Nat → List Nat
  | 0 => List.replicate (q + n) 0
  | k + 1 => (xorUpto q n a b k).set (q + k) (a.getD k 0 ^^^ b.getD k 0)
theorem length_xorUpto (q n : Nat) (a b : List Nat) (k : Nat) : (xorUpto q n a b k).length = q + n := by
  induction k with
  | zero => simp [xorUpto]
  | succ k ih => simp [xorUpto, ih]
theorem xorUpto_lt (q n : Nat) {a b : List Nat} (ha : ∀ c ∈ a, c < 256) (hb : ∀ c ∈ b, c < 256) (k : Nat) : ∀ c ∈ xorUpto q n a b k, c < 256 := by
  induction k with
  | zero => exact zeros_lt _
  | succ k ih =>
    intro c hc
    rcases List.mem_or_eq_of_mem_set hc with h | h
    · exact ih c h
    · rw [h]; exact Nat.xor_lt_two_pow (n := 8) (getD_lt ha _) (getD_lt hb _)
theorem xorUpto_eq (q n : Nat) (a b : List Nat) (k : Nat) (hk : k ≤ n) (ha : n ≤ a.length) (hb : n ≤ b.length) :
    xorUpto q n a b k = List.replicate q 0 ++ (List.zipWith (· ^^^ ·) (a.take k) (b.take k) ++ List.replicate (n - k) 0) := by
  induction k with
  | zero => simp [xorUpto, List.replicate_append_replicate]
  | succ k ih =>
    rw [xorUpto, ih (by omega)]
    rw [List.set_append_right _ _ (by simp), List.length_replicate, Nat.add_sub_cancel_left]
    have hl : (List.zipWith (· ^^^ ·) (a.take k) (b.take k)).length = k := by simp; omega
    rw [List.set_append_right _ _ (by rw [hl]; exact Nat.le_refl _), hl, Nat.sub_self]
    have e1 : List.replicate (n - k) 0 = 0 :: List.replicate (n - (k + 1)) 0 := by rw [← List.replicate_succ]; congr 1; omega
    rw [e1, List.set_cons_zero]
    have hak : k < a.length := by omega
    have hbk : k < b.length := by omega
    rw [List.take_succ_eq_append_getElem hak, List.take_succ_eq_append_getElem hbk, List.zipWith_append (by simp; omega)]
    simp [hak, hbk]
theorem over_xorUpto (q n : Nat) (a b : List Nat) (ha : n ≤ a.length) (hb : n ≤ b.length) : over 0 (xorUpto q n a b n) = over 0 (a.take n) ^^^ over 0 (b.take n) := by
  rw [xorUpto_eq q n a b n (Nat.le_refl _) ha hb, Nat.sub_self, List.replicate_zero, List.append_nil, over_append, over_noughts]
  have := over_zip (a.take n) (b.take n) 0 0 (by simp; omega)
  simpa using this
end Crc
