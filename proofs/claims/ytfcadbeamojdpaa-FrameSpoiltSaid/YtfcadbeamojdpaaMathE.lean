/- Plain mathematics for CrcPatterns: a list, exclusive-ored with another one place by place, and what a sealed list with a pattern in it comes to. -/
import Derived.Test.YtfcadbeamojdpaaMath
namespace Crc
/-- the first k places of S are xored with those of q -/
def xorTo (S q : List Nat) : Nat → List Nat
  | 0 => S
  | k + 1 => (xorTo S q k).set k ((xorTo S q k).getD k 0 ^^^ q.getD k 0)
theorem xorTo_length (S q : List Nat) (k : Nat) : (xorTo S q k).length = S.length := by
  induction k with
  | zero => rfl
  | succ k ih => simp [xorTo, ih]
theorem xorTo_at (S q : List Nat) (k i : Nat) : (xorTo S q k).getD i 0 = if i < k ∧ i < S.length then S.getD i 0 ^^^ q.getD i 0 else S.getD i 0 := by
  induction k with
  | zero => simp [xorTo]
  | succ k ih =>
    by_cases hik : i = k
    · subst hik
      by_cases hl : i < S.length
      · have h1 : i < (xorTo S q i).length := by rw [xorTo_length]; exact hl
        have h2 : (xorTo S q i).getD i 0 = S.getD i 0 := by rw [ih, if_neg (by omega)]
        rw [if_pos ⟨by omega, hl⟩, xorTo, h2]
        simp [List.getD_eq_getElem?_getD, h1]
      · have h1 : (xorTo S q (i + 1)).length = S.length := xorTo_length _ _ _
        rw [if_neg (by omega), List.getD_eq_getElem?_getD, List.getD_eq_getElem?_getD, List.getElem?_eq_none (by omega), List.getElem?_eq_none (by omega)]
    · have h : (xorTo S q (k + 1)).getD i 0 = (xorTo S q k).getD i 0 := by
        simp only [xorTo, List.getD_eq_getElem?_getD]
        rw [List.getElem?_set_ne (fun e => hik e.symm)]
      rw [h, ih]
      by_cases hl : i < k ∧ i < S.length
      · rw [if_pos hl, if_pos (by omega)]
      · rw [if_neg hl, if_neg (by omega)]
theorem xorTo_zip (S q : List Nat) (h : S.length = q.length) : xorTo S q S.length = List.zipWith (· ^^^ ·) S q := by
  apply List.ext_getElem
  · rw [xorTo_length, List.length_zipWith]; omega
  · intro i h1 h2
    have h3 := xorTo_at S q S.length i
    rw [xorTo_length] at h1
    rw [if_pos ⟨h1, h1⟩] at h3
    have hq : i < q.length := by omega
    simp only [List.getD_eq_getElem?_getD] at h3
    rw [List.getElem?_eq_getElem (by rw [xorTo_length]; exact h1), List.getElem?_eq_getElem h1, List.getElem?_eq_getElem hq] at h3
    simp only [Option.getD_some] at h3
    rw [h3, List.getElem_zipWith]
theorem xorTo_lt {S q : List Nat} (hS : ∀ c ∈ S, c < 256) (hq : ∀ c ∈ q, c < 256) (k : Nat) : ∀ c ∈ xorTo S q k, c < 256 := by
  induction k with
  | zero => exact hS
  | succ k ih =>
    intro c hc
    rcases List.mem_or_eq_of_mem_set hc with h | h
    · exact ih c h
    · rw [h]
      exact Nat.xor_lt_two_pow (n := 8) (getD_lt ih k) (getD_lt hq k)
theorem four_of {d : List Nat} (hl : d.length = 4) (hd : ∀ c ∈ d, c < 256) : ∃ y, y < 2 ^ 32 ∧ d = le4 y := by
  match d, hl with
  | [a, b, c, e], _ =>
    have ha := hd a (by simp)
    have hb := hd b (by simp)
    have hc := hd c (by simp)
    have he := hd e (by simp)
    exact ⟨a + 256 * b + 65536 * c + 16777216 * e, by omega, (le4_of ha hb hc he).symm⟩
theorem patterns (l q : List Nat) (hl : ∀ c ∈ l, c < 256) (hq : ∀ c ∈ q, c < 256) (e : q.length = l.length + 4) (X : List Nat) (hX : X = xorTo (l ++ le4 (sum l)) q q.length) :
    X.drop (X.length - 4) = le4 (sum (X.take (X.length - 4))) ↔ over 0 q = 0 := by
  have hS : (l ++ le4 (sum l)).length = q.length := by simp [le4, e]
  rw [← hS, xorTo_zip _ _ hS] at hX
  have hXl : X.length = l.length + 4 := by rw [hX, List.length_zipWith, hS, e]; omega
  obtain ⟨y, hy, hd⟩ := four_of (d := q.drop l.length) (by simp [e]) fun c hc => hq c (List.mem_of_mem_drop hc)
  have hqs : q = q.take l.length ++ le4 y := by rw [← hd, List.take_append_drop]
  have hlen : l.length = (q.take l.length).length := by simp [e]
  have hz : X = List.zipWith (· ^^^ ·) l (q.take l.length) ++ List.zipWith (· ^^^ ·) (le4 (sum l)) (le4 y) := by
    rw [hX]
    conv => lhs; arg 3; rw [hqs]
    rw [List.zipWith_append hlen]
  have hzl : (List.zipWith (· ^^^ ·) l (q.take l.length)).length = l.length := by rw [List.length_zipWith, ← hlen]; omega
  rw [hXl, Nat.add_sub_cancel]
  have h1 : X.take l.length = List.zipWith (· ^^^ ·) l (q.take l.length) := by rw [hz, List.take_append_of_le_length (by omega), List.take_of_length_le (by omega)]
  have h2 : X.drop l.length = List.zipWith (· ^^^ ·) (le4 (sum l)) (le4 y) := by rw [hz, List.drop_append_of_le_length (by omega), List.drop_eq_nil_of_le (by omega), List.nil_append]
  rw [h1, h2]
  have := sealed_xor l (q.take l.length) y (fun c hc => hq c (List.mem_of_mem_take hc)) hl hlen hy
  rw [this, ← hqs]
end Crc
