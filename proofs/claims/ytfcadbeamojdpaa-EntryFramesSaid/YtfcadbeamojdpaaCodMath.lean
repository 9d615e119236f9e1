/- Plain mathematics of numbers in bytes: widths, bytes of a number, the number of bytes. No program in sight. -/
namespace Cod
/-- a number's bytes, the lowest first -/
def leN : Nat → Nat → List Nat
  | 0, _ => []
  | n + 1, v => v % 256 :: leN n (v / 256)
/-- the number of bytes -/
def rd : List Nat → Nat
  | [] => 0
  | c :: l => c + 256 * rd l
theorem leN_length (n v : Nat) : (leN n v).length = n := by
  induction n generalizing v with
  | zero => rfl
  | succ n ih => simp [leN, ih]
theorem leN_lt (n v : Nat) : ∀ c ∈ leN n v, c < 256 := by
  induction n generalizing v with
  | zero => simp [leN]
  | succ n ih =>
    intro c hc
    simp only [leN, List.mem_cons] at hc
    rcases hc with rfl | hc
    · omega
    · exact ih _ c hc
theorem rd_lt (l : List Nat) (hl : ∀ c ∈ l, c < 256) : rd l < 256 ^ l.length := by
  induction l with
  | nil => simp [rd]
  | cons c l ih =>
    have h1 := hl c (by simp)
    have h2 := ih fun d hd => hl d (by simp [hd])
    simp only [rd, List.length_cons, Nat.pow_succ]
    omega
theorem rd_leN (n v : Nat) (hv : v < 256 ^ n) : rd (leN n v) = v := by
  induction n generalizing v with
  | zero => simp at hv; simp [leN, rd, hv]
  | succ n ih =>
    simp only [leN, rd]
    rw [ih (v / 256) (by rw [Nat.pow_succ] at hv; omega)]
    omega
theorem leN_rd (l : List Nat) (hl : ∀ c ∈ l, c < 256) : leN l.length (rd l) = l := by
  induction l with
  | nil => rfl
  | cons c l ih =>
    have h1 := hl c (by simp)
    simp only [rd, List.length_cons, leN]
    rw [show (c + 256 * rd l) % 256 = c by omega, show (c + 256 * rd l) / 256 = rd l by omega, ih fun d hd => hl d (by simp [hd])]
theorem leN_snoc (n v : Nat) : leN (n + 1) v = leN n v ++ [v / 256 ^ n % 256] := by
  induction n generalizing v with
  | zero => simp [leN]
  | succ n ih =>
    rw [leN, ih (v / 256)]
    simp only [leN, List.cons_append]
    rw [Nat.div_div_eq_div_mul, Nat.pow_succ, Nat.mul_comm 256]
theorem leN_inj {n a b : Nat} (ha : a < 256 ^ n) (hb : b < 256 ^ n) (e : leN n a = leN n b) : a = b := by
  rw [← rd_leN n a ha, ← rd_leN n b hb, e]
theorem rd_snoc (l : List Nat) (c : Nat) : rd (l ++ [c]) = rd l + 256 ^ l.length * c := by
  induction l with
  | nil => simp [rd]
  | cons d l ih =>
    simp only [List.cons_append, rd, ih, List.length_cons, Nat.pow_succ]
    rw [Nat.mul_add, Nat.mul_comm (256 ^ l.length) 256, Nat.mul_assoc]
    omega
theorem rd_take_succ (l : List Nat) (k c : Nat) (h : l[k]? = some c) : rd (l.take (k + 1)) = rd (l.take k) + 256 ^ k * c := by
  obtain ⟨hk, rfl⟩ := List.getElem?_eq_some_iff.1 h
  rw [List.take_succ_eq_append_getElem hk, rd_snoc, List.length_take, Nat.min_eq_left (by omega)]
theorem rd_drop (l : List Nat) (k c : Nat) (h : l[k]? = some c) : rd (l.drop k) = c + 256 * rd (l.drop (k + 1)) := by
  obtain ⟨hk, rfl⟩ := List.getElem?_eq_some_iff.1 h
  rw [List.drop_eq_getElem_cons hk]
  rfl
theorem rd_take_lt (l : List Nat) (hl : ∀ c ∈ l, c < 256) (k : Nat) (hk : k ≤ l.length) : rd (l.take k) < 256 ^ k := by
  have := rd_lt (l.take k) fun c hc => hl c (List.mem_of_mem_take hc)
  rwa [List.length_take, Nat.min_eq_left hk] at this
theorem rd_drop_lt (l : List Nat) (hl : ∀ c ∈ l, c < 256) (k : Nat) : rd (l.drop k) < 256 ^ (l.length - k) := by
  have := rd_lt (l.drop k) fun c hc => hl c (List.mem_of_mem_drop hc)
  rwa [List.length_drop] at this
/-- the least width of a number; 8: there is none up to 7 -/
def widN (v : Nat) : Nat := if v < 256 then 1 else if v < 65536 then 2 else if v < 16777216 then 3 else if v < 4294967296 then 4 else if v < 1099511627776 then 5 else if v < 281474976710656 then 6 else if v < 72057594037927936 then 7 else 8
theorem widN_of (v k : Nat) (hk : k ≤ 7) (h1 : v / 256 ^ k / 256 = 0) (h2 : k = 0 ∨ 0 < v / 256 ^ k) : widN v = k + 1 := by
  have h : k = 0 ∨ k = 1 ∨ k = 2 ∨ k = 3 ∨ k = 4 ∨ k = 5 ∨ k = 6 ∨ k = 7 := by omega
  unfold widN
  rcases h with rfl | rfl | rfl | rfl | rfl | rfl | rfl | rfl <;> simp only [Nat.reducePow] at h1 h2 <;> repeat' split
  all_goals omega
theorem widN_le (v k : Nat) (h1 : 1 ≤ k) (h7 : k ≤ 7) : widN v ≤ k ↔ v < 256 ^ k := by
  have h : k = 1 ∨ k = 2 ∨ k = 3 ∨ k = 4 ∨ k = 5 ∨ k = 6 ∨ k = 7 := by omega
  unfold widN
  rcases h with rfl | rfl | rfl | rfl | rfl | rfl | rfl <;> simp only [Nat.reducePow] <;> repeat' split
  all_goals omega
theorem widN_pos (v : Nat) : 1 ≤ widN v ∧ widN v ≤ 8 := by
  unfold widN
  repeat' split
  all_goals omega
theorem pow_le (k : Nat) (h7 : k ≤ 7) : 256 ^ k ≤ 72057594037927936 ∧ 1 ≤ 256 ^ k := by
  have h : k = 0 ∨ k = 1 ∨ k = 2 ∨ k = 3 ∨ k = 4 ∨ k = 5 ∨ k = 6 ∨ k = 7 := by omega
  rcases h with rfl | rfl | rfl | rfl | rfl | rfl | rfl | rfl <;> simp only [Nat.reducePow] <;> omega
theorem width_small (n k : Nat) (hn : n < 9223372036854775808) (h : 0 < n / 256 ^ k) : k ≤ 7 := by
  rcases Nat.lt_or_ge 7 k with h8 | h8
  · have h1 : 256 ^ 8 ≤ 256 ^ k := Nat.pow_le_pow_right (by omega) (by omega)
    have h2 : n / 256 ^ k = 0 := Nat.div_eq_of_lt (by simp only [Nat.reducePow] at h1; omega)
    omega
  · exact h8
/-- 256 to a number, behind a name -/
def pw (k : Nat) : Nat := 256 ^ k
theorem pw_zero : pw 0 = 1 := rfl
theorem pw_succ (k : Nat) : pw (k + 1) = pw k * 256 := Nat.pow_succ ..
theorem pw_le (k : Nat) (h7 : k ≤ 7) : pw k ≤ 72057594037927936 ∧ 1 ≤ pw k := pow_le k h7
theorem pw_le6 (k : Nat) (h6 : k ≤ 6) : pw k ≤ 281474976710656 := by
  have := pw_le (k + 1) (by omega)
  rw [pw_succ] at this
  omega
/-- the width that the code tells -/
def wid (v : Int) : Int := if v < 0 then 8 else widN v.toNat
/-- it fits in a width from 1 to 7 -/
def fits (width v : Int) : Bool := decide (1 ≤ width) && decide (width ≤ 7) && decide (0 ≤ v) && decide (v < 256 ^ width.toNat)
theorem pow_cast (k : Nat) : ((256 ^ k : Nat) : Int) = (256 : Int) ^ k := by rw [Int.natCast_pow]; rfl
theorem fits_iff (width v : Int) : fits width v = true ↔ ∃ k n : Nat, width = k ∧ v = n ∧ 1 ≤ k ∧ k ≤ 7 ∧ n < 256 ^ k := by
  unfold fits
  simp only [Bool.and_eq_true, decide_eq_true_eq]
  constructor
  · rintro ⟨⟨⟨h1, h2⟩, h3⟩, h4⟩
    obtain ⟨k, rfl⟩ := Int.eq_ofNat_of_zero_le (show 0 ≤ width by omega)
    obtain ⟨n, rfl⟩ := Int.eq_ofNat_of_zero_le h3
    refine ⟨k, n, rfl, rfl, by omega, by omega, ?_⟩
    rw [Int.toNat_natCast, ← pow_cast] at h4
    exact Int.ofNat_lt.1 h4
  · rintro ⟨k, n, rfl, rfl, h1, h7, h⟩
    refine ⟨⟨⟨by omega, by omega⟩, by omega⟩, ?_⟩
    rw [Int.toNat_natCast, ← pow_cast]
    exact Int.ofNat_lt.2 h
theorem fits_wid (width v : Int) (h1 : 1 ≤ width) (h7 : width ≤ 7) : fits width v = decide (wid v ≤ width) := by
  obtain ⟨k, rfl⟩ := Int.eq_ofNat_of_zero_le (show 0 ≤ width by omega)
  rw [Bool.eq_iff_iff, fits_iff, decide_eq_true_eq]
  unfold wid
  constructor
  · rintro ⟨k', n, hk, rfl, _, _, h⟩
    have : k = k' := by omega
    subst this
    rw [if_neg (by omega), Int.toNat_natCast]
    have := (widN_le n k (by omega) (by omega)).2 h
    omega
  · intro h
    by_cases hv : v < 0
    · rw [if_pos hv] at h; omega
    · rw [if_neg hv] at h
      obtain ⟨n, rfl⟩ := Int.eq_ofNat_of_zero_le (show 0 ≤ v by omega)
      rw [Int.toNat_natCast] at h
      exact ⟨k, n, rfl, rfl, by omega, by omega, (widN_le n k (by omega) (by omega)).1 (by omega)⟩
theorem or_add (v c k : Nat) (hv : v < 256 ^ k) : v ||| (c * 256 ^ k) = v + 256 ^ k * c := by
  have e : 256 ^ k = 2 ^ (8 * k) := by rw [Nat.pow_mul]
  rw [e] at hv ⊢
  rw [Nat.mul_comm c, Nat.or_comm, ← Nat.two_pow_add_eq_or_of_lt hv]
  omega
end Cod
