/- Plain laws on pools: the domain with the most, from ahead and from behind; how many pairs can be taken, one by one. -/
namespace PoolM
set_option linter.unusedVariables false
/-- b is, of the numbers from lo to n, but for one, the first of those with the most -/
def IsBest (lo n : Nat) (c : Nat → Nat) (but b : Int) : Prop :=
  (b = -1 ∧ ∀ j, lo ≤ j → j < n → (j : Int) = but) ∨ (∃ k : Nat, lo ≤ k ∧ k < n ∧ b = k ∧ (k : Int) ≠ but ∧ ∀ j, lo ≤ j → j < n → (j : Int) ≠ but → c j ≤ c k ∧ (j < k → c j < c k))
theorem IsBest.unique {lo n : Nat} {c : Nat → Nat} {but b b' : Int} (h : IsBest lo n c but b) (h' : IsBest lo n c but b') : b = b' := by
  rcases h with ⟨rfl, h⟩ | ⟨k, hk1, hk2, rfl, hkb, h⟩
  · rcases h' with ⟨rfl, -⟩ | ⟨k, h1, h2, rfl, h3, -⟩
    · rfl
    · exact absurd (h k h1 h2) h3
  · rcases h' with ⟨rfl, h'⟩ | ⟨m, hm1, hm2, rfl, hmb, h'⟩
    · exact absurd (h' k hk1 hk2) hkb
    · have a1 := h m hm1 hm2 hmb
      have a2 := h' k hk1 hk2 hkb
      have : k = m := by
        by_cases c1 : k < m
        · have := a2.2 c1; omega
        · by_cases c2 : m < k
          · have := a1.2 c2; omega
          · omega
      rw [this]
/-- one step from ahead -/
def stepF (c : Nat → Nat) (but best : Int) (d : Nat) : Int := if (d : Int) ≠ but ∧ (best < 0 ∨ c best.toNat < c d) then d else best
theorem IsBest.stepF {n : Nat} {c : Nat → Nat} {but b : Int} (h : IsBest 0 n c but b) : IsBest 0 (n + 1) c but (stepF c but b n) := by
  unfold PoolM.stepF
  rcases h with ⟨rfl, h⟩ | ⟨k, hk1, hk2, rfl, hkb, h⟩
  · by_cases hn : (n : Int) = but
    · rw [if_neg (fun x => x.1 hn)]
      exact .inl ⟨rfl, fun j h1 h2 => by
        by_cases e : j = n
        · rw [e]; exact hn
        · exact h j h1 (by omega)⟩
    · rw [if_pos ⟨hn, .inl (by omega)⟩]
      exact .inr ⟨n, by omega, by omega, rfl, hn, fun j h1 h2 h3 => by
        by_cases e : j = n
        · subst e; exact ⟨Nat.le_refl _, fun x => by omega⟩
        · exact absurd (h j h1 (by omega)) h3⟩
  · by_cases hn : (n : Int) = but
    · rw [if_neg (fun x => x.1 hn)]
      exact .inr ⟨k, hk1, by omega, rfl, hkb, fun j h1 h2 h3 => by
        by_cases e : j = n
        · subst e; exact absurd hn h3
        · exact h j h1 (by omega) h3⟩
    · by_cases hc : c k < c n
      · rw [if_pos ⟨hn, .inr (by simpa using hc)⟩]
        exact .inr ⟨n, by omega, by omega, rfl, hn, fun j h1 h2 h3 => by
          by_cases e : j = n
          · subst e; exact ⟨Nat.le_refl _, fun x => by omega⟩
          · have := (h j h1 (by omega) h3).1
            exact ⟨by omega, fun _ => by omega⟩⟩
      · rw [if_neg (fun x => by rcases x.2 with x | x; omega; exact hc (by simpa using x))]
        exact .inr ⟨k, hk1, by omega, rfl, hkb, fun j h1 h2 h3 => by
          by_cases e : j = n
          · subst e; exact ⟨by omega, fun x => by omega⟩
          · exact h j h1 (by omega) h3⟩
theorem IsBest.zero (c : Nat → Nat) (but : Int) : IsBest 0 0 c but (-1) := .inl ⟨rfl, fun j _ h => by omega⟩
/-- one step from behind -/
def stepB (c : Nat → Nat) (but best : Int) (d : Nat) : Int := if (d : Int) ≠ but ∧ (best < 0 ∨ c best.toNat ≤ c d) then d else best
theorem IsBest.stepB {lo n : Nat} {c : Nat → Nat} {but b : Int} (hl : lo < n) (h : IsBest (lo + 1) n c but b) : IsBest lo n c but (stepB c but b lo) := by
  unfold PoolM.stepB
  rcases h with ⟨rfl, h⟩ | ⟨k, hk1, hk2, rfl, hkb, h⟩
  · by_cases hn : (lo : Int) = but
    · rw [if_neg (fun x => x.1 hn)]
      exact .inl ⟨rfl, fun j h1 h2 => by
        by_cases e : j = lo
        · rw [e]; exact hn
        · exact h j (by omega) h2⟩
    · rw [if_pos ⟨hn, .inl (by omega)⟩]
      exact .inr ⟨lo, by omega, by omega, rfl, hn, fun j h1 h2 h3 => by
        by_cases e : j = lo
        · subst e; exact ⟨Nat.le_refl _, fun x => by omega⟩
        · exact absurd (h j (by omega) h2) h3⟩
  · by_cases hn : (lo : Int) = but
    · rw [if_neg (fun x => x.1 hn)]
      exact .inr ⟨k, by omega, hk2, rfl, hkb, fun j h1 h2 h3 => by
        by_cases e : j = lo
        · subst e; exact absurd hn h3
        · exact h j (by omega) h2 h3⟩
    · by_cases hc : c k ≤ c lo
      · rw [if_pos ⟨hn, .inr (by simpa using hc)⟩]
        exact .inr ⟨lo, by omega, by omega, rfl, hn, fun j h1 h2 h3 => by
          by_cases e : j = lo
          · subst e; exact ⟨Nat.le_refl _, fun x => by omega⟩
          · have := (h j (by omega) h2 h3).1
            exact ⟨by omega, fun _ => by omega⟩⟩
      · rw [if_neg (fun x => by rcases x.2 with x | x; omega; exact hc (by simpa using x))]
        exact .inr ⟨k, by omega, hk2, rfl, hkb, fun j h1 h2 h3 => by
          by_cases e : j = lo
          · subst e; exact ⟨by omega, fun x => by omega⟩
          · exact h j (by omega) h2 h3⟩
theorem IsBest.none (n : Nat) (c : Nat → Nat) (but : Int) : IsBest n n c but (-1) := .inl ⟨rfl, fun j _ h => by omega⟩
/-- with two numbers, or more, there is one -/
theorem IsBest.some {n : Nat} {c : Nat → Nat} {but b : Int} (h : IsBest 0 n c but b) (hn : 2 ≤ n) : ∃ k : Nat, k < n ∧ b = k ∧ (k : Int) ≠ but ∧ ∀ j, j < n → (j : Int) ≠ but → c j ≤ c k := by
  rcases h with ⟨rfl, h⟩ | ⟨k, hk1, hk2, rfl, hkb, h⟩
  · have h0 := h 0 (by omega) (by omega)
    have h1 := h 1 (by omega) (by omega)
    omega
  · exact ⟨k, hk2, rfl, hkb, fun j h1 h2 => (h j (by omega) h1 h2).1⟩
/-- the sum of n numbers -/
def sumTo (c : Nat → Nat) : Nat → Nat
  | 0 => 0
  | n + 1 => sumTo c n + c n
theorem sumTo_congr {c c' : Nat → Nat} {n : Nat} (h : ∀ j, j < n → c j = c' j) : sumTo c n = sumTo c' n := by
  induction n with
  | zero => rfl
  | succ n ih => simp only [sumTo]; rw [ih (fun j hj => h j (by omega)), h n (by omega)]
theorem sumTo_less {c c' : Nat → Nat} {n a : Nat} (ha : a < n) (h0 : c' a + 1 = c a) (h : ∀ j, j ≠ a → c' j = c j) : sumTo c' n + 1 = sumTo c n := by
  induction n with
  | zero => omega
  | succ n ih =>
    simp only [sumTo]
    by_cases e : a = n
    · subst e
      rw [sumTo_congr (c := c') (c' := c) (fun j hj => h j (by omega))]
      omega
    · have := ih (by omega)
      rw [h n (by omega)]
      omega
theorem sumTo_ge {c : Nat → Nat} {n a : Nat} (ha : a < n) : c a ≤ sumTo c n := by
  induction n with
  | zero => omega
  | succ n ih =>
    simp only [sumTo]
    by_cases e : a = n
    · subst e; omega
    · have := ih (by omega); omega
theorem sumTo_ge2 {c : Nat → Nat} {n a b : Nat} (ha : a < n) (hb : b < n) (hab : a ≠ b) : c a + c b ≤ sumTo c n := by
  induction n with
  | zero => omega
  | succ n ih =>
    simp only [sumTo]
    by_cases e : a = n
    · subst e
      have := sumTo_ge (c := c) (n := a) (a := b) (by omega)
      omega
    · by_cases e2 : b = n
      · subst e2
        have := sumTo_ge (c := c) (n := b) (a := a) (by omega)
        omega
      · have := ih (by omega) (by omega); omega
theorem sumTo_ge3 {c : Nat → Nat} {n a b d : Nat} (ha : a < n) (hb : b < n) (hd : d < n) (hab : a ≠ b) (had : a ≠ d) (hbd : b ≠ d) : c a + c b + c d ≤ sumTo c n := by
  induction n with
  | zero => omega
  | succ n ih =>
    simp only [sumTo]
    by_cases e : a = n
    · subst e
      have := sumTo_ge2 (c := c) (n := a) (a := b) (b := d) (by omega) (by omega) hbd
      omega
    · by_cases e2 : b = n
      · subst e2
        have := sumTo_ge2 (c := c) (n := b) (a := a) (b := d) (by omega) (by omega) had
        omega
      · by_cases e3 : d = n
        · subst e3
          have := sumTo_ge2 (c := c) (n := d) (a := a) (b := b) (by omega) (by omega) hab
          omega
        · have := ih (by omega) (by omega) (by omega); omega
/-- all but one are nought -/
theorem sumTo_one {c : Nat → Nat} {n a : Nat} (ha : a < n) (h : ∀ j, j < n → j ≠ a → c j = 0) : sumTo c n = c a := by
  induction n with
  | zero => omega
  | succ n ih =>
    simp only [sumTo]
    by_cases e : a = n
    · subst e
      have : sumTo c a = 0 := by
        have : ∀ m, m ≤ a → sumTo c m = 0 := by
          intro m
          induction m with
          | zero => intro _; rfl
          | succ m ih2 => intro hm; simp only [sumTo]; rw [ih2 (by omega), h m (by omega) (by omega)]
        exact this a (Nat.le_refl _)
      omega
    · rw [ih (by omega) (fun j h1 h2 => h j (by omega) h2), h n (by omega) (fun x => e x.symm)]
      omega
/-- how many pairs: m is the most -/
def pairs (s m : Nat) : Nat := min (s / 2) (s - m)
/-- a step: two are taken, of the two domains with the most -/
theorem pairs_step {n : Nat} {c c' : Nat → Nat} {a b : Nat} (ha : a < n) (hb : b < n) (hab : a ≠ b) (hmax : ∀ j, j < n → c j ≤ c a) (hnext : ∀ j, j < n → j ≠ a → c j ≤ c b) (h0 : c b ≠ 0)
    (h1 : c' a + 1 = c a) (h2 : c' b + 1 = c b) (h3 : ∀ j, j ≠ a → j ≠ b → c' j = c j) {k : Nat} (hk : k < n) (hkm : ∀ j, j < n → c' j ≤ c' k) : pairs (sumTo c' n) (c' k) + 1 = pairs (sumTo c n) (c a) := by
  have hs : sumTo c' n + 2 = sumTo c n := by
    have e1 := sumTo_less (c := c) (c' := fun j => if j = a then c' a else c j) ha (by simp [h1]) (fun j hj => by simp [hj])
    have e2 := sumTo_less (c := fun j => if j = a then c' a else c j) (c' := c') hb (by simp [Ne.symm hab, h2]) (fun j hj => by
      by_cases e : j = a
      · simp [e]
      · simp [e, h3 j e hj])
    omega
  have g2 := sumTo_ge2 (c := c) ha hb hab
  have hca : c b ≤ c a := hmax b hb
  have hk1 : c' a ≤ c' k := hkm a ha
  by_cases e1 : k = a
  · subst e1
    unfold pairs
    omega
  · by_cases e2 : k = b
    · subst e2
      unfold pairs
      omega
    · have e3 := h3 k e1 e2
      have e4 := hnext k hk e1
      have g3 := sumTo_ge3 (c := c) ha hb hk hab (Ne.symm e1) (Ne.symm e2)
      have := hmax k hk
      unfold pairs
      by_cases e5 : c k = c a
      · omega
      · omega
theorem pairs_stop {n : Nat} {c : Nat → Nat} {a b : Nat} (ha : a < n) (hb : b < n) (hab : a ≠ b) (hnext : ∀ j, j < n → j ≠ a → c j ≤ c b) (h0 : c b = 0) : pairs (sumTo c n) (c a) = 0 := by
  have := sumTo_one (c := c) ha (fun j h1 h2 => by have := hnext j h1 h2; omega)
  unfold pairs
  omega
/-- a pair is taken just if there is one -/
theorem pairs_pos {n : Nat} {c : Nat → Nat} {a b : Nat} (ha : a < n) (hb : b < n) (hab : a ≠ b) (hmax : c b ≤ c a) (h0 : c b ≠ 0) : pairs (sumTo c n) (c a) ≠ 0 := by
  have := sumTo_ge2 (c := c) ha hb hab
  unfold pairs
  omega
end PoolM
