/- Plain laws on pools: which pair is taken, and how many there are. -/
import Derived.Test.YtogijlpclceanaaPoolLst
namespace PoolM
set_option linter.unusedVariables false
/-- of n domains the first one of those with the most, but for one -/
def bestF (n : Nat) (c : Nat → Nat) (but : Int) : Int := (List.range n).foldl (stepF c but) (-1)
theorem bestF_is (n : Nat) (c : Nat → Nat) (but : Int) : IsBest 0 n c but (bestF n c but) := by
  unfold bestF
  induction n with
  | zero => exact IsBest.zero c but
  | succ n ih =>
    rw [List.range_succ, List.foldl_append]
    exact ih.stepF
theorem bestF_eq {n : Nat} {c : Nat → Nat} {but b : Int} (h : IsBest 0 n c but b) : b = bestF n c but := h.unique (bestF_is n c but)
/-- the two domains -/
def domA (D : Nat) (z : Int) (L : List Int) : Nat := (bestF D (cnt z L) (-1)).toNat
def domB (D : Nat) (z : Int) (L : List Int) : Nat := (bestF D (cnt z L) (domA D z L : Nat)).toNat
/-- the pair that is taken -/
def pairZ (D : Nat) (z : Int) (L : List Int) : Option (Int × Int) :=
  match dl z L (domA D z L), dl z L (domB D z L) with
  | x :: _, y :: _ => some (x, y)
  | _, _ => none
def npairs (D : Nat) (z : Int) (L : List Int) : Nat := pairs L.length (cnt z L (domA D z L))
theorem domA_is {D : Nat} (z : Int) (L : List Int) (hD : 2 ≤ D) : domA D z L < D ∧ bestF D (cnt z L) (-1) = (domA D z L : Nat) ∧ ∀ j, j < D → cnt z L j ≤ cnt z L (domA D z L) := by
  obtain ⟨k, h1, h2, -, h3⟩ := (bestF_is D (cnt z L) (-1)).some hD
  have e : domA D z L = k := by unfold domA; rw [h2]; rfl
  rw [e]
  exact ⟨h1, h2, fun j hj => h3 j hj (by omega)⟩
theorem domB_is {D : Nat} (z : Int) (L : List Int) (hD : 2 ≤ D) : domB D z L < D ∧ bestF D (cnt z L) (domA D z L : Nat) = (domB D z L : Nat) ∧ domA D z L ≠ domB D z L ∧ ∀ j, j < D → j ≠ domA D z L → cnt z L j ≤ cnt z L (domB D z L) := by
  obtain ⟨k, h1, h2, hn, h3⟩ := (bestF_is D (cnt z L) (domA D z L : Nat)).some hD
  have e : domB D z L = k := by unfold domB; rw [h2]; rfl
  rw [e]
  exact ⟨h1, h2, by omega, fun j hj hk => h3 j hj (by omega)⟩
theorem npairs_eq {D : Nat} {z : Int} {L : List Int} {a : Nat} (hD : 2 ≤ D) (ha : a < D) (hm : ∀ j, j < D → cnt z L j ≤ cnt z L a) : pairs L.length (cnt z L a) = npairs D z L := by
  obtain ⟨h1, -, h3⟩ := domA_is (D := D) z L hD
  have : cnt z L a = cnt z L (domA D z L) := by
    have h4 := hm _ h1
    have h5 := h3 _ ha
    omega
  unfold npairs
  rw [this]
theorem pairZ_none {D : Nat} {z : Int} {L : List Int} (h : Ok D z L) (hD : 2 ≤ D) : pairZ D z L = none ↔ cnt z L (domB D z L) = 0 := by
  obtain ⟨h1, -, h3⟩ := domA_is (D := D) z L hD
  obtain ⟨k1, -, k2, k3⟩ := domB_is (D := D) z L hD
  have h4 := h3 _ k1
  unfold pairZ
  unfold cnt at h4 ⊢
  cases hb : dl z L (domB D z L) with
  | nil =>
    cases dl z L (domA D z L) <;> simp
  | cons y u =>
    rw [hb] at h4
    cases ha : dl z L (domA D z L) with
    | nil => rw [ha] at h4; simp at h4
    | cons x t => simp
theorem npairs_none {D : Nat} {z : Int} {L : List Int} (h : Ok D z L) (hD : 2 ≤ D) : npairs D z L = 0 ↔ pairZ D z L = none := by
  obtain ⟨h1, -, h3⟩ := domA_is (D := D) z L hD
  obtain ⟨k1, -, k2, k3⟩ := domB_is (D := D) z L hD
  rw [pairZ_none h hD]
  constructor
  · intro h0
    by_cases e : cnt z L (domB D z L) = 0
    · exact e
    · have := pairs_pos (c := cnt z L) h1 k1 k2 (h3 _ k1) e
      rw [show sumTo (cnt z L) D = L.length from h.sum] at this
      exact absurd h0 this
  · intro h0
    have := pairs_stop (c := cnt z L) h1 k1 k2 k3 h0
    rw [show sumTo (cnt z L) D = L.length from h.sum] at this
    exact this
/-- what a pair is -/
theorem pairZ_some {D : Nat} {z : Int} {L : List Int} {x y : Int} (h : Ok D z L) (hD : 2 ≤ D) (hp : pairZ D z L = some (x, y)) :
    ∃ t u, dl z L (domA D z L) = x :: t ∧ dl z L (domB D z L) = y :: u ∧ dl z (less L x) (domB D z L) = y :: u ∧ x ∈ L ∧ y ∈ L ∧ y ∈ less L x ∧ x ≠ y ∧ x / z = (domA D z L : Nat) ∧ y / z = (domB D z L : Nat) := by
  obtain ⟨k1, -, k2, k3⟩ := domB_is (D := D) z L hD
  unfold pairZ at hp
  cases ha : dl z L (domA D z L) with
  | nil => rw [ha] at hp; simp at hp
  | cons x' t =>
    cases hb : dl z L (domB D z L) with
    | nil => rw [ha, hb] at hp; simp at hp
    | cons y' u =>
      rw [ha, hb] at hp
      obtain ⟨rfl, rfl⟩ : x' = x ∧ y' = y := by simpa using hp
      have hx := dl_mem.1 (show x' ∈ dl z L (domA D z L) by rw [ha]; simp)
      have hy := dl_mem.1 (show y' ∈ dl z L (domB D z L) by rw [hb]; simp)
      have hne : x' ≠ y' := fun e => by
        have := hx.2
        rw [e, hy.2] at this
        omega
      have hl : dl z (less L x') (domB D z L) = y' :: u := by rw [dl_less_ne (by rw [hx.2]; omega), hb]
      exact ⟨t, u, rfl, rfl, hl, hx.1, hy.1, (dl_mem.1 (show y' ∈ dl z (less L x') (domB D z L) by rw [hl]; simp)).1, hne, hx.2, hy.2⟩
theorem pairZ_step {D : Nat} {z : Int} {L : List Int} {x y : Int} (h : Ok D z L) (hD : 2 ≤ D) (hp : pairZ D z L = some (x, y)) : npairs D z (less (less L x) y) + 1 = npairs D z L := by
  obtain ⟨t, u, ha, hb, hb', hx, hy, hy', hne, hxd, hyd⟩ := pairZ_some h hD hp
  obtain ⟨h1, -, h3⟩ := domA_is (D := D) z L hD
  obtain ⟨k1, -, k2, k3⟩ := domB_is (D := D) z L hD
  have ho1 : Ok D z (less L x) := h.filter _
  have ho2 : Ok D z (less (less L x) y) := ho1.filter _
  have hD' := domA_is (D := D) z (less (less L x) y) hD
  have c1 : cnt z (less (less L x) y) (domA D z L) + 1 = cnt z L (domA D z L) := by
    unfold cnt
    rw [dl_less_ne (by rw [hyd]; omega), dl_less_first h.nd ha, ha, List.length_cons]
  have c2 : cnt z (less (less L x) y) (domB D z L) + 1 = cnt z L (domB D z L) := by
    unfold cnt
    rw [dl_less_first ho1.nd hb', hb, List.length_cons]
  have c3 : ∀ j, j ≠ domA D z L → j ≠ domB D z L → cnt z (less (less L x) y) j = cnt z L j := fun j e1 e2 => by
    unfold cnt
    rw [dl_less_ne (by rw [hyd]; omega), dl_less_ne (by rw [hxd]; omega)]
  have h0 : cnt z L (domB D z L) ≠ 0 := by omega
  have hs := pairs_step (c := cnt z L) (c' := cnt z (less (less L x) y)) h1 k1 k2 h3 k3 h0 c1 c2 c3 hD'.1 hD'.2.2
  rw [show sumTo (cnt z (less (less L x) y)) D = (less (less L x) y).length from ho2.sum, show sumTo (cnt z L) D = L.length from h.sum] at hs
  exact hs
theorem npairs_le {D : Nat} {z : Int} {L : List Int} : npairs D z L ≤ L.length := by
  unfold npairs pairs
  omega
end PoolM
