/- Plain laws on pools: a list of zones, and what lies in each domain. -/
import Derived.Test.YtogijlpclceanaaPoolMath
namespace PoolM
set_option linter.unusedVariables false
/-- of a list the zones of a domain -/
def dl (z : Int) (L : List Int) (d : Nat) : List Int := L.filter fun x => x / z == (d : Int)
/-- a pool's list: D domains, z zones each -/
structure Ok (D : Nat) (z : Int) (L : List Int) : Prop where
  z1 : 1 ≤ z
  rng : ∀ x ∈ L, 0 ≤ x ∧ x < (D : Int) * z
  nd : L.Nodup
theorem Ok.nil {D : Nat} {z : Int} (h : 1 ≤ z) : Ok D z [] := ⟨h, by simp, List.nodup_nil⟩
theorem dom_of {D : Nat} {z x : Int} (hz : 1 ≤ z) (h : 0 ≤ x ∧ x < (D : Int) * z) : ∃ d : Nat, d < D ∧ x / z = d ∧ (d : Int) * z ≤ x ∧ x < (d : Int) * z + z := by
  have h1 : 0 ≤ x / z := Int.ediv_nonneg h.1 (by omega)
  have h2 : x / z < D := Int.ediv_lt_of_lt_mul (by omega) h.2
  have h3 : x / z * z ≤ x := Int.ediv_mul_le x (by omega)
  have h4 : x < (x / z + 1) * z := Int.lt_ediv_add_one_mul_self x (by omega)
  obtain ⟨d, hd⟩ : ∃ d : Nat, x / z = d := ⟨(x / z).toNat, by omega⟩
  rw [hd] at h2 h3 h4
  refine ⟨d, by omega, hd, h3, ?_⟩
  rw [Int.add_mul, Int.one_mul] at h4
  exact h4
theorem dl_mem {z : Int} {L : List Int} {d : Nat} {x : Int} : x ∈ dl z L d ↔ x ∈ L ∧ x / z = d := by
  unfold dl
  rw [List.mem_filter]
  simp
theorem dl_app (z : Int) (L : List Int) (x : Int) (d : Nat) : dl z (L ++ [x]) d = dl z L d ++ if x / z = (d : Int) then [x] else [] := by
  unfold dl
  rw [List.filter_append]
  by_cases h : x / z = (d : Int) <;> simp [h]
theorem dl_drop (z : Int) (L : List Int) (p : Int → Bool) (d : Nat) : dl z (L.filter p) d = (dl z L d).filter p := by
  unfold dl
  rw [List.filter_filter, List.filter_filter]
  congr 1
  funext x
  rw [Bool.and_comm]
/-- unlike numbers from a on: no more than there are -/
theorem nodup_len : ∀ (n : Nat) (a : Int) (l : List Int), l.Nodup → (∀ x ∈ l, a ≤ x ∧ x < a + n) → l.length ≤ n
  | 0, a, l, _, h => by
    cases l with
    | nil => simp
    | cons x l => have := h x (by simp); omega
  | n + 1, a, l, hn, h => by
    have h1 := nodup_len n a (l.filter fun x => x != a + n) (hn.filter _) (fun x hx => by
      obtain ⟨hx, hne⟩ := List.mem_filter.1 hx
      have := h x hx
      have : x ≠ a + n := by simpa using hne
      omega)
    have h2 : l.length ≤ (l.filter fun x => x != a + n).length + 1 := by
      clear h h1
      induction l with
      | nil => simp
      | cons y l ih =>
        obtain ⟨hy, hl⟩ := List.nodup_cons.1 hn
        by_cases e : y = a + n
        · have : l.filter (fun x => x != a + n) = l := List.filter_eq_self.2 (fun x hx => by
            have : x ≠ a + n := fun e2 => hy (by rw [e, ← e2]; exact hx)
            simpa using this)
          rw [List.filter_cons_of_neg (by simp [e]), this, List.length_cons]
          omega
        · have := ih hl
          rw [List.filter_cons_of_pos (by simpa using e), List.length_cons, List.length_cons]
          omega
    omega
theorem Ok.dl_len {D : Nat} {z : Int} {L : List Int} (h : Ok D z L) (d : Nat) : (dl z L d).length ≤ z.toNat := by
  refine nodup_len z.toNat ((d : Int) * z) _ (h.nd.filter _) (fun x hx => ?_)
  obtain ⟨hx, hd⟩ := dl_mem.1 hx
  obtain ⟨k, hk, e, h1, h2⟩ := dom_of h.z1 (h.rng x hx)
  have : k = d := by omega
  subst this
  have := h.z1
  omega
theorem Ok.app {D : Nat} {z : Int} {L : List Int} (h : Ok D z L) {x : Int} (hx : 0 ≤ x ∧ x < (D : Int) * z) (hn : x ∉ L) : Ok D z (L ++ [x]) :=
  ⟨h.z1, fun y hy => by
    rcases List.mem_append.1 hy with hy | hy
    · exact h.rng y hy
    · obtain rfl : y = x := by simpa using hy
      exact hx, by
    rw [List.nodup_append]
    exact ⟨h.nd, by simp, fun a ha b hb e => by
      obtain rfl : b = x := by simpa using hb
      exact hn (e ▸ ha)⟩⟩
theorem Ok.dl_room {D : Nat} {z : Int} {L : List Int} (h : Ok D z L) {x : Int} (hx : 0 ≤ x ∧ x < (D : Int) * z) (hn : x ∉ L) {d : Nat} (hd : x / z = d) : (dl z L d).length < z.toNat := by
  have := (h.app hx hn).dl_len d
  rw [dl_app, if_pos hd, List.length_append, List.length_singleton] at this
  omega
theorem Ok.filter {D : Nat} {z : Int} {L : List Int} (h : Ok D z L) (p : Int → Bool) : Ok D z (L.filter p) :=
  ⟨h.z1, fun x hx => h.rng x (List.mem_filter.1 hx).1, h.nd.filter _⟩
/-- a zone is taken: of its domain it is gone, the others stay -/
def less (L : List Int) (x : Int) : List Int := L.filter fun y => y != x
theorem dl_less_ne {z : Int} {L : List Int} {x : Int} {d : Nat} (h : x / z ≠ (d : Int)) : dl z (less L x) d = dl z L d := by
  unfold less
  rw [dl_drop]
  exact List.filter_eq_self.2 (fun y hy => by
    have h2 := (dl_mem.1 hy).2
    have : y ≠ x := fun e => h (by rw [← e]; exact h2)
    simpa using this)
theorem less_none {L : List Int} {x : Int} (h : x ∉ L) : less L x = L :=
  List.filter_eq_self.2 (fun y hy => by
    have : y ≠ x := fun e => h (e ▸ hy)
    simpa using this)
theorem less_first {x : Int} {t : List Int} (h : (x :: t).Nodup) : less (x :: t) x = t := by
  unfold less
  rw [List.filter_cons_of_neg (by simp)]
  exact less_none (List.nodup_cons.1 h).1
theorem dl_less_first {z : Int} {L : List Int} {x : Int} {t : List Int} {d : Nat} (hn : L.Nodup) (h : dl z L d = x :: t) : dl z (less L x) d = t := by
  have h1 : (dl z L d).Nodup := hn.filter _
  have h2 : dl z (less L x) d = less (dl z L d) x := dl_drop z L _ d
  rw [h] at h1 h2
  rw [h2, less_first h1]
theorem less_len {L : List Int} {x : Int} (hn : L.Nodup) (h : x ∈ L) : (less L x).length + 1 = L.length := by
  induction L with
  | nil => simp at h
  | cons y L ih =>
    obtain ⟨hy, hl⟩ := List.nodup_cons.1 hn
    by_cases e : y = x
    · subst e
      rw [less_first hn, List.length_cons]
    · have hx : x ∈ L := by
        rcases List.mem_cons.1 h with h | h
        · exact absurd h.symm e
        · exact h
      have := ih hl hx
      unfold less at this ⊢
      rw [List.filter_cons_of_pos (by simpa using e), List.length_cons, List.length_cons]
      omega
/-- all domains together have all -/
theorem dl_sum {D : Nat} {z : Int} (hz : 1 ≤ z) : ∀ (L : List Int), (∀ x ∈ L, 0 ≤ x ∧ x < (D : Int) * z) → sumTo (fun d => (dl z L d).length) D = L.length
  | [], _ => by
    have : ∀ m, sumTo (fun d => (dl z [] d).length) m = 0 := by
      intro m
      induction m with
      | zero => rfl
      | succ m ih => simp only [sumTo]; rw [ih]; rfl
    exact this D
  | x :: L, h => by
    obtain ⟨d, hd, e, -, -⟩ := dom_of hz (h x (by simp))
    have h1 := sumTo_less (c := fun d => (dl z (x :: L) d).length) (c' := fun d => (dl z L d).length) hd (by
      simp only [dl]
      rw [List.filter_cons_of_pos (by simpa using e), List.length_cons]) (fun j hj => by
      simp only [dl]
      rw [List.filter_cons_of_neg (by
        have : x / z ≠ (j : Int) := fun e2 => hj (by omega)
        simpa using this)])
    rw [dl_sum hz L (fun y hy => h y (by simp [hy]))] at h1
    rw [List.length_cons]
    exact h1.symm
theorem Ok.sum {D : Nat} {z : Int} {L : List Int} (h : Ok D z L) : sumTo (fun d => (dl z L d).length) D = L.length := dl_sum h.z1 L h.rng
theorem Ok.len {D : Nat} {z : Int} {L : List Int} (h : Ok D z L) : L.length ≤ D * z.toNat := by
  rw [← h.sum]
  have : ∀ m, sumTo (fun d => (dl z L d).length) m ≤ m * z.toNat := by
    intro m
    induction m with
    | zero => simp [sumTo]
    | succ m ih =>
      simp only [sumTo]
      have := h.dl_len m
      rw [Nat.succ_mul]
      omega
  exact this D
/-- all, each with its domain: the first m domains -/
def allTo (z : Int) (L : List Int) (m : Nat) : List (Nat × Int) := (List.range m).flatMap fun d => (dl z L d).map fun x => (d, x)
theorem allTo_succ (z : Int) (L : List Int) (m : Nat) : allTo z L (m + 1) = allTo z L m ++ (dl z L m).map fun x => (m, x) := by
  unfold allTo
  rw [List.range_succ, List.flatMap_append]
  simp
theorem allTo_len (z : Int) (L : List Int) (m : Nat) : (allTo z L m).length = sumTo (fun d => (dl z L d).length) m := by
  induction m with
  | zero => rfl
  | succ m ih => rw [allTo_succ, List.length_append, ih]; simp [sumTo]
theorem allTo_mem {z : Int} {L : List Int} {m : Nat} {y : Nat × Int} : y ∈ allTo z L m ↔ y.1 < m ∧ y.2 ∈ L ∧ y.2 / z = y.1 := by
  unfold allTo
  rw [List.mem_flatMap]
  constructor
  · rintro ⟨d, hd, h⟩
    obtain ⟨x, hx, rfl⟩ := List.mem_map.1 h
    exact ⟨List.mem_range.1 hd, dl_mem.1 hx⟩
  · rintro ⟨h1, h2⟩
    exact ⟨y.1, List.mem_range.2 h1, List.mem_map.2 ⟨y.2, dl_mem.2 h2, rfl⟩⟩
theorem Ok.all_len {D : Nat} {z : Int} {L : List Int} (h : Ok D z L) : (allTo z L D).length = L.length := by rw [allTo_len, h.sum]
theorem Ok.has {D : Nat} {z : Int} {L : List Int} (h : Ok D z L) (x : Int) : x ∈ L ↔ ∃ d, (d, x) ∈ allTo z L D := by
  constructor
  · intro hx
    obtain ⟨d, hd, e, -, -⟩ := dom_of h.z1 (h.rng x hx)
    exact ⟨d, allTo_mem.2 ⟨hd, hx, e⟩⟩
  · rintro ⟨d, hd⟩
    exact (allTo_mem.1 hd).2.1
/-- the numbers come in their order -/
theorem allTo_sorted (z : Int) (L : List Int) (m : Nat) : (allTo z L m).Pairwise (fun a b => a.1 ≤ b.1) := by
  induction m with
  | zero => exact List.Pairwise.nil
  | succ m ih =>
    rw [allTo_succ, List.pairwise_append]
    refine ⟨ih, ?_, ?_⟩
    · rw [List.pairwise_map]
      exact List.pairwise_of_forall (fun _ _ => Nat.le_refl _)
    · intro a ha b hb
      obtain ⟨x, -, rfl⟩ := List.mem_map.1 hb
      have := (allTo_mem.1 ha).1
      show a.1 ≤ m
      omega
/-- how many of a domain -/
def cnt (z : Int) (L : List Int) (d : Nat) : Nat := (dl z L d).length
/-- a pool's pairs -/
theorem Ok.best {D : Nat} {z : Int} {L : List Int} {b : Int} (h : IsBest 0 D (cnt z L) (-1) b) (hD : 2 ≤ D) : ∃ k : Nat, k < D ∧ b = k ∧ ∀ j, j < D → cnt z L j ≤ cnt z L k := by
  obtain ⟨k, h1, h2, -, h3⟩ := h.some hD
  exact ⟨k, h1, h2, fun j hj => h3 j hj (by omega)⟩
end PoolM
