/- Plain laws: all zones together hold twice as many blocks as live; every state is one of three. -/
import Derived.Test.YteggijkcdlboeaaBmMath
namespace Go.Proofs.Yteggijkcdlboeaa
set_option linter.unusedVariables false
theorem sum_map_add (l : List Nat) (f h : Nat → Int) : (l.map fun j => f j + h j).sum = (l.map f).sum + (l.map h).sum := by
  induction l with
  | nil => rfl
  | cons x l ih => simp only [List.map_cons, List.sum_cons, ih]; omega
theorem sum_one (z n : Nat) : ((List.range n).map fun (j : Nat) => if j = z then (1 : Int) else 0).sum = if z < n then 1 else 0 := by
  induction n with
  | zero => simp
  | succ n ih =>
    rw [List.range_succ, List.map_append, List.sum_append, ih]
    simp only [List.map_cons, List.map_nil, List.sum_cons, List.sum_nil]
    by_cases h1 : n = z
    · subst h1; simp
    · by_cases h2 : z < n
      · rw [if_pos h2, if_neg h1, if_pos (by omega)]; rfl
      · rw [if_neg h2, if_neg h1, if_neg (by omega)]; rfl
theorem sum_hits {n : Nat} {e : BE} (h : ZOk n e) : ((List.range n).map fun (j : Nat) => if hits e (j : Nat) then (1 : Int) else 0).sum = if e.st = 1 then 2 else 0 := by
  by_cases h1 : e.st = 1
  · obtain ⟨⟨hz1, hz2⟩, ⟨hm1, hm2⟩, hne⟩ := h h1
    obtain ⟨z, hzz⟩ := Int.eq_ofNat_of_zero_le hz1
    obtain ⟨m, hmm⟩ := Int.eq_ofNat_of_zero_le hm1
    have hzm : z ≠ m := fun e => hne (by rw [hzz, hmm, e])
    have hf : (fun (j : Nat) => if hits e (j : Nat) then (1 : Int) else 0) = fun (j : Nat) => (if j = z then (1 : Int) else 0) + (if j = m then (1 : Int) else 0) := by
      funext j
      have hh : hits e j = (j == z || j == m) := by
        simp only [hits, h1, hzz, hmm, beq_self_eq_true, Bool.true_and]
        rw [Bool.eq_iff_iff]
        simp
        omega
      rw [hh]
      by_cases a : j = z
      · subst a; simp [hzm]
      · by_cases b : j = m
        · subst b; simp [a]
        · simp [a, b]
    rw [hf, sum_map_add, sum_one, sum_one, if_pos (by omega), if_pos (by omega), if_pos h1]
    rfl
  · rw [if_neg h1]
    have hf : (fun (j : Nat) => if hits e (j : Nat) then (1 : Int) else 0) = fun _ => 0 := by
      funext j
      simp [hits, h1]
    rw [hf]
    induction n with
    | zero => rfl
    | succ n ih => rw [List.range_succ, List.map_append, List.sum_append, ih (fun h2 => absurd h2 h1)]; rfl
theorem live_sum {n : Nat} : ∀ (es : List BE), (∀ e ∈ es, ZOk n e) → (liveL n es).sum = 2 * (countB es 1 : Int)
  | [], _ => by
    have : liveL n [] = List.replicate n 0 := by
      apply List.ext_getElem?
      intro i
      by_cases h : i < n
      · rw [liveL_at h]; simp [liveN, h]
      · rw [List.getElem?_eq_none (by rw [liveL_length]; omega), List.getElem?_eq_none (by simp; omega)]
    rw [this]
    simp [countB]
  | e :: es, h => by
    have ih := live_sum es (fun x hx => h x (by simp [hx]))
    have h1 := sum_hits (h e (by simp))
    have h2 : (fun (j : Nat) => (liveN (e :: es) j : Int)) = fun (j : Nat) => (if hits e (j : Nat) then (1 : Int) else 0) + (liveN es j : Int) := by
      funext j
      simp only [liveN, List.filter_cons]
      cases hits e j <;> simp <;> omega
    unfold liveL at ih ⊢
    rw [h2, sum_map_add, h1, ih]
    unfold countB
    rw [List.filter_cons]
    by_cases hs : e.st = 1
    · simp [hs]; omega
    · simp [hs]
theorem count_all : ∀ (es : List BE), (∀ e ∈ es, e.st = 0 ∨ e.st = 1 ∨ e.st = 2) → countB es 0 + countB es 1 + countB es 2 = es.length
  | [], _ => rfl
  | e :: es, h => by
    have ih := count_all es (fun x hx => h x (by simp [hx]))
    unfold countB at ih ⊢
    simp only [List.filter_cons, List.length_cons]
    rcases h e (by simp) with h1 | h1 | h1 <;> simp [h1] <;> omega
end Go.Proofs.Yteggijkcdlboeaa
