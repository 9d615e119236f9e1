/- Plain laws: a list's things, each with its place. -/
import Derived.Test.YteggijkcdlboeaaKit2
namespace Go.Rv
set_option linter.unusedVariables false
theorem zip_take {α : Type} (l : List α) {k : Nat} {x : α} (h : l[k]? = some x) : (l.take (k + 1)).zipIdx = (l.take k).zipIdx ++ [(x, k)] := by
  obtain ⟨hk, rfl⟩ := List.getElem?_eq_some_iff.1 h
  rw [List.take_succ_eq_append_getElem hk, List.zipIdx_append]
  simp [List.length_take, Nat.min_eq_left (Nat.le_of_lt hk)]
theorem zip_prefix {α : Type} (l : List α) {k m : Nat} (h : k ≤ m) : (l.take k).zipIdx <+: (l.take m).zipIdx := by
  obtain ⟨d, rfl⟩ : ∃ d, m = k + d := ⟨m - k, by omega⟩
  refine ⟨((l.drop k).take d).zipIdx (l.take k).length, ?_⟩
  rw [List.take_add, List.zipIdx_append]
  simp
theorem zip_full {α : Type} (l : List α) (k : Nat) : (l.take k).zipIdx <+: l.zipIdx := by
  by_cases h : k ≤ l.length
  · have := zip_prefix l h
    rwa [List.take_length] at this
  · rw [List.take_of_length_le (by omega)]
    exact ⟨[], by simp⟩
theorem zip_len {α : Type} (l : List α) {k : Nat} (h : k ≤ l.length) : (l.take k).zipIdx.length = k := by simp [h]
/-- what has come so far is a beginning: so the next one is known -/
theorem zip_next {α : Type} {l : List α} {pre : List (α × Nat)} {x : α × Nat} (h : pre ++ [x] <+: l.zipIdx) : x.2 = pre.length ∧ l[pre.length]? = some x.1 ∧ pre.length < l.length ∧ pre = (l.take pre.length).zipIdx := by
  obtain ⟨t, ht⟩ := h
  have hlen := congrArg List.length ht
  simp at hlen
  have h1 : l.zipIdx[pre.length]? = some x := by rw [← ht]; simp
  rw [List.getElem?_zipIdx] at h1
  simp only [Option.map_eq_some_iff, Nat.zero_add] at h1
  obtain ⟨y, hy, rfl⟩ := h1
  refine ⟨rfl, hy, by omega, ?_⟩
  have h2 : l.zipIdx.take pre.length = pre := by rw [← ht]; simp
  have h3 := List.prefix_iff_eq_take.1 (zip_full l pre.length)
  rw [zip_len l (by omega), h2] at h3
  exact h3.symm
end Go.Rv
