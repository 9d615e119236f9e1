/- Under way: the walk of the law on what sectors are frames'. -/
import Derived.Test.YtfcadbeamojdpaaRfRead
import Derived.Test.YtfcadbeamojdpaaFSum
import Derived.Test.YtfcadbeamojdpaaFrAnchor
import Derived.Test.YtfcadbeamojdpaaFrFits
import Derived.Test.YtfcadbeamojdpaaConf3
namespace Go.Proofs.Ytfcadbeamojdpaa
open Go.RowKit Go.Rv Frm
set_option linter.unusedVariables false
/-- what is known while the third region is carried out -/
def J3 (TV SA X ZF : Array Value) (er : Int) (w0 : World) (L : Array Bool) (v : Nat → Value) (w : World) : Prop :=
  Below w0.heap.size w0 w ∧ (L.getD 0 false = true → v 0 = .agg TV) ∧ (L.getD 1 false = true → v 1 = .agg SA) ∧ (L.getD 2 false = true → v 2 = .tuple #[.agg X, .int .i64 er]) ∧ (L.getD 3 false = true → v 3 = .tuple #[.agg X, .int .i64 er]) ∧
    (L.getD 4 false = true → v 4 = .agg X) ∧ (L.getD 5 false = true → v 5 = .int .i64 er) ∧ (L.getD 7 false = true → L.getD 6 false = true) ∧
    (L.getD 6 false = true → ∃ g, v 6 = .pointer (some ⟨g, 0, none⟩) ∧ w0.heap.size ≤ g ∧ w.heap[g]? = some (.cells (if L.getD 7 false = true then X else ZF) 24 (0, 0)))
/-- one operation more is over: its slot's fact, what became of the world -/
theorem J3.step {TV SA X ZF : Array Value} {er : Int} {w0 : World} {L : Array Bool} {v : Nat → Value} {w w' : World} (h : J3 TV SA X ZF er w0 L v w) (hb : Below w.heap.size w w') (i : Nat) (u : Value) (hi : i ≠ 6 ∧ i ≠ 7)
    (h0 : i = 0 → u = .agg TV) (h1 : i = 1 → u = .agg SA) (h2 : i = 2 → u = .tuple #[.agg X, .int .i64 er]) (h3 : i = 3 → u = .tuple #[.agg X, .int .i64 er]) (h4 : i = 4 → u = .agg X) (h5 : i = 5 → u = .int .i64 er) :
    J3 TV SA X ZF er w0 (L.setIfInBounds i true) (upd v i u) w' := by
  obtain ⟨hB, a0, a1, a2, a3, a4, a5, a7, a6⟩ := h
  have key : ∀ (j : Nat) (x : Value), (i = j → u = x) → (L.getD j false = true → v j = x) → (L.setIfInBounds i true).getD j false = true → upd v i u j = x := by
    intro j x e1 e2 e3
    by_cases hij : i = j
    · subst hij
      rw [show upd v i u i = u by simp [upd]]
      exact e1 rfl
    · rw [show upd v i u j = v j by simp [upd, Ne.symm hij]]
      rw [getD_set_ne false hij] at e3
      exact e2 e3
  refine ⟨hB.trans (hb.mono hB.size), key 0 _ h0 a0, key 1 _ h1 a1, key 2 _ h2 a2, key 3 _ h3 a3, key 4 _ h4 a4, key 5 _ h5 a5, ?_, ?_⟩
  · rw [getD_set_ne false hi.2, getD_set_ne false hi.1]
    exact a7
  · rw [getD_set_ne false hi.2, getD_set_ne false hi.1]
    intro h
    obtain ⟨g, e, hg, hr⟩ := a6 h
    exact ⟨g, by rw [show upd v i u 6 = v 6 by simp [upd, Ne.symm hi.1]]; exact e, hg, (hb.block g (Array.getElem?_eq_some_iff.1 hr).1).trans hr⟩
theorem J3.laid {TV SA X ZF : Array Value} {er : Int} {w0 : World} {L : Array Bool} {v : Nat → Value} {w : World} (h : J3 TV SA X ZF er w0 L v w) (hn : L.getD 6 true = false) :
    J3 TV SA X ZF er w0 (L.setIfInBounds 6 true) (upd v 6 (.pointer (some ⟨w.heap.size, 0, none⟩))) (w.alloc (.cells ZF 24)) := by
  obtain ⟨hB, a0, a1, a2, a3, a4, a5, a7, a6⟩ := h
  have h7 : L.getD 7 false = false := by
    cases h : L.getD 7 false
    · rfl
    · have := a7 h
      have hlt : 6 < L.size := by
        rcases Nat.lt_or_ge 6 L.size with h | h
        · exact h
        · simp [Array.getElem?_eq_none h] at hn
      simp [hlt] at this hn
      rw [this] at hn
      cases hn
  have key : ∀ (j : Nat) (x : Value), j ≠ 6 → (L.getD j false = true → v j = x) → (L.setIfInBounds 6 true).getD j false = true → upd v 6 (.pointer (some ⟨w.heap.size, 0, none⟩)) j = x := by
    intro j x e1 e2 e3
    rw [show upd v 6 (.pointer (some ⟨w.heap.size, 0, none⟩)) j = v j by simp [upd, e1]]
    rw [getD_set_ne false (Ne.symm e1)] at e3
    exact e2 e3
  refine ⟨hB.alloc hB.size _, key 0 _ (by omega) a0, key 1 _ (by omega) a1, key 2 _ (by omega) a2, key 3 _ (by omega) a3, key 4 _ (by omega) a4, key 5 _ (by omega) a5, ?_, ?_⟩
  · rw [getD_set_ne false (by omega), h7]
    intro h
    cases h
  · intro _
    rw [getD_set_ne false (by omega), h7]
    exact ⟨_, by simp [upd], hB.size, heap_alloc_new _ _⟩
theorem J3.put {TV SA X ZF : Array Value} {er : Int} {w0 : World} {L : Array Bool} {v : Nat → Value} {w : World} (h : J3 TV SA X ZF er w0 L v w) (u : Value) (g : Nat) (C : Array Value) (hl : L.getD 6 false = true) (hn : L.getD 7 true = false) (he : v 6 = .pointer (some ⟨g, 0, none⟩)) (hg : w0.heap.size ≤ g) (hr : w.heap[g]? = some (.cells C 24 (0, 0))) :
    J3 TV SA X ZF er w0 (L.setIfInBounds 7 true) (upd v 7 u) (w.setRow g X) := by
  obtain ⟨hB, a0, a1, a2, a3, a4, a5, a7, a6⟩ := h
  have hlt : 7 < L.size := by
    rcases Nat.lt_or_ge 7 L.size with h | h
    · exact h
    · simp [Array.getElem?_eq_none h] at hn
  have h7 : (L.setIfInBounds 7 true).getD 7 false = true := by simp [hlt]
  have key : ∀ (j : Nat) (x : Value), j ≠ 7 → (L.getD j false = true → v j = x) → (L.setIfInBounds 7 true).getD j false = true → upd v 7 u j = x := by
    intro j x e1 e2 e3
    rw [show upd v 7 u j = v j by simp [upd, e1]]
    rw [getD_set_ne false (Ne.symm e1)] at e3
    exact e2 e3
  refine ⟨below_setRow hB hg X, key 0 _ (by omega) a0, key 1 _ (by omega) a1, key 2 _ (by omega) a2, key 3 _ (by omega) a3, key 4 _ (by omega) a4, key 5 _ (by omega) a5, ?_, ?_⟩
  · rw [getD_set_ne false (show (7 : Nat) ≠ 6 by omega)]
    intro _
    exact hl
  · intro _
    rw [if_pos h7]
    exact ⟨g, by rw [show upd v 7 u 6 = v 6 by simp [upd]]; exact he, hg, setRow_heap w g C X _ _ hr⟩
end Go.Proofs.Ytfcadbeamojdpaa
