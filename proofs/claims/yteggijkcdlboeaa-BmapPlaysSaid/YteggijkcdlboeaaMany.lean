/- Small laws, over any program: a slice of things of n cells each, read thing by thing. -/
import Derived.Test.YteggijkcdlboeaaFit
namespace Go.Rv
open Go.RowKit
set_option linter.unusedVariables false
/-- a slice of things: each has n cells, those that X tells -/
def RowOf {α : Type} (w : World) (n : Nat) (X : α → Array Value) (Q : α → Prop) (a : Option Addr) (xs : List α) : Prop :=
  xs = [] ∨ ∃ b o, a = some ⟨b, o, none⟩ ∧ b < w.heap.size ∧ ∀ k x, xs[k]? = some x → (∀ j, j < n → w.cell? ⟨b, o + k * n + j, none⟩ = (X x)[j]?) ∧ Q x
theorem RowOf.nil {α : Type} (w : World) (n : Nat) (X : α → Array Value) (Q : α → Prop) (a : Option Addr) : RowOf w n X Q a [] := .inl rfl
theorem RowOf.at {α : Type} {w : World} {n : Nat} {X : α → Array Value} {Q : α → Prop} {a : Option Addr} {xs : List α} (h : RowOf w n X Q a xs) {k : Nat} {x : α} (hk : xs[k]? = some x) :
    ∃ b o, a = some ⟨b, o, none⟩ ∧ b < w.heap.size ∧ (∀ j, j < n → w.cell? ⟨b, o + k * n + j, none⟩ = (X x)[j]?) ∧ Q x := by
  rcases h with rfl | ⟨b, o, rfl, hlt, hc⟩
  · simp at hk
  · exact ⟨b, o, rfl, hlt, (hc k x hk).1, (hc k x hk).2⟩
theorem RowOf.only {α : Type} {S : List Nat} {w w' : World} {n : Nat} {X : α → Array Value} {Q : α → Prop} {a : Option Addr} {xs : List α} (h : RowOf w n X Q a xs) (hb : Only S w w') (hS : ∀ x, a = some x → x.block ∉ S) : RowOf w' n X Q a xs := by
  rcases h with rfl | ⟨b, o, rfl, hlt, hc⟩
  · exact .inl rfl
  · refine .inr ⟨b, o, rfl, Nat.lt_of_lt_of_le hlt hb.size, fun k x hk => ⟨fun j hj => ?_, (hc k x hk).2⟩⟩
    rw [← (hc k x hk).1 j hj]
    exact World.cell?_of_block (hb.block b hlt (hS _ rfl))
theorem RowOf.below {α : Type} {w w' : World} {n : Nat} {X : α → Array Value} {Q : α → Prop} {a : Option Addr} {xs : List α} (h : RowOf w n X Q a xs) (hb : Below w.heap.size w w') : RowOf w' n X Q a xs :=
  h.only (Only.of_below (S := []) hb) (by simp)
theorem RowOf.all {α : Type} {w : World} {n : Nat} {X : α → Array Value} {Q : α → Prop} {a : Option Addr} {xs : List α} (h : RowOf w n X Q a xs) : ∀ x ∈ xs, Q x := by
  intro x hx
  obtain ⟨k, hk⟩ := List.getElem?_of_mem hx
  obtain ⟨-, -, -, -, -, hq⟩ := h.at hk
  exact hq
theorem rowOf_of_fits {α : Type} {P : Program} {w : World} {d : Nat} {t e : TypeId} {a : Option Addr} {len cap : Nat} (n : Nat) (X : α → Array Value) (Q : α → Prop) (hu : P.underlying t = some (.slice e)) (hn : P.cellsOf e = n) (h0 : 0 < n)
    (hX : ∀ cs, cs.length = n → Fits P w d e cs → ∃ x, cs = (X x).toList ∧ Q x) (h : Fits P w (d + 1) t [.slice a len cap]) : ∃ xs : List α, xs.length = len ∧ RowOf w n X Q a xs ∧ len ≤ cap ∧ cap ≤ 9223372036854775807 ∧ (a = none → cap = 0) := by
  obtain ⟨hc1, hc2, hc3, hr⟩ := row_of_fits hu (by omega) h
  rcases hr with h0 | ⟨b, o, rfl, hlt, hi⟩
  · exact ⟨[], by simp [h0], .inl rfl, by omega, by omega, by assumption⟩
  · obtain ⟨xs, hx1, hx2⟩ := list_of_forall (Q := fun i (x : α) => (∀ j, j < n → w.cell? ⟨b, o + i * n + j, none⟩ = (X x)[j]?) ∧ Q x) len fun i hil => by
      obtain ⟨cs, h1, h2, h3⟩ := hi i hil
      rw [hn] at h1 h2
      obtain ⟨x, rfl, hq⟩ := hX cs h1 h3
      exact ⟨x, fun j hj => by rw [h2 j hj, Array.getElem?_toList], hq⟩
    exact ⟨xs, hx1, .inr ⟨b, o, rfl, hlt, hx2⟩, by omega, by omega, by assumption⟩
end Go.Rv
