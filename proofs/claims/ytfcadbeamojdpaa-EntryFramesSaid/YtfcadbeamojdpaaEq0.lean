/- Comparisons of arrays of bytes (and structs of numbers and such arrays): what they answer. -/
import Derived.Test.YtfcadbeamojdpaaKit2
import Derived.DeepKeys
import Derived.Laws.StructEq
import Derived.WalkArith
namespace Go.Rv
open Go.RowKit
set_option linter.unusedVariables false
def lb (c : Nat) : Lit := .int .u8 (c : Nat)
theorem lb_inj {l m : List Nat} (h : l.map lb = m.map lb) : l = m := by
  induction l generalizing m with
  | nil => cases m <;> simp_all
  | cons x l ih =>
    cases m with
    | nil => simp at h
    | cons y m =>
      simp only [List.map_cons, List.cons.injEq] at h
      rw [ih h.2]
      have := h.1
      unfold lb at this
      injection this with h1 h2
      rw [show x = y by omega]
theorem mapM_some {α β : Type} (f : α → Option β) (g : α → β) : ∀ (l : List α), (∀ x ∈ l, f x = some (g x)) → l.mapM f = some (l.map g)
  | [], _ => rfl
  | x :: l, h => by
    rw [List.mapM_cons, h x (by simp), mapM_some f g l (fun y hy => h y (by simp [hy]))]
    rfl
theorem flat_one {α β : Type} (g : α → β) (L : List α) : (L.map fun i => [g i]).flatten = L.map g := by
  induction L with
  | nil => rfl
  | cons x L ih => simp [ih]
theorem flat_lits (l : List Nat) : ((List.range l.length).map fun i => [lb (l.getD i 0)]).flatten = l.map lb := by
  rw [flat_one]
  apply List.ext_getElem?
  intro i
  by_cases h : i < l.length
  · simp [h]
  · simp [h]
theorem lits_bytes {P : Program} {t e : TypeId} {n : Nat} (hu : P.underlying t = some (.array n e)) (he : P.underlying e = some (.int .u8)) (hc : P.cellsOf e = 1) (ht : P.cellsOf t = n) (l : List Nat) (hl : l.length = n) (hb : ∀ c ∈ l, c < 256) (d : Nat) :
    P.keyLits (d + 2) t (byteCells l).toList = some (l.map lb) := by
  have hlen : (byteCells l).toList.length = P.cellsOf t := by rw [Array.length_toList, size_byteCells, ht, hl]
  simp only [Program.keyLits, hu, hlen, if_true]
  rw [mapM_some _ (fun i => [lb (l.getD i 0)])]
  · rw [Option.map_some, ← hl, flat_lits]
  · intro i hi
    have hi' : i < l.length := by rw [hl]; simpa using hi
    have hg := byteCells_at l i hi'
    have hch : ((byteCells l).toList.drop (i * P.cellsOf e)).take (P.cellsOf e) = [.int .u8 (l.getD i 0 : Nat)] := by
      rw [hc, Nat.mul_one]
      have h2 : (byteCells l).toList[i]? = some (.int .u8 (l.getD i 0 : Nat)) := by simpa using hg
      obtain ⟨h3, h4⟩ := List.getElem?_eq_some_iff.1 h2
      rw [List.drop_eq_getElem_cons h3, h4]
      rfl
    have hlt : l.getD i 0 < 256 := by
      rw [List.getD_eq_getElem?_getD, List.getElem?_eq_getElem hi']
      exact hb _ (List.getElem_mem hi')
    rw [hch]
    have hw : (Lit.int .u8 ((l.getD i 0 : Nat) : Int)).wf = true := Go.WalkArith.wf_u8 (by omega)
    simp only [he, hw, and_self, if_true]
    rfl
theorem eq_deep {P : Program} {t : TypeId} (hk : P.keyTypeAt 10 t = true) {xs ys : Array Value} {la lb : List Lit} {d d' : Nat} (fx : (Value.agg xs).formed P t = true) (fy : (Value.agg ys).formed P t = true)
    (hx : P.keyLits d t xs.toList = some la) (hy : P.keyLits d' t ys.toList = some lb) (b : Bool) (hb : b = true ↔ la = lb) (w : World) : (Op.equalIn 10000 t (.agg xs) (.agg ys)).run P w = .ok b w := by
  obtain ⟨r, hr, hi⟩ := run_equalIn_deep (9990) 10 t hk w d d' (.agg xs) (.agg ys) la lb fx fy (by simpa [Value.cells] using hx) (by simpa [Value.cells] using hy)
  have : r = b := by
    rw [Bool.eq_iff_iff, hi, hb]
  rw [← this]
  exact hr
end Go.Rv
