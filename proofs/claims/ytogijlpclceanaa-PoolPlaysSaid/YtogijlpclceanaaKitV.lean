/- Small laws, over any program: rows of one-cell values that the call itself made: read, written, appended to. -/
import Derived.Test.YtogijlpclceanaaKit
namespace Go.Rv
open Go.RowKit
/-- a row of one-cell values of the call's own -/
def OwnV (w : World) (e : TypeId) (base : Nat) (v : Value) (xs : List Value) : Prop :=
  w.ownsRow base e 1 v xs.length xs ∧ (∀ x ∈ xs, x.oneCell' = true)
theorem OwnV.nil (w : World) (e : TypeId) (base : Nat) : OwnV w e base (.slice none 0 0) [] := ⟨World.ownsRow_nil _ _ _ _, by simp⟩
theorem OwnV.row {w : World} {e : TypeId} {base g : Nat} {C : Array Value} (hb : base ≤ g) (hg : w.heap[g]? = some (.cells C e (0, 0))) (h1 : ∀ x ∈ C.toList, x.oneCell' = true) (hm : C.size ≤ maxLen) : OwnV w e base (.slice (some ⟨g, 0, none⟩) C.toList.length C.toList.length) C.toList :=
  ⟨⟨by simp, .inr ⟨g, C.toList.length, C, rfl, hb, hg, Nat.le_refl _, by simpa using hm, by simp, by simp [List.take_of_length_le]⟩⟩, h1⟩
theorem OwnV.open {w : World} {e : TypeId} {base : Nat} {v : Value} {xs : List Value} (h : OwnV w e base v xs) (h0 : 0 < xs.length) :
    ∃ g cap, v = .slice (some ⟨g, 0, none⟩) xs.length cap ∧ base ≤ g ∧ g < w.heap.size ∧ xs.length ≤ cap ∧ cap ≤ maxLen ∧ (∀ i x, xs[i]? = some x → w.cell? ⟨g, i, none⟩ = some x) ∧ (∀ i, w.frozen? ⟨g, i, none⟩ = false) := by
  obtain ⟨⟨_, hr⟩, hl⟩ := h
  rcases hr with ⟨_, hn⟩ | ⟨g, cap, cur, rfl, hb, hg, hnc, hcm, hcs, htake⟩
  · omega
  · refine ⟨g, cap, rfl, hb, (Array.getElem?_eq_some_iff.1 hg).1, hnc, hcm, fun i x hx => ?_, fun i => frozen_of_row _ _ _ _ _ hg⟩
    have hi : i < xs.length := (List.getElem?_eq_some_iff.1 hx).1
    rw [cell_of_row _ _ _ _ _ _ hg]
    have h1 : (cur.toList.take (xs.length * 1))[i]? = xs[i]? := by rw [htake]
    rw [List.getElem?_take, if_pos (by omega)] at h1
    rw [← Array.getElem?_toList, h1, hx]
theorem OwnV.shape {w : World} {e : TypeId} {base : Nat} {v : Value} {xs : List Value} (h : OwnV w e base v xs) : ∃ a cap, v = .slice a xs.length cap ∧ (a = none → cap = 0) ∧ (∀ x, a = some x → base ≤ x.block ∧ x.block < w.heap.size ∧ v.ownBlock = some x.block) := by
  rcases h.1.2 with ⟨rfl, hn⟩ | ⟨g, cap, cur, rfl, hb, hg, _⟩
  · exact ⟨none, 0, by rw [hn], fun _ => rfl, fun x hx => (by cases hx)⟩
  · exact ⟨some ⟨g, 0, none⟩, cap, rfl, fun e => (by cases e), fun x hx => (by cases hx; exact ⟨hb, (Array.getElem?_eq_some_iff.1 hg).1, rfl⟩)⟩
theorem OwnV.set {w : World} {e : TypeId} {base g cap : Nat} {xs : List Value} (h : OwnV w e base (.slice (some ⟨g, 0, none⟩) xs.length cap) xs) (i : Nat) (x : Value) (hx : x.oneCell' = true) :
    OwnV (w.setCell ⟨g, i, none⟩ x) e base (.slice (some ⟨g, 0, none⟩) xs.length cap) (xs.set i x) := by
  have h1 := (World.ownsRow.stored h.1 i x).1
  refine ⟨by rw [List.length_set]; exact h1, fun d hd => ?_⟩
  rcases List.mem_or_eq_of_mem_set hd with h' | h'
  · exact h.2 d h'
  · rw [h']; exact hx
theorem OwnV.kept {w w' : World} {e : TypeId} {base : Nat} {v : Value} {xs : List Value} (h : OwnV w e base v xs) {row : Option Nat} (hg : w.grownBy w' row) (hne : v.ownBlock = none ∨ v.ownBlock ≠ row) : OwnV w' e base v xs := ⟨h.1.kept hg hne, h.2⟩
theorem OwnV.below {w w' : World} {e : TypeId} {base : Nat} {v : Value} {xs : List Value} (h : OwnV w e base v xs) (hb : Below w.heap.size w w') : OwnV w' e base v xs :=
  h.kept (grownBy_of_below hb none) (by cases v.ownBlock <;> simp)
theorem OwnV.grown {w w' : World} {e : TypeId} {base : Nat} {v : Value} {xs : List Value} (h : OwnV w e base v xs) (hg : w.grownBy w' v.ownBlock) (hb : base ≤ w.heap.size) : Below base w w' := by
  refine Below.of_grown hg hb fun k hk => ?_
  obtain ⟨a, c, rfl, _, hx⟩ := h.shape
  cases a with
  | none => simp [Value.ownBlock] at hk
  | some x =>
    simp [Value.ownBlock] at hk
    have := (hx x rfl).1
    omega
/-- one value more -/
theorem wpList_append_one {P : Program} {w : World} {ops : Array Oper} {rest : List Oper} {o : Oper} {a : Act} {Q : Exit → Act → World → Prop} (hgd : o.guard = none) (s x : Operand) (t : TypeId)
    (ho : o.op = .call { callee := .builtin .append, args := #[s, x], argTypes := #[t, t] })
    (e : TypeId) (z : Value) (bytes : Nat) (ht : P.underlying t = some (.slice e)) (hinfo : (P.info? e).map (fun i => (i.zero, i.size, i.bytes)) = some (some z, 1, bytes)) (hz1 : z.cells.size = 1)
    (base : Nat) (v : Value) (l : List Value) (hs : a.eval s = v) (hown : OwnV w e base v l) (g : Nat) (y : Value) (fr : Nat × Nat) (t' : TypeId) (hx : a.eval x = .slice (some ⟨g, 0, none⟩) 1 1) (hg : w.heap[g]? = some (.cells #[y] t' fr)) (hy : y.oneCell' = true)
    (h63 : l.length + 1 ≤ maxLen) (hlen : (l.length + 1) * bytes ≤ 140737488355328) (hbase : base ≤ w.heap.size)
    (h : ∀ v' w', OwnV w' e base v' (l ++ [y]) → w.grownBy w' v.ownBlock → wpList P ops Q rest (a.put o.dst v') w') : wpList P ops Q (o :: rest) a w := by
  obtain ⟨i0, hi, hz0, hz1', hz2⟩ := info_parts hinfo
  refine wpList_append_own w hgd s x t ho base e i0 z 1 bytes ht hi hz0 hz1' hz2 hz1 (by decide) v l.length l hs hown.1 ⟨g, 0, none⟩ 1 1 [y] hx (by simp) ?_ ?_ h63 hlen hbase ?_
  · intro j u hu
    match j, hu with
    | 0, hu =>
      simp at hu
      subst hu
      have hadd : (⟨g, 0, none⟩ : Addr).add 0 = ⟨g, 0, none⟩ := by simp [Addr.add]
      rw [hadd, cell_of_row _ _ _ _ _ _ hg]
      rfl
  · intro u hu
    simp at hu
    subst hu
    exact hy
  · intro v' w' h1 h2 _
    refine h v' w' ⟨by simpa using h1, fun c hc => ?_⟩ h2
    rcases List.mem_append.1 hc with hc | hc
    · exact hown.2 c hc
    · simp at hc
      subst hc
      exact hy
end Go.Rv
