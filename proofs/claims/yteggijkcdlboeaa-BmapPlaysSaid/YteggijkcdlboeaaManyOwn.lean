/- Small laws, over any program: rows of things of n cells each, that the call itself made: read, appended to. -/
import Derived.Test.YteggijkcdlboeaaMany
import Derived.Test.YteggijkcdlboeaaKitV
namespace Go.Rv
open Go.RowKit
set_option linter.unusedVariables false
/-- the cells of things, one behind the other -/
def flatM {α : Type} (X : α → Array Value) (xs : List α) : List Value := xs.flatMap fun x => (X x).toList
theorem flatM_app {α : Type} (X : α → Array Value) (xs ys : List α) : flatM X (xs ++ ys) = flatM X xs ++ flatM X ys := by simp [flatM]
theorem flatM_one {α : Type} (X : α → Array Value) (x : α) : flatM X [x] = (X x).toList := by simp [flatM]
theorem flatM_length {α : Type} {n : Nat} {X : α → Array Value} : ∀ {xs : List α}, (∀ x ∈ xs, (X x).size = n) → (flatM X xs).length = xs.length * n
  | [], _ => by simp [flatM]
  | x :: xs, h => by
    have ih := flatM_length (X := X) (xs := xs) fun y hy => h y (by simp [hy])
    have h1 := h x (by simp)
    simp only [flatM, List.flatMap_cons, List.length_append, List.length_cons, Array.length_toList] at ih ⊢
    rw [ih, h1, Nat.add_mul, Nat.one_mul, Nat.add_comm]
theorem flatM_at {α : Type} {n : Nat} {X : α → Array Value} : ∀ {xs : List α}, (∀ x ∈ xs, (X x).size = n) → ∀ {k j : Nat} {x : α}, xs[k]? = some x → j < n → (flatM X xs)[k * n + j]? = (X x)[j]?
  | [], _, _, _, _, h, _ => by simp at h
  | y :: ys, h, 0, j, x, hk, hj => by
    simp at hk
    subst hk
    have h1 := h y (by simp)
    simp only [flatM, List.flatMap_cons, Nat.zero_mul, Nat.zero_add]
    rw [List.getElem?_append_left (by rw [Array.length_toList]; omega), Array.getElem?_toList]
  | y :: ys, h, k + 1, j, x, hk, hj => by
    have ih := flatM_at (X := X) (xs := ys) (fun z hz => h z (by simp [hz])) (k := k) (j := j) (x := x) (by simpa using hk) hj
    have h1 := h y (by simp)
    simp only [flatM, List.flatMap_cons] at ih ⊢
    rw [List.getElem?_append_right (by rw [Array.length_toList, h1, Nat.add_mul]; omega), Array.length_toList, h1, show (k + 1) * n + j - n = k * n + j by rw [Nat.add_mul]; omega]
    exact ih
/-- what kind of things: each has n cells, one value each -/
structure Kin {α : Type} (n : Nat) (X : α → Array Value) (Q : α → Prop) : Prop where
  size : ∀ x, Q x → (X x).size = n
  one : ∀ x, Q x → (X x).all (·.oneCell') = true
/-- a row of things of the call's own -/
def OwnM {α : Type} (w : World) (e : TypeId) (n : Nat) (X : α → Array Value) (Q : α → Prop) (base : Nat) (v : Value) (xs : List α) : Prop := w.ownsRow base e n v xs.length (flatM X xs) ∧ ∀ x ∈ xs, Q x
theorem OwnM.nil {α : Type} (w : World) (e : TypeId) (n : Nat) (X : α → Array Value) (Q : α → Prop) (base : Nat) : OwnM w e n X Q base (.slice none 0 0) [] := ⟨World.ownsRow_nil _ _ _ _, by simp⟩
theorem OwnM.shape {α : Type} {w : World} {e : TypeId} {n : Nat} {X : α → Array Value} {Q : α → Prop} {base : Nat} {v : Value} {xs : List α} (h : OwnM w e n X Q base v xs) (hK : Kin n X Q) :
    ∃ a cap, v = .slice a xs.length cap ∧ RowOf w n X Q a xs ∧ (a = none → cap = 0) ∧ xs.length ≤ cap ∧ cap ≤ 9223372036854775807 ∧ (∀ x, a = some x → base ≤ x.block ∧ x.block < w.heap.size ∧ v.ownBlock = some x.block) := by
  obtain ⟨⟨hl, hr⟩, hq⟩ := h
  rcases hr with ⟨rfl, hn⟩ | ⟨g, cap, cur, rfl, hb, hg, hnc, hcm, hcs, htake⟩
  · have h0 : xs = [] := List.eq_nil_of_length_eq_zero hn
    subst h0
    exact ⟨none, 0, rfl, .inl rfl, fun _ => rfl, by simp, by omega, fun x hx => (by cases hx)⟩
  · have hlt := (Array.getElem?_eq_some_iff.1 hg).1
    refine ⟨some ⟨g, 0, none⟩, cap, rfl, .inr ⟨g, 0, rfl, hlt, fun k x hk => ⟨fun j hj => ?_, hq x (List.mem_of_getElem? hk)⟩⟩, fun e => (by cases e), hnc, by unfold maxLen at hcm; omega, fun x hx => (by cases hx; exact ⟨hb, hlt, rfl⟩)⟩
    have hkl := (List.getElem?_eq_some_iff.1 hk).1
    rw [Nat.zero_add, cell_of_row _ _ _ _ _ _ hg, ← flatM_at (fun y hy => hK.size y (hq y hy)) hk hj, ← htake, List.getElem?_take, if_pos, Array.getElem?_toList]
    calc k * n + j < k * n + n := by omega
      _ = (k + 1) * n := by rw [Nat.add_mul, Nat.one_mul]
      _ ≤ xs.length * n := Nat.mul_le_mul_right n hkl
theorem OwnM.kept {α : Type} {w w' : World} {e : TypeId} {n : Nat} {X : α → Array Value} {Q : α → Prop} {base : Nat} {v : Value} {xs : List α} (h : OwnM w e n X Q base v xs) {row : Option Nat} (hg : w.grownBy w' row) (hne : v.ownBlock = none ∨ v.ownBlock ≠ row) : OwnM w' e n X Q base v xs := ⟨h.1.kept hg hne, h.2⟩
theorem OwnM.below {α : Type} {w w' : World} {e : TypeId} {n : Nat} {X : α → Array Value} {Q : α → Prop} {base : Nat} {v : Value} {xs : List α} (h : OwnM w e n X Q base v xs) (hb : Below w.heap.size w w') : OwnM w' e n X Q base v xs :=
  h.kept (grownBy_of_below hb none) (by cases v.ownBlock <;> simp)
theorem OwnM.only {α : Type} {S : List Nat} {w w' : World} {e : TypeId} {n : Nat} {X : α → Array Value} {Q : α → Prop} {base : Nat} {v : Value} {xs : List α} (h : OwnM w e n X Q base v xs) (hb : Only S w w') (hS : ∀ k, v.ownBlock = some k → k ∉ S) : OwnM w' e n X Q base v xs := by
  obtain ⟨⟨h1, hr⟩, hl⟩ := h
  refine ⟨⟨h1, ?_⟩, hl⟩
  rcases hr with hr | ⟨g, cap, cur, rfl, hg, hh, r⟩
  · exact .inl hr
  · exact .inr ⟨g, cap, cur, rfl, hg, (hb.block g (Array.getElem?_eq_some_iff.1 hh).1 (hS g rfl)).trans hh, r⟩
theorem OwnM.mono {α : Type} {w : World} {e : TypeId} {n : Nat} {X : α → Array Value} {Q : α → Prop} {base base' : Nat} {v : Value} {xs : List α} (h : OwnM w e n X Q base v xs) (hb : base' ≤ base) : OwnM w e n X Q base' v xs := by
  obtain ⟨⟨h1, hr⟩, hl⟩ := h
  refine ⟨⟨h1, ?_⟩, hl⟩
  rcases hr with hr | ⟨g, cap, cur, hv, hg, r⟩
  · exact .inl hr
  · exact .inr ⟨g, cap, cur, hv, by omega, r⟩
theorem OwnM.base_le {α : Type} {w : World} {e : TypeId} {n : Nat} {X : α → Array Value} {Q : α → Prop} {base : Nat} {v : Value} {xs : List α} (h : OwnM w e n X Q base v xs) {k : Nat} (hk : v.ownBlock = some k) : base ≤ k ∧ ∃ C, w.heap[k]? = some (.cells C e (0, 0)) := by
  rcases h.1.2 with ⟨rfl, _⟩ | ⟨g, cap, cur, rfl, hg, hh, r⟩
  · simp [Value.ownBlock] at hk
  · simp [Value.ownBlock] at hk
    subst hk
    exact ⟨hg, cur, hh⟩
theorem OwnM.grown {α : Type} {w w' : World} {e : TypeId} {n : Nat} {X : α → Array Value} {Q : α → Prop} {base : Nat} {v : Value} {xs : List α} (h : OwnM w e n X Q base v xs) (hg : w.grownBy w' v.ownBlock) (hb : base ≤ w.heap.size) : Below base w w' :=
  Below.of_grown hg hb fun k hk => (h.base_le hk).1
/-- things are appended, that lie anywhere -/
theorem wpList_appendM {α : Type} {P : Program} {w : World} {ops : Array Oper} {rest : List Oper} {o : Oper} {a : Act} {Q' : Exit → Act → World → Prop} (hgd : o.guard = none) (s x : Operand) (t : TypeId)
    (ho : o.op = .call { callee := .builtin .append, args := #[s, x], argTypes := #[t, t] })
    (e : TypeId) (n : Nat) (X : α → Array Value) (Q : α → Prop) (hK : Kin n X Q) (h0 : 0 < n) (z : Value) (bytes : Nat) (ht : P.underlying t = some (.slice e)) (hinfo : (P.info? e).map (fun i => (i.zero, i.size, i.bytes)) = some (some z, n, bytes)) (hzs : z.cells.size = n)
    (base : Nat) (v : Value) (xs : List α) (hs : a.eval s = v) (hown : OwnM w e n X Q base v xs) (ad : Option Addr) (cap : Nat) (ms : List α) (hx : a.eval x = .slice ad ms.length cap) (hm : RowOf w n X Q ad ms) (hcap : ad = none → cap = 0)
    (h63 : xs.length + ms.length ≤ maxLen) (hbytes : (xs.length + ms.length) * bytes ≤ 140737488355328) (hbase : base ≤ w.heap.size)
    (h : ∀ v' w', OwnM w' e n X Q base v' (xs ++ ms) → w.grownBy w' v.ownBlock → (v'.ownBlock = v.ownBlock ∨ v'.ownBlock = some w.heap.size) → wpList P ops Q' rest (a.put o.dst v') w') : wpList P ops Q' (o :: rest) a w := by
  obtain ⟨i0, hi, hz0, hz1, hz2⟩ := info_parts hinfo
  cases ad with
  | none =>
    have hms : ms = [] := by
      rcases hm with h | ⟨b, o, e, _⟩
      · exact h
      · cases e
    subst hms
    have hc := hcap rfl
    subst hc
    refine wpList_append_own_none hgd s x t ho base e i0 n ht hi v xs.length _ hs hown.1 hx ?_
    exact h v w (by simpa using hown) ⟨rfl, rfl, rfl, Nat.le_refl _, fun _ _ _ => rfl⟩ (.inl rfl)
  | some ad =>
    have hq : ∀ y ∈ ms, Q y := hm.all
    refine wpList_append_own_at w hgd s x t ho base e i0 z n bytes ht hi hz0 hz1 hz2 hzs h0 v xs.length _ hs hown.1 ad ms.length cap (flatM X ms) hx (flatM_length fun y hy => hK.size y (hq y hy)) ?_ ?_ h63 hbytes hbase ?_
    · intro j u hu
      have hj : j < ms.length * n := by
        have := (List.getElem?_eq_some_iff.1 hu).1
        rwa [flatM_length fun y hy => hK.size y (hq y hy)] at this
      obtain ⟨y, hy⟩ : ∃ y, ms[j / n]? = some y := ⟨_, List.getElem?_eq_getElem (by rwa [Nat.div_lt_iff_lt_mul h0])⟩
      obtain ⟨b, o, e, hb, hc, -⟩ := hm.at hy
      cases e
      have h1 := hc (j % n) (Nat.mod_lt _ h0)
      have h2 := flatM_at (fun y hy => hK.size y (hq y hy)) hy (Nat.mod_lt j h0)
      rw [Nat.div_add_mod' j n] at h2
      rw [add_lit, ← hu, h2, ← h1, Nat.add_assoc, Nat.div_add_mod' j n]
    · intro u hu
      simp only [flatM, List.mem_flatMap] at hu
      obtain ⟨y, hy, hu⟩ := hu
      have := hK.one y (hq y hy)
      rw [Array.all_eq_true_iff_forall_mem] at this
      exact this u (by simpa using hu)
    · intro v' w' h1 h2 _ h4
      refine h v' w' ⟨by rw [List.length_append, flatM_app]; exact h1, fun y hy => ?_⟩ h2 h4
      rcases List.mem_append.1 hy with hy | hy
      · exact hown.2 y hy
      · exact hq y hy
/-- one thing, that lies in a block of its own -/
theorem one_rowOf {α : Type} {w : World} {n : Nat} {X : α → Array Value} {Q : α → Prop} {g : Nat} {x : α} {t : TypeId} {fr : Nat × Nat} (hg : w.heap[g]? = some (.cells (X x) t fr)) (hq : Q x) : RowOf w n X Q (some ⟨g, 0, none⟩) [x] :=
  .inr ⟨g, 0, rfl, (Array.getElem?_eq_some_iff.1 hg).1, fun k y hk => by
    match k, hk with
    | 0, hk =>
      simp at hk
      subst hk
      exact ⟨fun j hj => by rw [Nat.zero_mul, Nat.zero_add]; exact cell_of_row _ _ _ _ _ _ hg, hq⟩⟩
end Go.Rv
