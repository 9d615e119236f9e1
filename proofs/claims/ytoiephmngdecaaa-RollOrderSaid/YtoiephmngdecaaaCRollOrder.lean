/- Proved here, one behind the other: Proved here: plain: of a list whose records come singly or as pairs the order plays no part; Proved here: what the law's plain tells: a list whose records come singly or as pairs; Proved here: the walk of the law's plain; Proved here: the walk of the law on the order of a list. -/
import Derived.LoopTactic
import Derived.WalkLawsBesides
import Derived.Test.YtoiephmngdecaaaQa
import Derived.Test.YtoiephmngdecaaaQb
import Derived.Test.YtoiephmngdecaaaQc
import Derived.Test.YtoiephmngdecaaaQd
import Derived.Test.YtoiephmngdecaaaQe
import Derived.Test.YtoiephmngdecaaaQf
import Derived.Test.YtoiephmngdecaaaQg
import Derived.Test.YtoiephmngdecaaaQh
namespace Go.Proofs.Ytoiephmngdecaaa
open Go.RowKit Go.Rv Rl Frm
set_option linter.unusedVariables false
namespace Rl
/-- an entry but for its mate -/
def noMate (e : En.E) : En.E := { e with mate := 0 }
/-- two records that are both copies of one -/
def Pair (a b : Rec) : Prop := noMate a.e = noMate b.e ∧ a.e.mate = b.zone ∧ b.e.mate = a.zone ∧ a.off = b.off
theorem Pair.symm {a b : Rec} (h : Pair a b) : Pair b a := ⟨h.1.symm, h.2.2.1, h.2.1, h.2.2.2.symm⟩
theorem Pair.mates {a b : Rec} (h : Pair a b) : mates a b = true := by
  unfold Rl.mates
  rw [decide_eq_true h.2.1, decide_eq_true h.2.2.1, decide_eq_true h.2.2.2]
  rfl
/-- of a number there are no more records than a pair -/
def Twos (R : List (Int × Rec)) : Prop := ∀ s, (atSeq R s).length ≤ 1 ∨ ∃ a b, atSeq R s = [a, b] ∧ Pair a b
/-- alike, but for which copy it is -/
def ChS (c d : Ch) : Prop := c.single = d.single ∧ (c.r = d.r ∨ Pair c.r d.r)
def BeS (e f : BE) : Prop := e = f ∨ (e.st = f.st ∧ e.z = f.m ∧ e.m = f.z ∧ e.o = f.o ∧ e.q = f.q ∧ e.s = f.s)
theorem atSeq_rev (R : List (Int × Rec)) (s : Int) : atSeq R.reverse s = (atSeq R s).reverse := by
  unfold atSeq
  rw [List.filter_reverse, List.map_reverse]
theorem choose_rev {R : List (Int × Rec)} (h : Twos R) (s : Int) (hne : atSeq R s ≠ []) : ChS (choose (atSeq R s)) (choose (atSeq R.reverse s)) := by
  rw [atSeq_rev]
  rcases h s with h1 | ⟨a, b, he, hp⟩
  · have : (atSeq R s).reverse = atSeq R s := by
      match hl : atSeq R s with
      | [] => rfl
      | [x] => rfl
      | x :: y :: r => rw [hl] at h1; simp at h1
    rw [this]
    exact ⟨rfl, .inl rfl⟩
  · rw [he]
    have h1 : choose [a, b] = ⟨a, false⟩ := choose_pair (by unfold firstPair; simp [hp.mates])
    have h2 : choose [b, a] = ⟨b, false⟩ := choose_pair (by unfold firstPair; simp [hp.symm.mates])
    show ChS (choose [a, b]) (choose [b, a])
    rw [h1, h2]
    exact ⟨rfl, .inr hp⟩
theorem runLen_rev (R : List (Int × Rec)) (next : Int) : runLen R.reverse next = runLen R next := by
  apply runLen_eq
  · intro k hk
    rw [atSeq_rev]
    simpa using runLen_some hk
  · rw [atSeq_rev, runLen_none]
    rfl
/-- two lists that are alike, thing by thing -/
def Al {A : Type} (R : A → A → Prop) (xs ys : List A) : Prop := xs.length = ys.length ∧ ∀ (i : Nat) (x y : A), xs[i]? = some x → ys[i]? = some y → R x y
theorem Al.refl {A : Type} {R : A → A → Prop} (h : ∀ x, R x x) (xs : List A) : Al R xs xs := ⟨rfl, fun i x y hx hy => by rw [hx] at hy; cases hy; exact h x⟩
theorem Al.nil {A : Type} {R : A → A → Prop} : Al R [] [] := ⟨rfl, fun i x y hx hy => by simp at hx⟩
theorem Al.snoc {A : Type} {R : A → A → Prop} {xs ys : List A} (h : Al R xs ys) {x y : A} (hx : R x y) : Al R (xs ++ [x]) (ys ++ [y]) := by
  refine ⟨by simp [h.1], fun i u v hu hv => ?_⟩
  by_cases hi : i < xs.length
  · rw [List.getElem?_append_left hi] at hu
    rw [List.getElem?_append_left (by rw [← h.1]; exact hi)] at hv
    exact h.2 i u v hu hv
  · rw [List.getElem?_append_right (by omega)] at hu
    rw [List.getElem?_append_right (by rw [← h.1]; omega), ← h.1] at hv
    cases hk : i - xs.length with
    | zero =>
      rw [hk] at hu hv
      simp only [List.getElem?_cons_zero, Option.some.injEq] at hu hv
      subst hu hv
      exact hx
    | succ k => rw [hk] at hu; simp at hu
theorem Al.set {A : Type} {R : A → A → Prop} {xs ys : List A} (h : Al R xs ys) {x y : A} (hx : R x y) (n : Nat) : Al R (xs.set n x) (ys.set n y) := by
  refine ⟨by simp [h.1], fun i u v hu hv => ?_⟩
  by_cases hi : n = i
  · subst hi
    rw [List.getElem?_set_self'] at hu hv
    cases hxs : xs[n]? with
    | none => rw [hxs] at hu; simp at hu
    | some x1 =>
      cases hys : ys[n]? with
      | none => rw [hys] at hv; simp at hv
      | some y1 =>
        rw [hxs] at hu
        rw [hys] at hv
        simp at hu hv
        subst hu hv
        exact hx
  · rw [List.getElem?_set_ne hi] at hu hv
    exact h.2 i u v hu hv
theorem Al.cons {A : Type} {R : A → A → Prop} {x : A} {xs zs : List A} (h : Al R (x :: xs) zs) : ∃ y ys, zs = y :: ys ∧ R x y ∧ Al R xs ys := by
  cases zs with
  | nil => simp [Al] at h
  | cons y ys =>
    refine ⟨y, ys, rfl, h.2 0 x y rfl rfl, by simpa using h.1, fun i u v hu hv => h.2 (i + 1) u v (by simpa using hu) (by simpa using hv)⟩
/-- two states that are alike -/
structure StS (a b : St) : Prop where
  es : Al BeS a.es b.es
  sg : a.single = b.single
  ap : a.applied = b.applied
  fi : a.first = b.first
  co : a.count = b.count
  ol : Al ChS a.ol b.ol
theorem noMate_fields {a b : En.E} (h : noMate a = noMate b) : a.kind = b.kind ∧ a.first = b.first ∧ a.count = b.count ∧ a.block = b.block ∧ a.many = b.many ∧ a.bytes = b.bytes := by
  unfold noMate at h
  simp only [En.E.mk.injEq] at h
  exact ⟨h.1, h.2.1, h.2.2.1, h.2.2.2.1, h.2.2.2.2.1, h.2.2.2.2.2.2⟩
theorem ChS.fields {c d : Ch} (h : ChS c d) : c.r.e.kind = d.r.e.kind ∧ c.r.e.first = d.r.e.first ∧ c.r.e.count = d.r.e.count ∧ c.r.e.block = d.r.e.block ∧ c.r.e.many = d.r.e.many ∧ c.r.e.bytes = d.r.e.bytes := by
  rcases h.2 with e | hp
  · rw [e]; exact ⟨rfl, rfl, rfl, rfl, rfl, rfl⟩
  · exact noMate_fields hp.1
theorem ChS.be {c d : Ch} (h : ChS c d) (s : Int) : BeS (beOf s c) (beOf s d) := by
  rcases h.2 with e | hp
  · left
    unfold beOf
    rw [e]
  · right
    have hb := (noMate_fields hp.1).2.2.2.2.2
    unfold beOf
    exact ⟨rfl, hp.2.2.1.symm, hp.2.1, hp.2.2.2, rfl, by simp only; rw [hb]⟩
theorem BeS.right {g : Geo.G} {e f : BE} (h : BeS e f) : beRight g e = beRight g f := by
  rcases h with rfl | ⟨h1, h2, h3, h4, h5, h6⟩
  · rfl
  · obtain ⟨st, z, m, o, q, s⟩ := e
    obtain ⟨st', z', m', o', q', s'⟩ := f
    simp only at h1 h2 h3 h4 h5 h6
    subst h1 h2 h3 h4 h5 h6
    unfold beRight
    simp only
    by_cases hs : st = 0 ∨ st = 2
    · rw [if_pos hs, if_pos hs]
      refine decide_eq_decide.2 ⟨fun h => ?_, fun h => ?_⟩
      · simp only [BE.mk.injEq] at h ⊢
        exact ⟨trivial, h.2.2.1, h.2.1, h.2.2.2⟩
      · simp only [BE.mk.injEq] at h ⊢
        exact ⟨trivial, h.2.2.1, h.2.1, h.2.2.2⟩
    · rw [if_neg hs, if_neg hs]
      by_cases h1 : st = 1
      · rw [if_pos h1, if_pos h1]
        unfold beLive
        simp only
        rw [show decide (domOf g m ≠ domOf g z) = decide (domOf g z ≠ domOf g m) from decide_eq_decide.2 ⟨fun h => h.symm, fun h => h.symm⟩]
        cases holdsG g m o <;> cases holdsG g z o <;> rfl
      · rw [if_neg h1, if_neg h1]
theorem BeS.refl (e : BE) : BeS e e := .inl rfl
theorem ChS.refl (c : Ch) : ChS c c := ⟨rfl, .inl rfl⟩
theorem StS.refl (a : St) : StS a a := ⟨Al.refl BeS.refl _, rfl, rfl, rfl, rfl, Al.refl ChS.refl _⟩
theorem setEs_al {g : Geo.G} {es fs : List BE} (h : Al BeS es fs) {e f : BE} (hx : BeS e f) (k : Int) : Al BeS (setEs g es k e) (setEs g fs k f) := by
  unfold setEs
  rw [← h.1, hx.right]
  split
  · exact h
  · split
    · exact h.set hx _
    · exact h
theorem lie_al {g : Geo.G} {a b : St} (h : StS a b) {c d : Ch} (hc : ChS c d) (s : Int) : StS (lie g a s c) (lie g b s d) := by
  have hf := hc.fields
  refine ⟨?_, ?_, h.ap, h.fi, h.co, h.ol⟩
  · show Al BeS (setEs g a.es c.r.e.block (beOf s c)) (setEs g b.es d.r.e.block (beOf s d))
    rw [← hf.2.2.2.1]
    exact setEs_al h.es (hc.be s) _
  · show a.single.set c.r.e.block.toNat _ = b.single.set d.r.e.block.toNat _
    rw [← hf.2.2.2.1, ← hc.1, h.sg]
theorem lieAll_al {g : Geo.G} (first : Int) : ∀ (l m : List Ch) (i : Nat) {a b : St}, StS a b → Al ChS l m → StS (lieAll g first l i a) (lieAll g first m i b)
  | [], m, i, a, b, h, hl => by
    have : m = [] := List.eq_nil_of_length_eq_zero hl.1.symm
    subst this
    exact h
  | c :: r, m, i, a, b, h, hl => by
    obtain ⟨d, q, rfl, hcd, hr⟩ := hl.cons
    unfold lieAll
    exact lieAll_al first r q (i + 1) (lie_al h hcd _) hr
theorem shut_al {a b : St} (h : StS a b) : StS (shut a) (shut b) := ⟨h.es, h.sg, h.ap, rfl, rfl, Al.nil⟩
theorem opened_al {a b : St} (h : StS a b) {c d : Ch} (hc : ChS c d) (s : Int) : StS (opened a s c.r.e) (opened b s d.r.e) := by
  have hf := hc.fields
  unfold opened
  rw [← hf.2.1]
  split
  · exact ⟨h.es, h.sg, h.ap, rfl, hf.2.2.1, Al.nil⟩
  · exact h
theorem data_al {g : Geo.G} {a b : St} (h : StS a b) {c d : Ch} (hc : ChS c d) (s : Int) : StS (data g a s c) (data g b s d) := by
  have hf := hc.fields
  have h1 := opened_al h hc s
  unfold data
  simp only
  generalize opened a s c.r.e = a1 at h1 ⊢
  generalize opened b s d.r.e = b1 at h1 ⊢
  have hg : goesOn b1 s d.r.e = goesOn a1 s c.r.e := by
    unfold goesOn
    rw [hf.2.1, hf.2.2.1, h1.fi, h1.co, h1.ol.1]
  rw [hg, ← h1.ol.1, ← hf.2.2.1]
  split
  · exact shut_al h1
  · split
    · exact ⟨h1.es, h1.sg, h1.ap, h1.fi, h1.co, h1.ol.snoc hc⟩
    · have h2 := shut_al (lieAll_al a1.first _ _ 0 h1 (h1.ol.snoc hc) (g := g))
      rw [← h1.fi, ← h1.ap]
      exact ⟨h2.es, h2.sg, rfl, rfl, rfl, Al.nil⟩
theorem trim_al {g : Geo.G} : ∀ (n : Nat) (k : Int) {a b : St}, StS a b → StS (trim g k n a) (trim g k n b)
  | 0, k, a, b, h => h
  | n + 1, k, a, b, h => by
    unfold trim
    refine trim_al n (k + 1) ⟨setEs_al h.es (BeS.refl _) _, ?_, h.ap, h.fi, h.co, h.ol⟩
    show a.single.set _ _ = b.single.set _ _
    rw [h.sg]
theorem other_al {g : Geo.G} {a b : St} (h : StS a b) {c d : Ch} (hc : ChS c d) (s : Int) : StS (other g a s c) (other g b s d) := by
  have hf := hc.fields
  have h1 : StS { shut a with applied := a.applied + 1 } { shut b with applied := b.applied + 1 } := by
    have h2 := shut_al h
    exact ⟨h2.es, h2.sg, by show a.applied + 1 = b.applied + 1; rw [h.ap], rfl, rfl, Al.nil⟩
  unfold other
  simp only
  rw [← hf.1, ← hf.2.2.2.1, ← hf.2.2.2.2.1]
  split
  · exact lie_al h1 hc s
  · exact trim_al _ _ h1
theorem step_al {g : Geo.G} {a b : St} (h : StS a b) {c d : Ch} (hc : ChS c d) (s : Int) : StS (step g a s c) (step g b s d) := by
  unfold step
  rw [← hc.fields.1]
  split
  · exact data_al h hc s
  · exact other_al h hc s
/-- the order plays no part -/
theorem after_rev (g : Geo.G) {R : List (Int × Rec)} (hR : Twos R) (next : Int) (st : St) : ∀ k, k ≤ runLen R next → StS (after g R next st k) (after g R.reverse next st k)
  | 0, _ => StS.refl _
  | k + 1, hk => by
    unfold after
    exact step_al (after_rev g hR next st k (by omega)) (choose_rev hR _ (runLen_some (by omega))) _
theorem recs_reverse (g : Geo.G) (epoch next : Int) (l : List Fnd) : recs g epoch next l.reverse = (recs g epoch next l).reverse := by
  unfold recs
  rw [List.filterMap_reverse]
end Rl
end Go.Proofs.Ytoiephmngdecaaa
namespace Go.Proofs.Ytoiephmngdecaaa
open Go.RowKit Go.Rv Rl Frm
set_option linter.unusedVariables false
attribute [local go_sem] Oper.semAt_some
namespace Rl
/-- the thing at k is a record with the number of that at i -/
def Hit (g : Geo.G) (epoch : Int) (l : List Fnd) (i : Nat) (f : Fnd) (x : Option En.E) (k : Nat) (h : Fnd) (y : Option En.E) : Prop := l[k]? = some h ∧ recE g epoch h = y ∧ x.isSome = true ∧ y.isSome = true ∧ i ≠ k ∧ h.fr.seq = f.fr.seq
def recOf (f : Fnd) (x : Option En.E) : Rec := ⟨x.getD En.E.zero, f.zone, f.off⟩
/-- what is known behind k things -/
structure InI (g : Geo.G) (epoch : Int) (l : List Fnd) (i : Nat) (f : Fnd) (x : Option En.E) (k n : Nat) : Prop where
  two : n ≤ 1
  no : n = 0 → ∀ j h y, j < k → ¬ Hit g epoch l i f x j h y
  pr : ∀ j h y, j < k → Hit g epoch l i f x j h y → Pair (recOf f x) (recOf h y)
  one : ∀ j h y j' h' y', j < k → j' < k → Hit g epoch l i f x j h y → Hit g epoch l i f x j' h' y' → j = j'
theorem InI.zero (g : Geo.G) (epoch : Int) (l : List Fnd) (i : Nat) (f : Fnd) (x : Option En.E) : InI g epoch l i f x 0 0 :=
  ⟨by omega, fun _ j h y hj => by omega, fun j h y hj => by omega, fun j h y j' h' y' hj => by omega⟩
theorem InI.skip {g : Geo.G} {epoch : Int} {l : List Fnd} {i : Nat} {f : Fnd} {x : Option En.E} {k n : Nat} {h : Fnd} (hI : InI g epoch l i f x k n) (hk : l[k]? = some h)
    (hno : x.isSome = false ∨ (recE g epoch h).isSome = false ∨ i = k ∨ h.fr.seq ≠ f.fr.seq) : InI g epoch l i f x (k + 1) n := by
  have key : ∀ j h' y, j < k + 1 → Hit g epoch l i f x j h' y → j < k := fun j h' y hj hh => by
    by_cases he : j = k
    · exfalso
      subst he
      obtain ⟨h1, h2, h3, h4, h5, h6⟩ := hh
      rw [hk] at h1
      cases h1
      subst h2
      rcases hno with e | e | e | e
      · rw [h3] at e; cases e
      · rw [h4] at e; cases e
      · exact h5 e
      · exact e h6
    · omega
  exact ⟨hI.two, fun e j h' y hj hh => hI.no e j h' y (key _ _ _ hj hh) hh, fun j h' y hj hh => hI.pr j h' y (key _ _ _ hj hh) hh,
    fun j h1 y1 j' h2 y2 hj hj' hh hh' => hI.one j h1 y1 j' h2 y2 (key _ _ _ hj hh) (key _ _ _ hj' hh') hh hh'⟩
theorem InI.hit {g : Geo.G} {epoch : Int} {l : List Fnd} {i : Nat} {f : Fnd} {x : Option En.E} {k : Nat} {h : Fnd} (hI : InI g epoch l i f x k 0) (hk : l[k]? = some h)
    (hp : Pair (recOf f x) (recOf h (recE g epoch h))) : InI g epoch l i f x (k + 1) 1 := by
  have key : ∀ j h' y, j < k + 1 → Hit g epoch l i f x j h' y → j = k ∧ h' = h ∧ y = recE g epoch h := fun j h' y hj hh => by
    by_cases he : j = k
    · subst he
      obtain ⟨h1, h2, -⟩ := hh
      rw [hk] at h1
      cases h1
      exact ⟨rfl, rfl, h2.symm⟩
    · exact (hI.no rfl j h' y (by omega) hh).elim
  exact ⟨Nat.le_refl _, fun e => by omega, fun j h' y hj hh => by obtain ⟨rfl, rfl, rfl⟩ := key _ _ _ hj hh; exact hp,
    fun j h1 y1 j' h2 y2 hj hj' hh hh' => (key _ _ _ hj hh).1.trans (key _ _ _ hj' hh').1.symm⟩
/-- what plain tells -/
def PlainOk (g : Geo.G) (epoch : Int) (l : List Fnd) (m : Nat) : Prop := ∀ i f, i < m → l[i]? = some f → ∃ n, InI g epoch l i f (recE g epoch f) l.length n
def atF (g : Geo.G) (epoch next s : Int) (f : Fnd) : Option Rec :=
  match recE g epoch f with
  | none => none
  | some e => if f.fr.seq = s ∧ ¬ s < next then some ⟨e, f.zone, f.off⟩ else none
theorem atSeq_recs (g : Geo.G) (epoch next s : Int) : ∀ l : List Fnd, atSeq (recs g epoch next l) s = l.filterMap (atF g epoch next s)
  | [] => rfl
  | f :: r => by
    have ih := atSeq_recs g epoch next s r
    unfold recs at ih ⊢
    cases hx : recE g epoch f with
    | none =>
      rw [List.filterMap_cons_none (by unfold recF; rw [hx]), List.filterMap_cons_none (by unfold atF; rw [hx])]
      exact ih
    | some e =>
      have e1 : recF g epoch next f = if f.fr.seq < next then none else some (f.fr.seq, ⟨e, f.zone, f.off⟩) := by unfold recF; rw [hx]
      have e2 : atF g epoch next s f = if f.fr.seq = s ∧ ¬ s < next then some ⟨e, f.zone, f.off⟩ else none := by unfold atF; rw [hx]
      by_cases hn : f.fr.seq < next
      · rw [if_pos hn] at e1
        rw [if_neg (fun h => h.2 (by omega))] at e2
        rw [List.filterMap_cons_none e1, List.filterMap_cons_none e2]
        exact ih
      · rw [if_neg hn] at e1
        rw [List.filterMap_cons_some e1]
        by_cases hs : f.fr.seq = s
        · rw [if_pos ⟨hs, by omega⟩] at e2
          rw [List.filterMap_cons_some e2, ← ih]
          simp [atSeq, hs]
        · rw [if_neg (fun h => hs h.1)] at e2
          rw [List.filterMap_cons_none e2, ← ih]
          simp [atSeq, hs]
theorem fm_head {A B : Type} (p : A → Option B) : ∀ (l : List A) {b : B} {r : List B}, l.filterMap p = b :: r → ∃ i x, l[i]? = some x ∧ p x = some b ∧ (l.drop (i + 1)).filterMap p = r
  | [], b, r, h => by cases h
  | x :: l, b, r, h => by
    rw [List.filterMap_cons] at h
    cases hp : p x with
    | none =>
      rw [hp] at h
      obtain ⟨i, y, h1, h2, h3⟩ := fm_head p l h
      exact ⟨i + 1, y, by simpa using h1, h2, by simpa using h3⟩
    | some b' =>
      rw [hp] at h
      simp only [List.cons.injEq] at h
      exact ⟨0, x, rfl, by rw [hp, h.1], by simpa using h.2⟩
theorem atF_some {g : Geo.G} {epoch next s : Int} {f : Fnd} {a : Rec} (h : atF g epoch next s f = some a) : (recE g epoch f).isSome = true ∧ f.fr.seq = s ∧ a = recOf f (recE g epoch f) := by
  unfold atF at h
  cases hx : recE g epoch f with
  | none => rw [hx] at h; cases h
  | some e =>
    rw [hx] at h
    simp only at h
    split at h
    · rename_i hc
      simp only [Option.some.injEq] at h
      exact ⟨rfl, hc.1, h.symm⟩
    · cases h
theorem plain_twos {g : Geo.G} {epoch : Int} {l : List Fnd} (h : PlainOk g epoch l l.length) (next : Int) : Twos (recs g epoch next l) := by
  intro s
  rw [atSeq_recs]
  cases ha : l.filterMap (atF g epoch next s) with
  | nil => exact .inl (by simp)
  | cons a r =>
    obtain ⟨i, f, hi, hpa, hr⟩ := fm_head _ l ha
    cases hb : r with
    | nil => exact .inl (by simp)
    | cons b r2 =>
      right
      rw [hb] at hr
      obtain ⟨j, f2, hj, hpb, hr2⟩ := fm_head _ _ hr
      rw [List.getElem?_drop] at hj
      obtain ⟨x1, x2, x3⟩ := atF_some hpa
      obtain ⟨y1, y2, y3⟩ := atF_some hpb
      obtain ⟨n, hI⟩ := h i f (List.getElem?_eq_some_iff.1 hi).1 hi
      have hit1 : Hit g epoch l i f (recE g epoch f) (i + 1 + j) f2 (recE g epoch f2) := ⟨hj, rfl, x1, y1, by omega, by rw [x2, y2]⟩
      have hp := hI.pr _ _ _ (List.getElem?_eq_some_iff.1 hj).1 hit1
      rw [← x3, ← y3] at hp
      have hnil : r2 = [] := by
        cases hc : r2 with
        | nil => rfl
        | cons c r3 =>
          exfalso
          rw [hc] at hr2
          obtain ⟨m, f3, hm, hpc, -⟩ := fm_head _ _ hr2
          rw [List.getElem?_drop, List.getElem?_drop] at hm
          obtain ⟨z1, z2, -⟩ := atF_some hpc
          have hit2 : Hit g epoch l i f (recE g epoch f) (i + 1 + (j + 1 + m)) f3 (recE g epoch f3) := ⟨hm, rfl, x1, z1, by omega, by rw [x2, z2]⟩
          have := hI.one _ _ _ _ _ _ (List.getElem?_eq_some_iff.1 hj).1 (List.getElem?_eq_some_iff.1 hm).1 hit1 hit2
          omega
      rw [hnil]
      exact ⟨a, b, rfl, hp⟩
end Rl
end Go.Proofs.Ytoiephmngdecaaa
namespace Go.Proofs.Ytoiephmngdecaaa
open Go.RowKit Go.Rv Rl Frm
set_option linter.unusedVariables false
attribute [local go_sem] Oper.semAt_some
theorem recE_numP (g : Geo.G) (epoch : Int) {f : Fnd} (hq : FndQ f) : EBody ((recE g epoch f).getD En.E.zero) ∧ Num38 ((recE g epoch f).getD En.E.zero) := by
  have h1 : EBody (readE f.fr).1 ∧ Num38 (readE f.fr).1 := by
    refine ⟨readE_body f.fr hq.2.2.1, ?_⟩
    unfold readE
    split
    · exact zero_num
    · split
      · exact zero_num
      · exact ofE_num hq.2.2.2.1 hq.2.2.1.2
  unfold recE
  split
  · exact h1
  · exact ⟨zero_ebody, zero_num⟩
theorem EC_setMate (y : En.E) (m : Int) : (EC y).setIfInBounds 5 (.int .i64 m) = EC { y with mate := m } := by
  apply Array.ext'
  simp [EC]
theorem noMate_of_set {x y : En.E} (h : { y with mate := x.mate } = x) : noMate x = noMate y := by
  rw [← h]
  rfl
set_option maxRecDepth 100000 in
set_option maxHeartbeats 64000000 in
theorem plain_any (w : World) (g : Geo.G) (epoch : Int) (a2 : Option Addr) (l2 : List Fnd) (c2 : Nat) (hI2 : RowOf w 51 fndC FndQ a2 l2) (hn : l2.length ≤ 1000) :
    Calls Try.prog 20 #[.agg (GC g), .int .i64 epoch, .slice a2 l2.length c2] w fun e w' => (e = .returned (.bool false) ∨ (e = .returned (.bool true) ∧ PlainOk g epoch l2 l2.length)) ∧ Below w.heap.size w w' := by
  have HGI := Lib.hid (gsize (g := g))
  have hz65 := (zero_of_info Try.infoEntry).1
  have hzf := (zero_of_info Try.infoFnd).1
  have HI2 := Lib.hid hI2
  have HRC := Lib.hid (fun (f : Fnd) (W : World) (hq : FndQ f) => rrecord_any g epoch f W hq)
  obtain ⟨GX, hGX⟩ : ∃ X, GC g = X := ⟨_, rfl⟩
  rw [hGX] at HGI HRC ⊢
  obtain ⟨W0, hW0⟩ : ∃ W, w.alloc (.cells GX 23) = W := ⟨_, rfl⟩
  have hb0 : Below w.heap.size w W0 := by rw [← hW0]; exact (Below.refl _ _).alloc (Nat.le_refl _) _
  have hg0 : W0.heap[w.heap.size]? = some (.cells GX 23 (0, 0)) := by rw [← hW0]; exact heap_alloc_new w _
  have zg0 : w.heap.size < W0.heap.size := (Array.getElem?_eq_some_iff.1 hg0).1
  have HG0 := Lib.hid hg0
  have HB0 := Lib.hid hb0
  have HI0 := Lib.hid (hI2.below hb0)
  have HW0 := Lib.hid hW0
  obtain ⟨n2, hn2⟩ : ∃ n, l2.length = n := ⟨_, rfl⟩
  rw [hn2] at hn ⊢
  have HN2 := Lib.hid hn2
  clear hI2 hGX hW0 hb0 hg0 hn2
  go_enter Try.func20, Try.ntmps20
  go_upto_region 2 with (fail)
  rw [HW0.out]
  go_loopw [19] (fun u wr => ∃ i : Nat, i ≤ n2 ∧ u = .int .i64 i ∧ Below W0.heap.size W0 wr ∧ PlainOk g epoch l2 i) (fun u _ => n2 - (intOf u).toNat)
  case atStart => exact ⟨0, Nat.zero_le _, rfl, Below.refl _ _, fun i f hi => by omega⟩
  case round =>
    obtain ⟨i, hi, rfl, hBr, hok⟩ := hrel
    have zr := hBr.size
    have HBR := Lib.hid hBr
    have HOK := Lib.hid hok
    clear hBr hok
    by_cases hlt : i < n2
    · obtain ⟨f, hf⟩ : ∃ f, l2[i]? = some f := ⟨_, List.getElem?_eq_getElem (by rw [HN2.out]; exact hlt)⟩
      obtain ⟨ab, ao, rfl, -, -, -⟩ := HI0.out.at hf
      have HGF := Lib.hid (Rl2.rowOf_range (HI0.out.below HBR.out) kinFnd.size hf)
      have hq1 := HI2.out.all f (List.mem_of_getElem? hf)
      have HIF1 := Lib.hid (size_fnd hq1)
      have HIL1 : Hid ((Try.prog.info? 70).map (·.size) = some (fndC f).toList.length) := Lib.hid (size_fnd hq1)
      have HZF1 : Hid ((fndC fnd0).size = (fndC f).size) := Lib.hid (by rw [kinFnd.size f hq1]; rfl)
      have HOF1 := Lib.hid (kinFnd.one f hq1)
      obtain ⟨hEB1, hEN1⟩ := recE_numP g epoch hq1
      have HRC1 := Lib.hid (fun W => HRC.out f W hq1)
      obtain ⟨x, hx1⟩ : ∃ x, (recE g epoch f).getD En.E.zero = x := ⟨_, rfl⟩
      obtain ⟨rb, hrb1⟩ : ∃ b, (recE g epoch f).isSome = b := ⟨_, rfl⟩
      rw [hx1, hrb1] at HRC1
      rw [hx1] at hEB1 hEN1
      have HIE1 := Lib.hid (size_ent hEB1.1)
      have HZE1 : Hid ((EC En.E.zero).size = (EC x).size) := Lib.hid (by rw [EC_size, EC_size, hEB1.1]; rfl)
      have HOE1 := Lib.hid (EC_one x)
      have HEBN1 := Lib.hid (And.intro hEB1 hEN1)
      have HX1 := Lib.hid (And.intro hx1 hrb1)
      have HFC1 : Hid (∀ (W : World) (b : Nat), W.heap[b]? = some (.cells (fndC f) 70 (0, 0)) → W.cell? ⟨b, 0, none⟩ = some (.int .i64 f.zone) ∧ W.cell? ⟨b, 1, none⟩ = some (.int .i64 f.off) ∧ W.cell? ⟨b, 6, none⟩ = some (.int .i64 f.fr.seq)) := Lib.hid (fun W b hh => ⟨(fnd_cells hh).1, (fnd_cells hh).2.1, (fnd_cells hh).2.2.2.2.2⟩)
      have HEC1 : Hid (∀ (W : World) (b : Nat), W.heap[b]? = some (.cells (EC x) 65 (0, 0)) → W.cell? ⟨b, 5, none⟩ = some (.int .i64 x.mate)) := Lib.hid (fun W b hh => (ent_cells hh).2.2.2.2.2)
      have HKF1 := Lib.hid hf
      obtain ⟨CF, hCF1⟩ : ∃ C, fndC f = C := ⟨_, rfl⟩
      obtain ⟨CE, hCE1⟩ : ∃ C, EC x = C := ⟨_, rfl⟩

      rw [hCF1] at HGF HIF1 HIL1 HZF1 HOF1 HRC1 HFC1
      rw [hCE1] at HRC1 HIE1 HZE1 HOE1 HEC1
      have HCE1 := Lib.hid hCE1
      obtain ⟨FZ, hFZ⟩ : ∃ Z, fndC fnd0 = Z := ⟨_, rfl⟩
      rw [hFZ] at hzf HZF1
      obtain ⟨EZ, hEZ⟩ : ∃ Z, EC En.E.zero = Z := ⟨_, rfl⟩
      rw [hEZ] at hz65 HZE1
      obtain ⟨W1, hW1⟩ : ∃ W, wr.alloc (.cells CF 70) = W := ⟨_, rfl⟩
      have hb1 : Below wr.heap.size wr W1 := by rw [← hW1]; exact (Below.refl _ _).alloc (Nat.le_refl _) _
      have hf1 : W1.heap[wr.heap.size]? = some (.cells CF 70 (0, 0)) := by rw [← hW1]; exact heap_alloc_new wr _
      have zf1 : wr.heap.size < W1.heap.size := (Array.getElem?_eq_some_iff.1 hf1).1
      have HF1 := Lib.hid hf1
      have HBB1 := Lib.hid (HBR.out.trans (hb1.mono zr))
      have HX1' := Lib.hid ((HBB1.out.block w.heap.size zg0).trans HG0.out)
      have HW1 := Lib.hid hW1
      have zx1 : w.heap.size < W1.heap.size := by omega
      clear hf hq1 hEB1 hEN1 hx1 hrb1 hCF1 hCE1 hW1 hb1 hf1
      go_upto_region 4 with (first | (refine wpList_load_mid rfl 70 _ rfl ab (ao + i * 51) rfl CF.toList _ HGF.out Try.underlying70 rfl HIL1.out ?_) | (refine wpList_store_row rfl 70 _ _ rfl wr.heap.size CF rfl rfl 70 FZ (heap_alloc_new wr _) HIF1.out HZF1.out HOF1.out ?_; rw [World.setRow_alloc_new]))
      rw [HW1.out]
      try rw [put_none]
      obtain ⟨E, hE⟩ : ∃ E, wr.heap.size = E := ⟨_, rfl⟩
      rw [hE] at HF1 zf1 zr ⊢
      clear hE
      go_wp2_with (refine wpList_load_row rfl 23 _ rfl w.heap.size rfl 23 _ _ _ HX1'.out Try.underlying23 rfl HGI.out ?_; go_wp2_with (refine wpList_load_row rfl 70 _ rfl E rfl 70 _ _ _ HF1.out Try.underlying70 rfl HIF1.out ?_))
      refine (HRC1.out _).mono ?_
      rintro e3 w3 ⟨rfl, hB3⟩
      have z3 := hB3.size
      obtain ⟨W2, hW2⟩ : ∃ W, w3.alloc (.cells CE 65) = W := ⟨_, rfl⟩
      have hb2 : Below W1.heap.size W1 W2 := by rw [← hW2]; exact hB3.alloc z3 _
      have he2 : W2.heap[w3.heap.size]? = some (.cells CE 65 (0, 0)) := by rw [← hW2]; exact heap_alloc_new w3 _
      have HE2 := Lib.hid he2
      have zE2 : w3.heap.size < W2.heap.size := (Array.getElem?_eq_some_iff.1 he2).1
      have HF2 := Lib.hid ((hb2.block E zf1).trans HF1.out)
      have HG2 := Lib.hid ((hb2.block w.heap.size zx1).trans HX1'.out)
      have HB2 := Lib.hid (HBB1.out.trans (hb2.mono (by omega)))
      have zF2 : E < W2.heap.size := by omega
      have zX2 : w.heap.size < W2.heap.size := by omega
      have HW2 := Lib.hid hW2
      clear hB3 hW2 hb2 he2
      go_upto_region 7 with (refine wpList_store_row rfl 65 _ _ rfl w3.heap.size CE rfl rfl 65 EZ (heap_alloc_new w3 _) HIE1.out HZE1.out HOE1.out ?_; rw [World.setRow_alloc_new])
      rw [HW2.out]
      try rw [put_none]
      obtain ⟨E1, hE1⟩ : ∃ E, w3.heap.size = E := ⟨_, rfl⟩
      rw [hE1] at HE2 zE2 z3 ⊢
      clear hE1
      go_loopw [33, 11] (fun u n wr => ∃ k m : Nat, k ≤ n2 ∧ u = .int .i64 k ∧ n = .int .i64 m ∧ Below W2.heap.size W2 wr ∧ InI g epoch l2 i f (recE g epoch f) k m) (fun u _ _ => n2 - (intOf u).toNat)
      case atStart => exact ⟨0, 0, Nat.zero_le _, rfl, rfl, Below.refl _ _, InI.zero _ _ _ _ _ _⟩
      case round =>
        obtain ⟨k, m, hk, rfl, rfl, hBi, hin⟩ := hrel
        have zi := hBi.size
        have HBI := Lib.hid hBi
        have HIN := Lib.hid hin
        clear hBi hin
        by_cases hlt2 : k < n2
        · obtain ⟨h, hh⟩ : ∃ h, l2[k]? = some h := ⟨_, List.getElem?_eq_getElem (by rw [HN2.out]; exact hlt2)⟩
          have HGH := Lib.hid (Rl2.rowOf_range (HI0.out.below (HB2.out.trans (HBI.out.mono (by omega)))) kinFnd.size hh)
          have hq2 := HI2.out.all h (List.mem_of_getElem? hh)
          have HIF2 := Lib.hid (size_fnd hq2)
          have HIL2 : Hid ((Try.prog.info? 70).map (·.size) = some (fndC h).toList.length) := Lib.hid (size_fnd hq2)
          have HZF2 : Hid ((fndC fnd0).size = (fndC h).size) := Lib.hid (by rw [kinFnd.size h hq2]; rfl)
          have HOF2 := Lib.hid (kinFnd.one h hq2)
          obtain ⟨hEB2, hEN2⟩ := recE_numP g epoch hq2
          have HRC2 := Lib.hid (fun W => HRC.out h W hq2)
          obtain ⟨y, hx2⟩ : ∃ x, (recE g epoch h).getD En.E.zero = x := ⟨_, rfl⟩
          obtain ⟨rh, hrb2⟩ : ∃ b, (recE g epoch h).isSome = b := ⟨_, rfl⟩
          rw [hx2, hrb2] at HRC2
          rw [hx2] at hEB2 hEN2
          have HIE2 := Lib.hid (size_ent hEB2.1)
          have HZE2 : Hid ((EC En.E.zero).size = (EC y).size) := Lib.hid (by rw [EC_size, EC_size, hEB2.1]; rfl)
          have HOE2 := Lib.hid (EC_one y)
          have HEBN2 := Lib.hid (And.intro hEB2 hEN2)
          have HX2 := Lib.hid (And.intro hx2 hrb2)
          have HFC2 : Hid (∀ (W : World) (b : Nat), W.heap[b]? = some (.cells (fndC h) 70 (0, 0)) → W.cell? ⟨b, 0, none⟩ = some (.int .i64 h.zone) ∧ W.cell? ⟨b, 1, none⟩ = some (.int .i64 h.off) ∧ W.cell? ⟨b, 6, none⟩ = some (.int .i64 h.fr.seq)) := Lib.hid (fun W b hh => ⟨(fnd_cells hh).1, (fnd_cells hh).2.1, (fnd_cells hh).2.2.2.2.2⟩)
          have HEC2 : Hid (∀ (W : World) (b : Nat), W.heap[b]? = some (.cells (EC y) 65 (0, 0)) → W.cell? ⟨b, 5, none⟩ = some (.int .i64 y.mate)) := Lib.hid (fun W b hh => (ent_cells hh).2.2.2.2.2)
          have HKF2 := Lib.hid hh
          obtain ⟨CH, hCF2⟩ : ∃ C, fndC h = C := ⟨_, rfl⟩
          obtain ⟨CY, hCE2⟩ : ∃ C, EC y = C := ⟨_, rfl⟩

          rw [hCF2] at HGH HIF2 HIL2 HZF2 HOF2 HRC2 HFC2
          rw [hFZ] at HZF2
          rw [hCE2] at HRC2 HIE2 HZE2 HOE2 HEC2
          rw [hEZ] at HZE2
          have HCE2 := Lib.hid hCE2
          obtain ⟨W3, hW3⟩ : ∃ W, wr.alloc (.cells CH 70) = W := ⟨_, rfl⟩
          have hb3 : Below wr.heap.size wr W3 := by rw [← hW3]; exact (Below.refl _ _).alloc (Nat.le_refl _) _
          have hf3 : W3.heap[wr.heap.size]? = some (.cells CH 70 (0, 0)) := by rw [← hW3]; exact heap_alloc_new wr _
          have zf3 : wr.heap.size < W3.heap.size := (Array.getElem?_eq_some_iff.1 hf3).1
          have HF3 := Lib.hid hf3
          have HBB3 := Lib.hid (HBI.out.trans (hb3.mono zi))
          have HG3 := Lib.hid ((HBB3.out.block w.heap.size zX2).trans HG2.out)
          have HA3 := Lib.hid ((HBB3.out.block E zF2).trans HF2.out)
          have HE3 := Lib.hid ((HBB3.out.block E1 zE2).trans HE2.out)
          have HW3 := Lib.hid hW3
          have zx3 : w.heap.size < W3.heap.size := by omega
          have za3 : E < W3.heap.size := by omega
          have ze3 : E1 < W3.heap.size := by omega
          clear hh hq2 hEB2 hEN2 hx2 hrb2 hCF2 hCE2 hW3 hb3 hf3
          go_upto_region 9 with (first | (refine wpList_load_mid rfl 70 _ rfl ab (ao + k * 51) rfl CH.toList _ HGH.out Try.underlying70 rfl HIL2.out ?_) | (refine wpList_store_row rfl 70 _ _ rfl wr.heap.size CH rfl rfl 70 FZ (heap_alloc_new wr _) HIF2.out HZF2.out HOF2.out ?_; rw [World.setRow_alloc_new]))
          rw [HW3.out]
          try rw [put_none]
          obtain ⟨F, hF⟩ : ∃ F, wr.heap.size = F := ⟨_, rfl⟩
          rw [hF] at HF3 zf3 zi ⊢
          clear hF
          go_wp2_with (refine wpList_load_row rfl 23 _ rfl w.heap.size rfl 23 _ _ _ HG3.out Try.underlying23 rfl HGI.out ?_; go_wp2_with (refine wpList_load_row rfl 70 _ rfl F rfl 70 _ _ _ HF3.out Try.underlying70 rfl HIF2.out ?_))
          refine (HRC2.out _).mono ?_
          rintro e5 w5 ⟨rfl, hB5⟩
          have z5 := hB5.size
          obtain ⟨W4, hW4⟩ : ∃ W, w5.alloc (.cells CY 65) = W := ⟨_, rfl⟩
          have hb4 : Below W3.heap.size W3 W4 := by rw [← hW4]; exact hB5.alloc z5 _
          have he4 : W4.heap[w5.heap.size]? = some (.cells CY 65 (0, 0)) := by rw [← hW4]; exact heap_alloc_new w5 _
          have zE4 : w5.heap.size < W4.heap.size := (Array.getElem?_eq_some_iff.1 he4).1
          have HY4 := Lib.hid he4
          have HF4 := Lib.hid ((hb4.block F zf3).trans HF3.out)
          have HA4 := Lib.hid ((hb4.block E za3).trans HA3.out)
          have HE4 := Lib.hid ((hb4.block E1 ze3).trans HE3.out)
          have HB4 := Lib.hid (HBB3.out.trans (hb4.mono (by omega)))
          have zF4 : F < w5.heap.size := by omega
          have zA4 : E < w5.heap.size := by omega
          have zX4 : E1 < w5.heap.size := by omega
          have HW4 := Lib.hid hW4
          clear hB5 hW4 hb4 he4
          go_upto_region 10 with (refine wpList_store_row rfl 65 _ _ rfl w5.heap.size CY rfl rfl 65 EZ (heap_alloc_new w5 _) HIE2.out HZE2.out HOE2.out ?_; rw [World.setRow_alloc_new])
          rw [HW4.out]
          try rw [put_none]
          have zi2 : W2.heap.size ≤ w5.heap.size := by omega
          obtain ⟨Y, hY⟩ : ∃ E, w5.heap.size = E := ⟨_, rfl⟩
          rw [hY] at HY4 zE4 zF4 zA4 zX4 zi2 z5 ⊢
          clear hY
          have x1 := (HFC1.out W4 E HA4.out)
          have x2 := (HFC2.out W4 F HF4.out)
          have x3 := (HEC1.out W4 E1 HE4.out)
          have x4 := (HEC2.out W4 Y HY4.out)
          obtain ⟨fs, hfs⟩ : ∃ z, f.fr.seq = z := ⟨_, rfl⟩
          obtain ⟨hs, hhs⟩ : ∃ z, h.fr.seq = z := ⟨_, rfl⟩
          obtain ⟨fz, hfz⟩ : ∃ z, f.zone = z := ⟨_, rfl⟩
          obtain ⟨hz, hhz⟩ : ∃ z, h.zone = z := ⟨_, rfl⟩
          obtain ⟨fo, hfo⟩ : ∃ z, f.off = z := ⟨_, rfl⟩
          obtain ⟨ho, hho⟩ : ∃ z, h.off = z := ⟨_, rfl⟩
          obtain ⟨xm, hxm⟩ : ∃ z, x.mate = z := ⟨_, rfl⟩
          obtain ⟨ym, hym⟩ : ∃ z, y.mate = z := ⟨_, rfl⟩
          rw [hfs, hfz, hfo] at x1
          rw [hhs, hhz, hho] at x2
          rw [hxm] at x3
          rw [hym] at x4
          have HNM := Lib.hid (And.intro (And.intro (And.intro hfs hhs) (And.intro hfz hhz)) (And.intro (And.intro hfo hho) (And.intro hxm hym)))
          obtain ⟨x1a, x1b, x1c⟩ := x1
          obtain ⟨x2a, x2b, x2c⟩ := x2
          clear hfs hhs hfz hhz hfo hho hxm hym
          have hcase : rb = false ∨ (rb = true ∧ rh = false) ∨ (rb = true ∧ rh = true ∧ i = k) ∨ (rb = true ∧ rh = true ∧ i ≠ k ∧ (hs != fs) = true) ∨ (rb = true ∧ rh = true ∧ i ≠ k ∧ (hs != fs) = false) := by
            cases rb
            · exact .inl rfl
            · cases rh
              · exact .inr (.inl ⟨rfl, rfl⟩)
              · by_cases h1 : i = k
                · exact .inr (.inr (.inl ⟨rfl, rfl, h1⟩))
                · cases h2 : (hs != fs)
                  · exact .inr (.inr (.inr (.inr ⟨rfl, rfl, h1, rfl⟩)))
                  · exact .inr (.inr (.inr (.inl ⟨rfl, rfl, h1, rfl⟩)))
          have HDONE : Hid ((rb = false ∨ rh = false ∨ i = k ∨ (hs != fs) = true) → InI g epoch l2 i f (recE g epoch f) (k + 1) m) := Lib.hid (fun hd => HIN.out.skip HKF2.out (by
            obtain ⟨⟨⟨e1, e2⟩, -⟩, -⟩ := HNM.out
            rw [HX1.out.2, HX2.out.2, e1, e2]
            rcases hd with e | e | e | e
            · exact .inl e
            · exact .inr (.inl e)
            · exact .inr (.inr (.inl e))
            · exact .inr (.inr (.inr (by simpa using e)))))
          rcases hcase with rfl | ⟨rfl, rfl⟩ | ⟨rfl, rfl, rfl⟩ | ⟨rfl, rfl, hik, t1⟩ | ⟨rfl, rfl, hik, t1⟩
          · go_wp2
            exact ⟨⟨k + 1, m, by omega, by go_num, rfl, HB4.out, HDONE.out (.inl rfl)⟩, by simp [intOf]; omega⟩
          · go_wp2
            exact ⟨⟨k + 1, m, by omega, by go_num, rfl, HB4.out, HDONE.out (.inr (.inl rfl))⟩, by simp [intOf]; omega⟩
          · go_wp2
            exact ⟨⟨i + 1, m, by omega, by go_num, rfl, HB4.out, HDONE.out (.inr (.inr (.inl rfl)))⟩, by simp [intOf]; omega⟩
          · have t2 : ((i : Int) == (k : Int)) = false := by simp; omega
            have t1' := Lib.hid t1
            go_wp2
            exact ⟨⟨k + 1, m, by omega, by go_num, rfl, HB4.out, HDONE.out (.inr (.inr (.inr t1'.out)))⟩, by simp [intOf]; omega⟩
          · have t2 : ((i : Int) == (k : Int)) = false := by simp; omega
            have T1 := Lib.hid t1
            go_upto_region 11 with (fail)
            clear t1 t2
            -- the pair
            obtain ⟨q, hq⟩ : ∃ q, ((xm == hz) && ((ym == fz) && (fo == ho))) = q := ⟨_, rfl⟩
            have HQ := Lib.hid hq
            have hc5 : ((xm == hz) = false ∧ q = false) ∨ ((xm == hz) = true ∧ (ym == fz) = false ∧ q = false) ∨ ((xm == hz) = true ∧ (ym == fz) = true ∧ (fo == ho) = false ∧ q = false) ∨ ((xm == hz) = true ∧ (ym == fz) = true ∧ (fo == ho) = true ∧ q = true) := by
              rw [← hq]
              cases (xm == hz) <;> cases (ym == fz) <;> cases (fo == ho) <;> simp
            clear hq
            obtain ⟨W5, hW5⟩ : ∃ W, W4.setCell ⟨Y, 5, none⟩ (.int .i64 xm) = W := ⟨_, rfl⟩
            have hO5 : Only [Y] W4 W5 := by rw [← hW5]; exact (Only.refl _ _).setCell (.inl (by simp)) _
            have HB5 := Lib.hid (HB4.out.trans (hO5.below (by simp; omega) HB4.out.size))
            have hy5 : W5.heap[Y]? = some (.cells (CY.setIfInBounds 5 (.int .i64 xm)) 65 (0, 0)) := by rw [← hW5]; exact heap_setCell_same _ _ _ _ _ _ HY4.out
            obtain ⟨CZ, hCZ⟩ : ∃ C, EC { y with mate := xm } = C := ⟨_, rfl⟩
            have hcz : CY.setIfInBounds 5 (.int .i64 xm) = CZ := by rw [← HCE2.out, ← hCZ]; exact EC_setMate y xm
            rw [hcz] at hy5
            have HY5 := Lib.hid hy5
            have HE5 := Lib.hid ((hO5.block E1 (by omega) (by simp; omega)).trans HE4.out)
            obtain ⟨r, hr⟩ : ∃ r : Bool, r = true ↔ { y with mate := xm } = x := by
              by_cases he : ({ y with mate := xm } : En.E) = x
              · exact ⟨true, ⟨fun _ => he, fun _ => rfl⟩⟩
              · exact ⟨false, ⟨fun h => (by cases h), fun h => (he h).elim⟩⟩
            have HR := Lib.hid hr
            have HEQ : Hid (∀ w, (Op.equalIn 10000 65 (.agg CZ) (.agg CE)).run Try.prog w = .ok r w) := Lib.hid (fun w => by
              rw [← hCZ, ← HCE1.out]
              have hxm := HNM.out.2.2.1
              exact eq_ent { y with mate := xm } x ⟨HEBN2.out.1.1, HEBN2.out.1.2⟩ HEBN1.out.1 ⟨HEBN2.out.2.1, HEBN2.out.2.2.1, HEBN2.out.2.2.2.1, HEBN2.out.2.2.2.2.1, HEBN2.out.2.2.2.2.2.1, by rw [← hxm]; exact HEBN1.out.2.2.2.2.2.2⟩ HEBN1.out.2 r hr w)
            have HIZ : Hid (((Try.prog.info? 65).map (·.size)) = some CZ.size) := Lib.hid (by rw [← hcz, Array.size_setIfInBounds]; exact HIE2.out)
            have HW5 := Lib.hid hW5
            clear hW5 hO5 hy5 hcz hCZ hr
            have x5 : W4.frozen? ⟨Y, 5, none⟩ = false := by simp [World.frozen?, HY4.out]
            rcases hc5 with ⟨t1, rfl⟩ | ⟨t1, t2, rfl⟩ | ⟨t1, t2, t3, rfl⟩ | ⟨t1, t2, t3, rfl⟩
            all_goals
              go_upto_region 12 with (fail)
              go_upto_region 13 with (fail)
              rw [HW5.out]
              try rw [put_none]
              have h2 := HIN.out.two
              clear x1a x1b x1c x2a x2b x2c x3 x4 x5
              have HBF := Lib.hid (HB0.out.trans ((HB2.out.trans (HB5.out.mono HB2.out.size)).mono HB0.out.size))
              obtain rfl | rfl : m = 0 ∨ m = 1 := by omega
              · cases r
                · go_wp2_with (refine wpList_row_on (by rfl) 65 _ (by rfl) Y (by rfl) 65 _ _ _ HY5.out Try.underlying65 rfl HIZ.out ?_; go_wp2_with (refine wpList_row_on (by rfl) 65 _ (by rfl) E1 (by rfl) 65 _ _ _ HE5.out Try.underlying65 rfl HIE1.out ?_; go_wp2_with (refine wpList_neq_on (by rfl) 65 65 _ _ (by rfl) CZ CE (by rfl) (by rfl) (by kernel_rfl) _ HEQ.out ?_; simp only [Bool.not_true, Bool.not_false])))
                  go_ret
                  exact ⟨.inl rfl, HBF.out⟩
                · go_wp2_with (refine wpList_row_on (by rfl) 65 _ (by rfl) Y (by rfl) 65 _ _ _ HY5.out Try.underlying65 rfl HIZ.out ?_; go_wp2_with (refine wpList_row_on (by rfl) 65 _ (by rfl) E1 (by rfl) 65 _ _ _ HE5.out Try.underlying65 rfl HIE1.out ?_; go_wp2_with (refine wpList_neq_on (by rfl) 65 65 _ _ (by rfl) CZ CE (by rfl) (by rfl) (by kernel_rfl) _ HEQ.out ?_; simp only [Bool.not_true, Bool.not_false])))
                  first
                  | (go_ret; exact ⟨.inl rfl, HBF.out⟩)
                  | exact ⟨⟨k + 1, 1, by omega, by go_num, rfl, HB5.out, HIN.out.hit HKF2.out (by
                      obtain ⟨⟨-, e3, e4⟩, ⟨e5, e6⟩, e7, e8⟩ := HNM.out
                      unfold recOf
                      rw [HX1.out.1, HX2.out.1]
                      have hq := HQ.out
                      simp only [Bool.and_eq_true, beq_iff_eq] at hq
                      have hr := HR.out.1 rfl
                      rw [← e7] at hr
                      exact ⟨noMate_of_set hr, by rw [e7, e4]; exact hq.1, by rw [e8, e3]; exact hq.2.1, by rw [e5, e6]; exact hq.2.2⟩)⟩, by simp [intOf]; omega⟩
              · go_wp2
                go_ret
                exact ⟨.inl rfl, HBF.out⟩
        · have hkn : k = n2 := by omega
          subst hkn
          have HBW := Lib.hid (HB2.out.trans (HBI.out.mono HB2.out.size))
          have HPN : Hid (PlainOk g epoch l2 (i + 1)) := Lib.hid (fun i' f' hi' hf' => by
            by_cases he : i' = i
            · subst he
              rw [HKF1.out] at hf'
              cases hf'
              exact ⟨m, by rw [HN2.out]; exact HIN.out⟩
            · exact HOK.out i' f' (by omega) hf')
          go_wp2
          exact ⟨⟨i + 1, by omega, by go_num, HBW.out, HPN.out⟩, by simp [intOf]; omega⟩
    · have hin : i = n2 := by omega
      subst hin
      go_wp2
      go_ret
      exact ⟨.inr ⟨rfl, HOK.out⟩, HB0.out.trans (HBR.out.mono HB0.out.size)⟩
end Go.Proofs.Ytoiephmngdecaaa
namespace Go.Proofs.Ytoiephmngdecaaa
open Go.RowKit Go.Rv Rl Frm
set_option linter.unusedVariables false
attribute [local go_sem] Oper.semAt_some
namespace Rl
theorem order_law (g : Geo.G) (epoch next : Int) (l : List Fnd) (es : List BE) (R R' : List (Int × Rec)) (hp : PlainOk g epoch l l.length) (hR : recs g epoch next l = R) (hR' : recs g epoch next l.reverse = R') :
    runLen R' next = runLen R next ∧ StS (runSt g es next R) (runSt g es next R') := by
  rw [recs_reverse, hR] at hR'
  have h1 := plain_twos hp next
  rw [hR] at h1
  subst hR'
  refine ⟨runLen_rev R next, ?_⟩
  unfold runSt
  rw [runLen_rev]
  exact after_rev g h1 next _ _ (Nat.le_refl _)
theorem take_rev {α : Type} {l : List α} {j k : Nat} {x : α} (hn : l.length = j + 1 + k) (h : l[j]? = some x) : l.reverse.take (k + 1) = l.reverse.take k ++ [x] := by
  rw [List.take_add_one, List.getElem?_reverse (by omega), show l.length - 1 - k = j from by omega, h]
  rfl
end Rl
theorem callsIn_roundO {P : Program} {rr n : Nat} {f : FuncId} {args : Array Value} {w : World} {R : Ending → World → Prop} (h : Calls P f args w R) : CallsIn (Fence.wide.inRound rr) n P f args w R := (callsIn_wide (n := n)).2 h
theorem be_cells {w : World} {b : Nat} {e : BE} {t : TypeId} (h : w.heap[b]? = some (.cells (BEC e) t (0, 0))) : w.cell? ⟨b, 0, none⟩ = some (.int .i64 e.st) ∧ w.cell? ⟨b, 1, none⟩ = some (.int .i64 e.z) ∧ w.cell? ⟨b, 2, none⟩ = some (.int .i64 e.m) ∧ w.cell? ⟨b, 4, none⟩ = some (.int .i64 e.q) ∧ w.cell? ⟨b, 5, none⟩ = some (.int .i64 e.s) := by
  refine ⟨?_, ?_, ?_, ?_, ?_⟩ <;> simp [World.cell?, h, BEC]
set_option maxRecDepth 100000 in
set_option maxHeartbeats 32000000 in
theorem roll_order_walk (w : World) (g : Geo.G) (a1 : Option Addr) (l1 : List (Int × BE)) (c1 : Nat) (epoch next : Int) (a2 : Option Addr) (l2 : List Fnd) (c2 : Nat) (hI1 : RowOf w 7 opC Op64 a1 l1) (hI2 : RowOf w 51 fndC FndQ a2 l2) :
    Calls Try.prog 7 #[.agg (GC g), .slice a1 l1.length c1, .int .i64 epoch, .int .i64 next, .slice a2 l2.length c2] w fun e w' => e = .returned (.bool true) ∧ Below w.heap.size w w' := by
  have HPL : Hid (∀ W, RowOf W 51 fndC FndQ a2 l2 → l2.length ≤ 1000 → Calls Try.prog 20 #[.agg (GC g), .int .i64 epoch, .slice a2 l2.length c2] W fun e w' => (e = .returned (.bool false) ∨ (e = .returned (.bool true) ∧ PlainOk g epoch l2 l2.length)) ∧ Below W.heap.size W w') := Lib.hid (fun W h hn => plain_any W g epoch a2 l2 c2 h hn)
  have HA := Lib.hid (fun (W : World) => roll_anchor W)
  have HGI := Lib.hid (gsize (g := g))
  have HMA : Hid (∀ W, Below w.heap.size w W → Calls Try.prog 10 #[.agg (GC g), .slice a1 l1.length c1, .int .i64 epoch, .int .i64 next] W (MadePost17 W g l1 epoch next)) := Lib.hid (fun W hW => made17_any g a1 l1 c1 epoch next W (hI1.below hW))
  have HNW := Lib.hid (fun (W : World) => new_any W)
  have hzs := (zero_of_info Try.infoSnz).1
  have hzf := (zero_of_info Try.infoFnd).1
  have hzr := (zero_of_info Try.infoRes).1
  have HI2 := Lib.hid hI2
  obtain ⟨W0, hW0⟩ : ∃ W, (w.alloc (.cells (GC g) 23)).alloc (.cells #[.bool false] 4) = W := ⟨_, rfl⟩
  have hb0 : Below w.heap.size w W0 := by rw [← hW0]; exact ((Below.refl _ _).alloc (Nat.le_refl _) _).alloc (by simp) _
  have hg0 : W0.heap[w.heap.size]? = some (.cells (GC g) 23 (0, 0)) := by rw [← hW0]; exact heap_alloc2_old w _ _
  have hc0 : W0.heap[w.heap.size + 1]? = some (.cells #[.bool false] 4 (0, 0)) := by rw [← hW0]; exact heap_alloc2_new w _ _
  have zg0 : w.heap.size + 1 < W0.heap.size := (Array.getElem?_eq_some_iff.1 hc0).1
  have HC0 := Lib.hid hc0
  have HW0 := Lib.hid hW0
  have HG0 := Lib.hid hg0
  have HB0 := Lib.hid hb0
  obtain ⟨GX, hGX⟩ : ∃ X, GC g = X := ⟨_, rfl⟩
  rw [hGX] at HGI HPL HMA HW0 HG0 ⊢
  have HGX := Lib.hid hGX
  obtain ⟨TV, hTV⟩ : ∃ T, Tb.tabV = T := ⟨_, rfl⟩
  rw [hTV] at HNW
  have HTV := Lib.hid hTV
  obtain ⟨n1, hn1⟩ : ∃ n, l1.length = n := ⟨_, rfl⟩
  rw [hn1] at HMA ⊢
  obtain ⟨n2, hn2⟩ : ∃ n, l2.length = n := ⟨_, rfl⟩
  rw [hn2]
  have HN2 := Lib.hid hn2
  rw [hn2] at HPL
  obtain ⟨XZ, hXZ⟩ : ∃ X, SZ = X := ⟨_, rfl⟩
  rw [hXZ] at hzs
  have HXZ := Lib.hid hXZ
  clear hI1 hI2 hW0 hb0 hg0 hc0 hGX hTV hn1 hn2 hXZ
  refine calls_of_marks Try.func7 rfl ?_
  simp only [Try.ntmps7, List.size_toArray, List.length_cons, List.length_nil, Nat.reduceAdd, Nat.reduceSub, Array.replicate_succ, Array.replicate_zero, List.push_toArray, List.append_toArray, List.nil_append, List.cons_append]
  go_upto_region 1 with (fail)
  rw [HW0.out]
  go_wp2_with fail
  refine (HA.out _).mono ?_
  rintro e1 w1 ⟨rfl, hB1⟩
  have z1 := hB1.size
  have HG1 := Lib.hid ((hB1.block w.heap.size (by omega)).trans HG0.out)
  have HC1 := Lib.hid ((hB1.block (w.heap.size + 1) zg0).trans HC0.out)
  have HB1 := Lib.hid (HB0.out.trans (hB1.mono HB0.out.size))
  clear hB1
  go_wp2_with (refine wpList_load_row rfl 23 _ rfl w.heap.size rfl 23 _ _ _ HG1.out Try.underlying23 rfl HGI.out ?_)
  refine (HMA.out _ HB1.out).mono ?_
  rintro e3 w3 ⟨S1, v3, ok, rfl, ⟨hS1, hS2, hS3⟩, hB3, hmade⟩
  have z3 := hB3.size
  have HS1 := Lib.hid hS1
  have HS2 := Lib.hid hS2
  rw [HXZ.out] at hS3
  have HS3 := Lib.hid hS3
  have HB3 := Lib.hid (HB1.out.trans (hB3.mono HB1.out.size))
  obtain ⟨W4, hW4⟩ : ∃ W, w3.alloc (.cells S1 29) = W := ⟨_, rfl⟩
  have hb4 : Below w3.heap.size w3 W4 := by rw [← hW4]; exact (Below.refl _ _).alloc (Nat.le_refl _) _
  have hs4 : W4.heap[w3.heap.size]? = some (.cells S1 29 (0, 0)) := by rw [← hW4]; exact heap_alloc_new w3 _
  have zs4 : w3.heap.size < W4.heap.size := (Array.getElem?_eq_some_iff.1 hs4).1
  have HS4 := Lib.hid hs4
  have HB4 := Lib.hid (HB3.out.trans (hb4.mono HB3.out.size))
  have HC4 := Lib.hid ((hb4.block (w.heap.size + 1) (by omega)).trans ((hB3.block (w.heap.size + 1) (by omega)).trans HC1.out))
  have HG4 := Lib.hid ((hb4.block w.heap.size (by omega)).trans ((hB3.block w.heap.size (by omega)).trans HG1.out))
  have HI4 := Lib.hid (HI2.out.below HB4.out)
  have HW4 := Lib.hid hW4
  have HMD := Lib.hid hmade
  have HK4 := Lib.hid hb4
  clear hB3 hS1 hS2 hS3 hb4 hs4 hW4 hmade
  go_upto_region 4 with (refine wpList_store_row rfl 29 _ _ rfl w3.heap.size S1 rfl rfl 29 XZ (heap_alloc_new w3 _) HS1.out HS3.out HS2.out ?_; rw [World.setRow_alloc_new])
  rw [HW4.out]
  try rw [put_none]
  obtain ⟨bs, hbs⟩ : ∃ b, w3.heap.size = b := ⟨_, rfl⟩
  have HBS := Lib.hid hbs
  rw [hbs] at HS4 zs4 ⊢
  clear hbs
  rcases HMD.out with ⟨rfl, -, -⟩ | ⟨hok, hgr, p, le, ll, rfl, hbm, hmo, -, -⟩
  · clear zs4
    have hcr := cell_of_one HC4.out
    have hfr := free_of_one HC4.out
    go_wp2
    refine leave_marks (v := .bool true) [] _ (by simp) (by simp) ?_
    intro W' hO'
    have hr' := hO'.get (one_setCell HC4.out) (by simp)
    have hc' := cell_of_one hr'
    refine ⟨by simp [results, Try.results7, go_sem, hc'], rfl, ?_⟩
    have h2 : Only [w.heap.size + 1] W4 (W4.setCell ⟨w.heap.size + 1, 0, none⟩ (.bool true)) := (Only.refl _ _).setCell (.inl (by simp)) _
    have h3 : Below w.heap.size w (W4.setCell ⟨w.heap.size + 1, 0, none⟩ (.bool true)) := HB4.out.trans (h2.below (by simp) HB4.out.size)
    exact h3.trans (hO'.below (by simp) h3.size)
  cases hrt : Sn.right 1 epoch next (madeEs g l1)
  · rw [hrt] at hok
    subst hok
    clear hgr hbm hmo hrt
    have hcr := cell_of_one HC4.out
    have hfr := free_of_one HC4.out
    go_wp2
    refine leave_marks (v := .bool true) [] _ (by simp) (by simp) ?_
    intro W' hO'
    have hr' := hO'.get (one_setCell HC4.out) (by simp)
    have hc' := cell_of_one hr'
    refine ⟨by simp [results, Try.results7, go_sem, hc'], rfl, ?_⟩
    have h2 : Only [w.heap.size + 1] W4 (W4.setCell ⟨w.heap.size + 1, 0, none⟩ (.bool true)) := (Only.refl _ _).setCell (.inl (by simp)) _
    have h3 : Below w.heap.size w (W4.setCell ⟨w.heap.size + 1, 0, none⟩ (.bool true)) := HB4.out.trans (h2.below (by simp) HB4.out.size)
    exact h3.trans (hO'.below (by simp) h3.size)
  rw [hrt] at hok
  subst hok
  have HBM4 := Lib.hid (hbm.below (HK4.out))
  have HOK := Lib.hid hmo
  have HGR := Lib.hid hgr
  have HRT := Lib.hid hrt
  clear hgr hbm hmo hrt HMD
  by_cases hbig : 40 < n2
  · have t1 : decide (40 < n2) = true := decide_eq_true hbig
    have t2 : decide ((40 : Int) < (n2 : Int)) = true := decide_eq_true (by omega)
    have hcr := cell_of_one HC4.out
    have hfr := free_of_one HC4.out
    go_wp2
    refine leave_marks (v := .bool true) [] _ (by simp) (by simp) ?_
    intro W' hO'
    have hr' := hO'.get (one_setCell HC4.out) (by simp)
    have hc' := cell_of_one hr'
    refine ⟨by simp [results, Try.results7, go_sem, hc'], rfl, ?_⟩
    have h2 : Only [w.heap.size + 1] W4 (W4.setCell ⟨w.heap.size + 1, 0, none⟩ (.bool true)) := (Only.refl _ _).setCell (.inl (by simp)) _
    have h3 : Below w.heap.size w (W4.setCell ⟨w.heap.size + 1, 0, none⟩ (.bool true)) := HB4.out.trans (h2.below (by simp) HB4.out.size)
    exact h3.trans (hO'.below (by simp) h3.size)
  have t1 : decide (40 < n2) = false := decide_eq_false hbig
  have t2 : decide ((40 : Int) < (n2 : Int)) = false := decide_eq_false (by omega)
  go_wp2_with (refine wpList_row_on (by rfl) 23 _ (by rfl) w.heap.size (by rfl) 23 _ _ _ HG4.out Try.underlying23 rfl HGI.out ?_)
  refine (HPL.out _ HI4.out (by omega)).mono ?_
  rintro e5 w5 ⟨hb5, hB5⟩
  have z5 := hB5.size
  have HC5 := Lib.hid ((hB5.block (w.heap.size + 1) (Array.getElem?_eq_some_iff.1 HC4.out).1).trans HC4.out)
  have HB5 := Lib.hid (HB4.out.trans (hB5.mono HB4.out.size))
  clear t1 t2
  rcases hb5 with rfl | ⟨rfl, hpl⟩
  · clear zs4 hB5 z5
    have hcr := cell_of_one HC5.out
    have hfr := free_of_one HC5.out
    go_wp2
    refine leave_marks (v := .bool true) [] _ (by simp) (by simp) ?_
    intro W' hO'
    have hr' := hO'.get (one_setCell HC5.out) (by simp)
    have hc' := cell_of_one hr'
    refine ⟨by simp [results, Try.results7, go_sem, hc'], rfl, ?_⟩
    have h2 : Only [w.heap.size + 1] w5 (w5.setCell ⟨w.heap.size + 1, 0, none⟩ (.bool true)) := (Only.refl _ _).setCell (.inl (by simp)) _
    have h3 : Below w.heap.size w (w5.setCell ⟨w.heap.size + 1, 0, none⟩ (.bool true)) := HB5.out.trans (h2.below (by simp) HB5.out.size)
    exact h3.trans (hO'.below (by simp) h3.size)
  have HPO := Lib.hid hpl
  have HBM5 := Lib.hid (HBM4.out.below hB5)
  have HS5 := Lib.hid ((hB5.block bs zs4).trans HS4.out)
  have HI5 := Lib.hid (HI4.out.below hB5)
  obtain ⟨B, hB⟩ : ∃ B, w5.heap.size = B := ⟨_, rfl⟩
  have hsB : bs < B := by omega
  have hcB : w.heap.size + 1 < B := by have h1 := (Array.getElem?_eq_some_iff.1 HC5.out).1; omega
  have HB := Lib.hid hB
  clear hpl hB5 hB
  go_upto_region 6 with (fail)
  go_wp2
  go_loopw [14, 51] (fun x u wr => ∃ (k : Nat) (v : Value), k ≤ n2 ∧ u = .int .i64 k ∧ v = x ∧ OwnM wr 70 51 fndC FndQ B v (l2.reverse.take k) ∧ Below B w5 wr) (fun _ u _ => n2 - (intOf u).toNat)
  case atStart => exact ⟨0, _, Nat.zero_le _, rfl, rfl, OwnM.nil _ _ _ _ _ _, by rw [← HB.out]; exact Below.refl _ _⟩
  case round =>
    obtain ⟨k, v, hk, rfl, rfl, hown, hBr⟩ := hrel
    have zr := hBr.size
    rw [HB.out] at zr
    have HOW := Lib.hid hown
    have HBR := Lib.hid hBr
    clear hown hBr
    by_cases hlt : k < n2
    · obtain ⟨j, hj⟩ : ∃ j, n2 = j + 1 + k := ⟨n2 - 1 - k, by omega⟩
      obtain ⟨f, hf⟩ : ∃ f, l2[j]? = some f := ⟨_, List.getElem?_eq_getElem (by rw [HN2.out]; omega)⟩
      have hq := HI2.out.all f (List.mem_of_getElem? hf)
      obtain ⟨ab, ao, rfl, -, -, -⟩ := HI2.out.at hf
      have HGF := Lib.hid (Rl2.rowOf_range (HI5.out.below (by rw [HB.out]; exact HBR.out)) kinFnd.size hf)
      have HST := Lib.hid (take_rev (by rw [HN2.out]; exact hj) hf)
      have HIF1 := Lib.hid (size_fnd hq)
      have HIL1 : Hid ((Try.prog.info? 70).map (·.size) = some (fndC f).toList.length) := Lib.hid (size_fnd hq)
      have HLF : Hid ((l2.reverse.take k).length ≤ 1000) := Lib.hid (by rw [List.length_take]; omega)
      have HQ := Lib.hid hq
      obtain ⟨CF, hCF⟩ : ∃ C, fndC f = C := ⟨_, rfl⟩
      rw [hCF] at HGF HIF1 HIL1
      have HCF := Lib.hid hCF
      obtain ⟨W6, hW6⟩ : ∃ W, wr.alloc (.cells CF 70) = W := ⟨_, rfl⟩
      have hb6 : Below wr.heap.size wr W6 := by rw [← hW6]; exact (Below.refl _ _).alloc (Nat.le_refl _) _
      have hf6 : W6.heap[wr.heap.size]? = some (.cells CF 70 (0, 0)) := by rw [← hW6]; exact heap_alloc_new wr _
      have HR6 : Hid (RowOf W6 51 fndC FndQ (some ⟨wr.heap.size, 0, none⟩) [f]) := Lib.hid (one_rowOf (t := 70) (fr := (0, 0)) (by rw [HCF.out]; exact hf6) HQ.out)
      have HO6 := Lib.hid (HOW.out.below hb6)
      have hs6 : B ≤ W6.heap.size := by have h2 := hb6.size; omega
      have HB6 := Lib.hid (HBR.out.trans (hb6.mono zr))
      have HW6 := Lib.hid hW6
      have HJ := Lib.hid hj
      have tj : (n2 : Int) - 1 - (k : Int) = (j : Int) := by omega
      have tw : wrap64 ((n2 : Int) - 1) = (n2 : Int) - 1 := Go.IntWalk.wrap64_in _ (by omega)
      have tw2 : wrap64 ((n2 : Int) - 1 - (k : Int)) = (j : Int) := by rw [tj]; exact Go.IntWalk.wrap64_in _ (by omega)
      clear hf hq hCF hW6 hb6 hf6 hj
      go_upto_region 10 with (fail)
      go_wp2_with (first | (refine wpList_load_mid rfl 70 _ rfl ab (ao + j * 51) rfl CF.toList _ HGF.out Try.underlying70 rfl HIL1.out ?_) | (refine wpList_slice1f rfl (.tmp 62) rfl f HQ.out.2.2.1.1 CF HCF.out rfl ?_; rw [HW6.out]) | (at_builtin; refine wpList_appendM rfl (.tmp 54) (.tmp 63) 25 rfl 70 51 fndC FndQ kinFnd (by decide) (.agg (fndC fnd0)) 104 Try.underlying25 Try.infoFnd3 rfl B _ (l2.reverse.take k) rfl HO6.out (some ⟨wr.heap.size, 0, none⟩) 1 [f] (by rfl) HR6.out (by simp) (by have := HLF.out; unfold maxLen; simp at this ⊢; omega) (by have := HLF.out; simp at this ⊢; omega) hs6 ?_; intro v11 w11 hv11 hg11 _; have HV11 := Lib.hid hv11; have HB11 := Lib.hid (HB6.out.trans (HO6.out.grown hg11 hs6)); clear hv11 hg11))
      have hv := HV11.out
      rw [← HST.out] at hv
      first | exact ⟨⟨k + 1, _, by omega, by go_num, rfl, hv, HB11.out⟩, by simp [intOf]; omega⟩ | (refine ⟨⟨_, _, _, ⟨k + 1, by omega, ?_, hv, HB11.out⟩, rfl, rfl, rfl⟩, by simp [intOf]; omega⟩; go_num)
    · have hkn : k = n2 := by omega
      have hown := HOW.out
      rw [hkn, List.take_of_length_le (by rw [List.length_reverse, HN2.out]; exact Nat.le_refl _)] at hown
      obtain ⟨LL, hLL⟩ : ∃ L, l2.reverse = L := ⟨_, rfl⟩
      have hll : LL.length = n2 := by rw [← hLL, List.length_reverse, HN2.out]
      rw [hLL] at hown
      obtain ⟨a8, c8, rfl, hr8, -, -, -, -⟩ := hown.shape kinFnd
      rw [hll]
      have HN8 := Lib.hid hll
      have HLL := Lib.hid hLL
      have HR8 := Lib.hid hr8
      have hbw8 : Below w5.heap.size w5 wr := by rw [HB.out]; exact HBR.out
      have HBMr := Lib.hid (HBM5.out.below hbw8)
      have HSr := Lib.hid ((hbw8.block bs (by rw [HB.out]; exact hsB)).trans HS5.out)
      have HCr := Lib.hid ((hbw8.block (w.heap.size + 1) (by rw [HB.out]; exact hcB)).trans HC5.out)
      have HIr := Lib.hid (HI5.out.below hbw8)
      have zcr := (Array.getElem?_eq_some_iff.1 HCr.out).1
      have zsr : bs < wr.heap.size := by have := hbw8.size; rw [HB.out] at this; omega
      have HBr := Lib.hid (HB5.out.trans (hbw8.mono HB5.out.size))
      have hl5 : n2 ≤ 1000 := by omega
      clear hown hLL hr8 hbw8 hll
      obtain ⟨RA, hRA⟩ : ∃ R, recs g epoch next (l2) = R := ⟨_, rfl⟩
      obtain ⟨nA, hnA⟩ : ∃ n, runLen RA next = n := ⟨_, rfl⟩
      obtain ⟨stA, hstA⟩ : ∃ s, runSt g (madeEs g l1) next RA = s := ⟨_, rfl⟩
      obtain ⟨zsA, hzsA⟩ : ∃ z, zonesOf RA = z := ⟨_, rfl⟩
      have HRUNA : Hid (∀ W, Below wr.heap.size wr W → Calls Try.prog 11 #[.agg TV, .agg (SnC 1 epoch next p), .slice (a2) n2 (c2)] W fun e w' => ∃ u, e = .returned u ∧ RunT wr.heap.size g next nA stA zsA u w' ∧ Below W.heap.size W w') := Lib.hid (fun W hW => by
        have h1 := rrun_fact W p le ll _ _ g (madeEs g l1) HGR.out (HBMr.out.below hW) HOK.out 1 epoch next HRT.out (a2) (l2) (c2) (HIr.out.below hW) (by have := HN2.out; omega) hW.size
        rw [HTV.out, HN2.out, hRA, hnA, hstA, hzsA] at h1
        exact h1)
      have HEA := Lib.hid (And.intro hRA (And.intro hnA (And.intro hstA hzsA)))
      clear hRA hnA hstA hzsA
      go_upto_region 12 with (fail)
      clear hlt hk hkn
      refine wp_region_conf13 9 [Fact.eq (.agg TV), Fact.eq (.agg (SnC 1 epoch next p)), Fact.eq (.slice a2 n2 c2), Fact.runT wr.heap.size g next nA stA zsA, Fact.runT wr.heap.size g next nA stA zsA, Fact.runA wr.heap.size g next nA stA zsA, Fact.eq (.int .i64 0), Fact.eq undef, Fact.eq undef] 7 8 5 ResZ 35 ?raA (by kernel_rfl) (by kernel_rfl) (by kernel_rfl) (by kernel_rfl) ?rahA ?rahs ?raho ?rahend
      case rahA =>
        intro vv
        simp only [putRules, Nat.reduceAdd]
        rfl
      case rahs =>
        intro j u W gg C hj hg hr hp
        match j, hj with
        | 0, _ => exact hp
        | 1, _ => exact hp
        | 2, _ => exact hp
        | 3, _ => exact RunT.setRow (show RunT wr.heap.size g next nA stA zsA u W from hp) hr C
        | 4, _ => exact RunT.setRow (show RunT wr.heap.size g next nA stA zsA u W from hp) hr C
        | 5, _ => exact RunA.setRow (show RunA wr.heap.size g next nA stA zsA u W from hp) hr C
        | 6, _ => exact hp
        | 7, _ => exact hp
        | 8, _ => exact hp
      case raho =>
        refine ⟨?_, ?_, ?_, ?_, ?_, ?_, ?_, ?_, ?_, trivial⟩
        · intro vv W K hB hd HK
          simp only [confRules, conf8Rules, cond7, runFRules] at HK
          clear hd
          go_wp2_with (refine (HNW.out _).mono ?_; rintro e w9 ⟨rfl, hB9⟩)
          refine HK.out _ _ hB9 ?_
          rfl
        · intro vv W K hB hd HK
          simp only [confRules, conf8Rules, cond7, runFRules] at HK
          clear hd
          have hT := (hB.block bs zsr).trans HSr.out
          go_wp2_with (refine wpList_load_row rfl 29 _ rfl bs rfl 29 _ _ _ hT Try.underlying29 rfl (snsize _ _ _ _) ?_)
          refine HK.out _ _ (Below.refl _ _) ?_
          rfl
        · intro vv W K hB hd HK
          simp only [confRules, conf8Rules, cond7, runFRules] at HK
          clear hd
          go_wp2
          refine HK.out _ _ (Below.refl _ _) ?_
          rfl
        · intro vv W K hB hd HK
          simp only [confRules, conf8Rules, cond7, runFRules] at hd HK
          obtain ⟨h0, h1, h2, _⟩ := hd
          simp only [h0, h1, h2] at HK ⊢
          clear h0 h1 h2
          go_wp2_with (refine (HRUNA.out _ hB).mono ?_; rintro e w9 ⟨u9, rfl, hr9, hB9⟩)
          refine HK.out _ _ hB9 ?_
          exact hr9
        · intro vv W K hB hd HK
          simp only [confRules, conf8Rules, cond7, runFRules] at hd HK
          have r3 := hd
          clear hd
          simp only [] at HK ⊢
          skip
          go_wp2
          refine HK.out _ _ (Below.refl _ _) ?_
          exact r3
        · intro vv W K hB hd HK
          simp only [confRules, conf8Rules, cond7, runFRules] at hd HK
          have r4 := hd
          clear hd
          simp only [] at HK ⊢
          skip
          obtain ⟨pra, lera, llra, cera, clra, avra, cvra, aura, cura, hh, mra⟩ := r4
          simp only [hh] at HK ⊢
          clear hh
          go_wp2
          refine HK.out _ _ (Below.refl _ _) ?_
          exact ⟨pra, lera, llra, cera, clra, avra, cvra, aura, cura, rfl, mra⟩
        · intro vv W K hB hd HK
          simp only [confRules, conf8Rules, cond7, runFRules] at hd HK
          have r4 := hd
          clear hd
          simp only [] at HK ⊢
          skip
          obtain ⟨pra, lera, llra, cera, clra, avra, cvra, aura, cura, hh, mra⟩ := r4
          simp only [hh] at HK ⊢
          clear hh
          go_wp2
          refine HK.out _ _ (Below.refl _ _) ?_
          rfl
        · intro vv W K hB hd HK
          simp only [confRules, conf8Rules, cond7, runFRules] at HK
          clear hd
          go_wp2
          refine HK.out _ _ hB.size ((Below.refl _ _).alloc (Nat.le_refl _) _) (heap_alloc_new _ _)
        · intro vv W K g hB hg hr hp hd HK
          simp only [confRules, conf8Rules, cond7, runFRules] at hd HK
          obtain ⟨r5, r3, h0, h1, h2, _, r4, _⟩ := hd
          simp only [hp, h0, h1, h2] at HK ⊢
          clear h0 h1 h2
          obtain ⟨i1, i2, i3, i4⟩ := r5.row
          go_wp2_with (refine wpList_store_row rfl 35 _ _ rfl g (rowT (vv 5)) rfl i4 35 ResZ hr i1 i2 i3 ?_)
          refine HK.out _ _ rfl ?_
          rfl
      case rahend =>
      intro vv W gra hB hf e7 lra rra
      have e5 := hf 5 (by decide) (by decide)
      simp only [conf8Rules, runFRules] at e5
      obtain ⟨pra, lera, llra, cera, clra, avra, cvra, aura, cura, e5, mra⟩ := e5
      have e6 := hf 6 (by decide) (by decide)
      simp only [conf8Rules, runFRules] at e6
      rw [e5] at rra
      simp only [e5, e6, e7, dropRules]
      clear hf e7 e5 e6
      have HBM6 := Lib.hid (HBMr.out.below hB)
      have HS6 := Lib.hid ((hB.block bs zsr).trans HSr.out)
      have HC6 := Lib.hid ((hB.block (w.heap.size + 1) (by omega)).trans HCr.out)
      have HI6 := Lib.hid (HR8.out.below hB)
      have zc6 : w.heap.size + 1 < W.heap.size := (Array.getElem?_eq_some_iff.1 HC6.out).1
      have HB6' := Lib.hid (HBr.out.trans (hB.mono HBr.out.size))
      have zs6 : bs < W.heap.size := by have := hB.size; omega
      have HM6 := Lib.hid mra
      have HG6 := Lib.hid rra
      obtain ⟨w6, hw6⟩ : ∃ w6, W = w6 := ⟨_, rfl⟩
      rw [hw6] at HBM6 HS6 HC6 HI6 HB6' HM6 HG6 zs6 zc6 ⊢
      clear hw6 hB mra rra
      obtain ⟨RB, hRB⟩ : ∃ R, recs g epoch next (LL) = R := ⟨_, rfl⟩
      obtain ⟨nB, hnB⟩ : ∃ n, runLen RB next = n := ⟨_, rfl⟩
      obtain ⟨stB, hstB⟩ : ∃ s, runSt g (madeEs g l1) next RB = s := ⟨_, rfl⟩
      obtain ⟨zsB, hzsB⟩ : ∃ z, zonesOf RB = z := ⟨_, rfl⟩
      have HRUNB : Hid (∀ W, Below w6.heap.size w6 W → Calls Try.prog 11 #[.agg TV, .agg (SnC 1 epoch next p), .slice (a8) n2 (c8)] W fun e w' => ∃ u, e = .returned u ∧ RunT w6.heap.size g next nB stB zsB u w' ∧ Below W.heap.size W w') := Lib.hid (fun W hW => by
        have h1 := rrun_fact W p le ll _ _ g (madeEs g l1) HGR.out (HBM6.out.below hW) HOK.out 1 epoch next HRT.out (a8) (LL) (c8) (HI6.out.below hW) (by have := HN8.out; omega) hW.size
        rw [HTV.out, HN8.out, hRB, hnB, hstB, hzsB] at h1
        exact h1)
      have HEB := Lib.hid (And.intro hRB (And.intro hnB (And.intro hstB hzsB)))
      clear hRB hnB hstB hzsB
      go_upto_region 13 with (fail)
      refine wp_region_conf13 9 [Fact.eq (.agg TV), Fact.eq (.agg (SnC 1 epoch next p)), Fact.eq (.slice a8 n2 c8), Fact.runT w6.heap.size g next nB stB zsB, Fact.runT w6.heap.size g next nB stB zsB, Fact.runA w6.heap.size g next nB stB zsB, Fact.eq (.int .i64 0), Fact.eq undef, Fact.eq undef] 7 8 5 ResZ 35 ?rbA (by kernel_rfl) (by kernel_rfl) (by kernel_rfl) (by kernel_rfl) ?rbhA ?rbhs ?rbho ?rbhend
      case rbhA =>
        intro vv
        simp only [putRules, Nat.reduceAdd]
        rfl
      case rbhs =>
        intro j u W gg C hj hg hr hp
        match j, hj with
        | 0, _ => exact hp
        | 1, _ => exact hp
        | 2, _ => exact hp
        | 3, _ => exact RunT.setRow (show RunT w6.heap.size g next nB stB zsB u W from hp) hr C
        | 4, _ => exact RunT.setRow (show RunT w6.heap.size g next nB stB zsB u W from hp) hr C
        | 5, _ => exact RunA.setRow (show RunA w6.heap.size g next nB stB zsB u W from hp) hr C
        | 6, _ => exact hp
        | 7, _ => exact hp
        | 8, _ => exact hp
      case rbho =>
        refine ⟨?_, ?_, ?_, ?_, ?_, ?_, ?_, ?_, ?_, trivial⟩
        · intro vv W K hB hd HK
          simp only [confRules, conf8Rules, cond7, runFRules] at HK
          clear hd
          go_wp2_with (refine (HNW.out _).mono ?_; rintro e w9 ⟨rfl, hB9⟩)
          refine HK.out _ _ hB9 ?_
          rfl
        · intro vv W K hB hd HK
          simp only [confRules, conf8Rules, cond7, runFRules] at HK
          clear hd
          have hT := (hB.block bs zs6).trans HS6.out
          go_wp2_with (refine wpList_load_row rfl 29 _ rfl bs rfl 29 _ _ _ hT Try.underlying29 rfl (snsize _ _ _ _) ?_)
          refine HK.out _ _ (Below.refl _ _) ?_
          rfl
        · intro vv W K hB hd HK
          simp only [confRules, conf8Rules, cond7, runFRules] at HK
          clear hd
          go_wp2
          refine HK.out _ _ (Below.refl _ _) ?_
          rfl
        · intro vv W K hB hd HK
          simp only [confRules, conf8Rules, cond7, runFRules] at hd HK
          obtain ⟨h0, h1, h2, _⟩ := hd
          simp only [h0, h1, h2] at HK ⊢
          clear h0 h1 h2
          go_wp2_with (refine (HRUNB.out _ hB).mono ?_; rintro e w9 ⟨u9, rfl, hr9, hB9⟩)
          refine HK.out _ _ hB9 ?_
          exact hr9
        · intro vv W K hB hd HK
          simp only [confRules, conf8Rules, cond7, runFRules] at hd HK
          have r3 := hd
          clear hd
          simp only [] at HK ⊢
          skip
          go_wp2
          refine HK.out _ _ (Below.refl _ _) ?_
          exact r3
        · intro vv W K hB hd HK
          simp only [confRules, conf8Rules, cond7, runFRules] at hd HK
          have r4 := hd
          clear hd
          simp only [] at HK ⊢
          skip
          obtain ⟨prb, lerb, llrb, cerb, clrb, avrb, cvrb, aurb, curb, hh, mrb⟩ := r4
          simp only [hh] at HK ⊢
          clear hh
          go_wp2
          refine HK.out _ _ (Below.refl _ _) ?_
          exact ⟨prb, lerb, llrb, cerb, clrb, avrb, cvrb, aurb, curb, rfl, mrb⟩
        · intro vv W K hB hd HK
          simp only [confRules, conf8Rules, cond7, runFRules] at hd HK
          have r4 := hd
          clear hd
          simp only [] at HK ⊢
          skip
          obtain ⟨prb, lerb, llrb, cerb, clrb, avrb, cvrb, aurb, curb, hh, mrb⟩ := r4
          simp only [hh] at HK ⊢
          clear hh
          go_wp2
          refine HK.out _ _ (Below.refl _ _) ?_
          rfl
        · intro vv W K hB hd HK
          simp only [confRules, conf8Rules, cond7, runFRules] at HK
          clear hd
          go_wp2
          refine HK.out _ _ hB.size ((Below.refl _ _).alloc (Nat.le_refl _) _) (heap_alloc_new _ _)
        · intro vv W K g hB hg hr hp hd HK
          simp only [confRules, conf8Rules, cond7, runFRules] at hd HK
          obtain ⟨r5, r3, h0, h1, h2, _, r4, _⟩ := hd
          simp only [hp, h0, h1, h2] at HK ⊢
          clear h0 h1 h2
          obtain ⟨i1, i2, i3, i4⟩ := r5.row
          go_wp2_with (refine wpList_store_row rfl 35 _ _ rfl g (rowT (vv 5)) rfl i4 35 ResZ hr i1 i2 i3 ?_)
          refine HK.out _ _ rfl ?_
          rfl
      case rbhend =>
      intro vv W grb hB hf e7 lrb rrb
      have e5 := hf 5 (by decide) (by decide)
      simp only [conf8Rules, runFRules] at e5
      obtain ⟨prb, lerb, llrb, cerb, clrb, avrb, cvrb, aurb, curb, e5, mrb⟩ := e5
      have e6 := hf 6 (by decide) (by decide)
      simp only [conf8Rules, runFRules] at e6
      rw [e5] at rrb
      simp only [e5, e6, e7, dropRules]
      clear hf e7 e5 e6
      have HLAW := Lib.hid (order_law g epoch next l2 (madeEs g l1) RA RB (by rw [← HN2.out] at HPO; exact HPO.out) HEA.out.1 (by rw [HLL.out]; exact HEB.out.1))
      rw [HEA.out.2.1, HEB.out.2.1, HEA.out.2.2.1, HEB.out.2.2.1] at HLAW
      have HC7 := Lib.hid ((hB.block (w.heap.size + 1) (by omega)).trans HC6.out)
      have zc7 : w.heap.size + 1 < W.heap.size := (Array.getElem?_eq_some_iff.1 HC7.out).1
      have HB7' := Lib.hid (HB6'.out.trans (hB.mono HB6'.out.size))
      have HM7 := Lib.hid (HM6.out.below hB)
      have HMB7 := Lib.hid mrb
      have hg7 := (hB.block gra (Array.getElem?_eq_some_iff.1 HG6.out).1).trans HG6.out
      have hns2 : (Rl.singles stB.single 0).length = (Rl.singles stA.single 0).length := by rw [HLAW.out.2.sg]
      obtain ⟨ns, hns⟩ : ∃ n, (Rl.singles stA.single 0).length = n := ⟨_, rfl⟩
      have hap2 : stB.applied = stA.applied := HLAW.out.2.ap.symm
      obtain ⟨apA, hap⟩ : ∃ n, stA.applied = n := ⟨_, rfl⟩
      have hnn : nB = nA := HLAW.out.1
      have hnx2 : next + (nB : Int) = next + (nA : Int) := by rw [hnn]
      obtain ⟨nxA, hnx⟩ : ∃ n, next + (nA : Int) = n := ⟨_, rfl⟩
      obtain ⟨x0, x1, x2, x3, x4⟩ := resR_cells hg7
      obtain ⟨y0, y1, y2, y3, y4⟩ := resR_cells rrb
      rw [hnx] at x1 hnx2
      rw [hnx2] at y1
      rw [hap] at x2 hap2
      rw [hap2] at y2
      rw [hns] at x3 hns2
      rw [hns2] at y3
      have HG7 := Lib.hid rrb
      have HAL := Lib.hid (ball_any W pra _ _ _ HM7.out.bm.cells.1)
      have z6 := hB.size
      have hesn : stA.es.length ≤ 256 := by have h1 := HM7.out.ok.len; have h2 := ((Geo.right_iff g).1 HGR.out).1.2.2.2.1.2; omega
      have t3 : (nxA != nxA) = false := by simp
      have t4 : (apA != apA) = false := by simp
      have t5 : ((ns : Int) != (ns : Int)) = false := by simp
      have HES := Lib.hid HLAW.out.2.es
      clear rrb mrb hB hg7 hns hap hnx hns2 hap2 hnn hnx2 x4 y4 y0
      go_upto_region 16 with (fail)
      clear x1 x2 x3 y1 y2 y3 t3 t4 t5
      go_wp2_with fail
      refine HAL.out.mono ?_
      rintro e7 w7' ⟨rfl, rfl⟩
      obtain ⟨ES, hES⟩ : ∃ e, stA.es = e := ⟨_, rfl⟩
      have hm7 := HM7.out.bm
      have hmb7 := HMB7.out.bm
      have hok7 := HM7.out.ok
      have hokb := HMB7.out.ok
      rw [hES] at hm7 hok7 hesn HES ⊢
      obtain ⟨FS, hFS⟩ : ∃ e, stB.es = e := ⟨_, rfl⟩
      rw [hFS] at hmb7 hokb HES
      have HOK7 := Lib.hid hok7
      have HOKB := Lib.hid hokb
      obtain ⟨W1, hW1⟩ : ∃ W1, W.alloc (.cells #[.slice (some ⟨lera, 0, none⟩) ES.length cera] 115) = W1 := ⟨_, rfl⟩
      have hb1 : Below W.heap.size W W1 := by rw [← hW1]; exact (Below.refl _ _).alloc (Nat.le_refl _) _
      have hsl : W1.heap[W.heap.size]? = some (.cells #[.slice (some ⟨lera, 0, none⟩) ES.length cera] 115 (0, 0)) := by rw [← hW1]; exact heap_alloc_new W _
      have hm1 : BmIs W1 pra lera llra cera clra g ES (liveL (nz g) ES) := hm7.below hb1
      have hlt := hm1.lt
      have HSTP := Lib.hid (eall1_stops 7 (by omega) W.heap.size lera (some ⟨lera, 0, none⟩) cera ES W1 (cell_of_one hsl) hm1.rows (fun x e => by cases e; rfl) hlt.2.1 (by omega))
      have z1 : W.heap.size < W1.heap.size := (Array.getElem?_eq_some_iff.1 hsl).1
      have HBM8 := Lib.hid (hmb7.below hb1)
      have HG8 := Lib.hid ((hb1.block grb (Array.getElem?_eq_some_iff.1 HG7.out).1).trans HG7.out)
      have HC8 := Lib.hid ((hb1.block (w.heap.size + 1) (by omega)).trans HC7.out)
      have HB8' := Lib.hid (HB7'.out.trans (hb1.mono HB7'.out.size))
      have HIE := Lib.hid (fun e => esize e)
      have HON := Lib.hid (fun e => BEC_one e)
      have hz := (zero_of_info Try.infoEnt).1
      have HSZ : Hid (∀ e : BE, (BEC BE.zero).size = (BEC e).size) := Lib.hid (fun e => by rw [BEC_size, BEC_size])
      have hc1z : w.heap.size + 1 < W1.heap.size := (Array.getElem?_eq_some_iff.1 HC8.out).1
      rw [hW1]
      clear x0 hW1 hb1 hsl hm1 hlt hm7 hmb7 hok7 hokb hES hFS
      go_wp2
      refine (wpIn_wide (n := 8)).1 (wpIn_rangeT2 (encs := ieV) rfl (by omega) (gf := 57) (lb := #[.pointer (some ⟨W.heap.size, 0, none⟩)]) rfl trivial (enters_of Try.func57 (by kernel_rfl) rfl)
        HSTP.out (Below.refl _ _) (fun _ => rfl)
        [] (by simp) (by simp)
        (fun pre W => Only [] W1 W)
        (fun _ _ _ => False)
        (AbT.only (Nat.le_refl _) (by simp))
        (fun _ => AbT.pure _ _ _) (Only.refl _ _)
        ?fr (fun x Be W' => W'.heap[Be]? = some (.cells (BEC x.1) 54 (0, 0))) (fun x Be => AbT.row (fun _ => BEC x.1) (by simp)) ?assign ?body ?done ?stop)
      case assign =>
        intro rr pre x W2 K _ hI hK
        have HK2 := Lib.hid hK
        clear hK
        unfold ieV
        gi_wp2_with (refine wpListIn_store_row (by rfl) 54 _ _ rfl W2.heap.size (BEC x.1) rfl rfl 54 (BEC BE.zero) (heap_alloc_new W2 _) (HIE.out _) (HSZ.out _) (HON.out _) ?_; rw [World.setRow_alloc_new])
        obtain ⟨Be, hBe⟩ : ∃ Be, W2.heap.size = Be := ⟨_, rfl⟩
        have hn := heap_alloc_new W2 (.cells (BEC x.1) 54)
        rw [hBe] at hn ⊢
        exact HK2.out Be _ ((Only.refl _ _).alloc _) hn
      case body =>
        rintro rr pre x Be W2 _ hrr hO2 hE hlen hsp
        obtain ⟨e1, e2, e3, e4⟩ := zip_next hsp
        obtain ⟨e, i⟩ := x
        simp only at e1 e2 hE
        subst e1
        have hpl : pre.length < ES.length := by assumption
        obtain ⟨f, hf⟩ : ∃ f, FS[pre.length]? = some f := ⟨_, List.getElem?_eq_getElem (by rw [← HES.out.1]; exact hpl)⟩
        have hbs : BeS e f := HES.out.2 _ _ _ e2 hf
        have zO := hO2.size
        have zB : Be < W2.heap.size := (Array.getElem?_eq_some_iff.1 hE).1
        have HE2 := Lib.hid hE
        have HO2 := Lib.hid hO2
        have ks : W2.cell? ⟨grb, 0, none⟩ = some (.pointer (some ⟨prb, 0, none⟩)) := (resR_cells (hO2.get HG8.out (by simp))).1
        have HGET := Lib.hid (callsIn_roundO (rr := rr) (n := 6 - 1) (bget_in W2 prb lerb llrb _ _ g FS _ (HBM8.out.only hO2 (by simp) (by simp) (by simp)) pre.length f hf (by have := HES.out.1; omega)))
        have HBS := Lib.hid hbs
        clear hE hO2 e2 hsp hlen e4 hf hbs
        gi_wp2_with fail
        refine ⟨trivial, ?_⟩
        refine HGET.out.mono ?_
        rintro y w4 ⟨rfl, hB4⟩
        have z4 := hB4.size
        obtain ⟨W5, hW5⟩ : ∃ W5, w4.alloc (.cells (BEC f) 54) = W5 := ⟨_, rfl⟩
        have hB5 : Below W2.heap.size W2 W5 := by rw [← hW5]; exact hB4.alloc z4 _
        have h5 : W5.heap[w4.heap.size]? = some (.cells (BEC f) 54 (0, 0)) := by rw [← hW5]; exact heap_alloc_new w4 _
        have hE5 := (hB5.block Be zB).trans HE2.out
        have HO5 : Hid (Only [] W2 W5) := Lib.hid (Only.of_below hB5)
        have HW5 := Lib.hid hW5
        obtain ⟨p0, p1, p2, p4, p5⟩ := be_cells hE5
        obtain ⟨q0, q1, q2, q4, q5⟩ := be_cells h5
        have hst : (e.st != f.st) = false ∧ (e.q != f.q) = false ∧ (e.s != f.s) = false ∧ e.z + e.m = f.z + f.m := by
          rcases HBS.out with rfl | ⟨b1, b2, b3, b4, b5, b6⟩
          · simp
          · rw [b1, b5, b6, b2, b3, Int.add_comm]; simp
        obtain ⟨s0, s1, s2, s3⟩ := hst
        have s4 : (wrap64 (e.z + e.m) != wrap64 (f.z + f.m)) = false := by rw [s3]; simp
        have s5 : ((e.z + e.m) != (f.z + f.m)) = false := by rw [s3]; simp
        clear hB4 hB5 hW5 HGET ks h5 hE5 s3
        gi_wp2_with (refine wpListIn_store_row (by rfl) 54 _ _ rfl w4.heap.size (BEC f) rfl rfl 54 (BEC BE.zero) (heap_alloc_new w4 _) (HIE.out _) (HSZ.out _) (HON.out _) ?_; rw [World.setRow_alloc_new, HW5.out])
        exact ⟨HO5.out, HO2.out.trans HO5.out⟩
      case done =>
        rintro D xs W2 hD rfl hO2 hK
        have zO := hO2.size
        have zD : D < W2.heap.size := (Array.getElem?_eq_some_iff.1 hK).1
        have HKD := Lib.hid hK
        have HC9 := Lib.hid (hO2.get HC8.out (by simp))
        have HB9 := Lib.hid (HB8'.out.trans (hO2.below (B := w.heap.size) (by simp) HB8'.out.size))
        clear hK
        have hcr := cell_of_one HC9.out
        have hfr := free_of_one HC9.out
        go_wp2
        refine leave_marks (v := .bool true) [D] _ (by simp) (by intro E hE; rw [List.mem_singleton.1 hE]; exact ((Only.refl [w.heap.size + 1] _).setCell (.inl (by simp)) _).get HKD.out (by simp; omega)) ?_
        intro W' hO'
        have hr' := hO'.get (one_setCell HC9.out) (by simp; omega)
        have hc' := cell_of_one hr'
        refine ⟨by simp [results, Try.results7, go_sem, hc'], rfl, ?_⟩
        have h2 : Only [w.heap.size + 1] W2 (W2.setCell ⟨w.heap.size + 1, 0, none⟩ (.bool true)) := (Only.refl _ _).setCell (.inl (by simp)) _
        have h3 : Below w.heap.size w (W2.setCell ⟨w.heap.size + 1, 0, none⟩ (.bool true)) := HB9.out.trans (h2.below (by simp) HB9.out.size)
        exact h3.trans (hO'.below (by simp; omega) h3.size)
      case stop =>
        rintro D c pre W _ _ h _
        exact h.elim
end Go.Proofs.Ytoiephmngdecaaa
