/- Proved here: plain facts on what a log says: its records, which counts, and how a map is rolled on; Small laws, over any program: a slice of things of n cells each, read thing by thing; Small laws, over any program: rows of things of n cells each, that the call itself made: read, appended to; small laws on the roller's things in memory: what was found, records, choices, the roller itself; whether two records are a pair (mates); small laws on records in memory; small laws on the roller in memory, and what leaves it as it is; Laws over any program: a struct that is built out of its parts, whatever they are; where a guard asks for it, or there is none. -/
import Derived.Deep.MidRow
import Derived.Laws.Tables
import Derived.Test.YtoiephmngdecaaaKaa
import Derived.Test.YtoiephmngdecaaaKab
import Derived.Test.YtoiephmngdecaaaKaf
import Derived.Test.YtoiephmngdecaaaKag
import Derived.Test.YtoiephmngdecaaaKai
namespace Go.Proofs.Ytoiephmngdecaaa
open Go.RowKit Go.Rv Frm
set_option linter.unusedVariables false
namespace Rl
/-- a frame, and where it was found -/
structure Fnd where
  zone : Int
  off : Int
  fr : Fr
/-- a record, and where it was found -/
structure Rec where
  e : En.E
  zone : Int
  off : Int
/-- the record that counts, and whether it is single -/
structure Ch where
  r : Rec
  single : Bool
/-- is it a record in a geometry? -/
def lies (g : Geo.G) (f : Fnd) (e : En.E) : Bool := holdsG g f.zone f.off && (holdsG g e.mate f.off && (decide (domOf g f.zone ≠ domOf g e.mate) && decide (e.block + max e.many 1 ≤ g.b)))
/-- the entry of a record -/
def recE (g : Geo.G) (epoch : Int) (f : Fnd) : Option En.E :=
  if (readE f.fr).2 = 0 ∧ f.fr.epoch = epoch ∧ f.fr.zone = f.zone ∧ f.fr.off = f.off ∧ lies g f (readE f.fr).1 = true then some (readE f.fr).1 else none
/-- a record from a number on -/
def recF (g : Geo.G) (epoch next : Int) (f : Fnd) : Option (Int × Rec) :=
  match recE g epoch f with
  | none => none
  | some e => if f.fr.seq < next then none else some (f.fr.seq, ⟨e, f.zone, f.off⟩)
/-- the records of a list, from a number on -/
def recs (g : Geo.G) (epoch next : Int) (l : List Fnd) : List (Int × Rec) := l.filterMap (recF g epoch next)
/-- those of a number -/
def atSeq (R : List (Int × Rec)) (s : Int) : List Rec := (R.filter fun x => decide (x.1 = s)).map (·.2)
def mates (a b : Rec) : Bool := decide (a.e.mate = b.zone) && (decide (b.e.mate = a.zone) && decide (a.off = b.off))
/-- the first of a pair -/
def firstPair : List Rec → Option Rec
  | [] => none
  | a :: r => if r.any (mates a) = true then some a else firstPair r
def rec0 : Rec := ⟨En.E.zero, 0, 0⟩
def choose (l : List Rec) : Ch :=
  match firstPair l with
  | some a => ⟨a, false⟩
  | none => ⟨l.headD rec0, true⟩
/-- a roller -/
structure St where
  es : List BE
  single : List Int
  applied : Int
  first : Int
  count : Int
  ol : List Ch
def beOf (seq : Int) (c : Ch) : BE := ⟨1, c.r.zone, c.r.e.mate, c.r.off, seq, (Crc.sum c.r.e.bytes : Nat)⟩
def lie (g : Geo.G) (st : St) (seq : Int) (c : Ch) : St := { st with es := setEs g st.es c.r.e.block (beOf seq c), single := st.single.set c.r.e.block.toNat (if c.single = true then 1 else 0) }
def lieAll (g : Geo.G) (first : Int) : List Ch → Nat → St → St
  | [], _, st => st
  | c :: r, i, st => lieAll g first r (i + 1) (lie g st (first + (i : Nat)) c)
def shut (st : St) : St := { st with first := 0, count := 0, ol := [] }
/-- a group is begun -/
def opened (st : St) (seq : Int) (e : En.E) : St := if e.first = seq then { st with first := seq, count := e.count, ol := [] } else st
/-- does it go on the group that is open? -/
def goesOn (st : St) (seq : Int) (e : En.E) : Bool := decide (e.first = st.first) && (decide (e.count = st.count) && decide (seq = st.first + (st.ol.length : Nat)))
def data (g : Geo.G) (st : St) (seq : Int) (c : Ch) : St :=
  let st1 := opened st seq c.r.e
  if goesOn st1 seq c.r.e = false then shut st1
  else if ((st1.ol.length + 1 : Nat) : Int) < c.r.e.count then { st1 with ol := st1.ol ++ [c] }
  else { shut (lieAll g st1.first (st1.ol ++ [c]) 0 st1) with applied := st1.applied + 1 }
/-- blocks are nothing -/
def trim (g : Geo.G) (b : Int) : Nat → St → St
  | 0, st => st
  | n + 1, st => trim g (b + 1) n { st with es := setEs g st.es b BE.zero, single := st.single.set b.toNat 0 }
def other (g : Geo.G) (st : St) (seq : Int) (c : Ch) : St :=
  let st1 := { shut st with applied := st.applied + 1 }
  if c.r.e.kind = 3 then lie g st1 seq c else trim g c.r.e.block c.r.e.many.toNat st1
def step (g : Geo.G) (st : St) (seq : Int) (c : Ch) : St := if c.r.e.kind = 1 then data g st seq c else other g st seq c
/-- after k numbers -/
def after (g : Geo.G) (R : List (Int × Rec)) (next : Int) (st : St) : Nat → St
  | 0 => st
  | k + 1 => step g (after g R next st k) (next + (k : Nat)) (choose (atSeq R (next + (k : Nat))))
/-- how many numbers in a row have records -/
def run (R : List (Int × Rec)) : Nat → Int → Nat
  | 0, _ => 0
  | n + 1, s => if (atSeq R s).isEmpty = true then 0 else run R n (s + 1) + 1
def runLen (R : List (Int × Rec)) (next : Int) : Nat := run R R.length next
theorem run_some (R : List (Int × Rec)) : ∀ n s k, k < run R n s → atSeq R (s + (k : Nat)) ≠ []
  | 0, s, k, h => by simp [run] at h
  | n + 1, s, k, h => by
    unfold run at h; split at h
    · omega
    · rename_i hne
      cases k with
      | zero => intro he; rw [show s + ((0 : Nat) : Int) = s by omega] at he; exact hne (by simp [he])
      | succ k =>
        have := run_some R n (s + 1) k (by omega)
        rwa [show s + 1 + (k : Int) = s + ((k + 1 : Nat) : Int) by omega] at this
theorem run_le (R : List (Int × Rec)) : ∀ n s, run R n s ≤ n
  | 0, s => by simp [run]
  | n + 1, s => by
    unfold run; split
    · omega
    · have := run_le R n (s + 1); omega
theorem run_none (R : List (Int × Rec)) : ∀ n s, run R n s < n → atSeq R (s + (run R n s : Nat)) = []
  | 0, s, h => by simp at h
  | n + 1, s, h => by
    unfold run at h ⊢; split
    · rename_i he; rw [show s + ((0 : Nat) : Int) = s by omega]; simpa using he
    · rename_i hne; rw [if_neg hne] at h; have := run_none R n (s + 1) (by omega)
      rwa [show s + 1 + ((run R n (s + 1) : Nat) : Int) = s + ((run R n (s + 1) + 1 : Nat) : Int) by omega] at this
/-- of numbers that all have records there are as many records -/
theorem filled_le (s : Int) : ∀ (k : Nat) (R : List (Int × Rec)), (∀ j, j < k → atSeq R (s + (j : Nat)) ≠ []) → k ≤ R.length
  | 0, R, _ => Nat.zero_le _
  | k + 1, R, h => by
    have h1 := filled_le s k (R.filter fun x => decide (x.1 ≠ s + (k : Nat))) fun j hj => by
      have h2 := h j (by omega); intro he; apply h2; unfold atSeq at he ⊢; rw [List.map_eq_nil_iff, List.filter_filter] at he; rw [List.map_eq_nil_iff, ← he]; apply List.filter_congr; intro x _; by_cases hx : x.1 = s + (j : Nat)
      · simp [hx]; omega
      · simp [hx]
    have h3 := h k (by omega); have h4 : (R.filter fun x => decide (x.1 = s + (k : Nat))) ≠ [] := fun he => h3 (by simp [atSeq, he]); have h5 := List.length_pos_iff.2 h4
    have h6 : (R.filter fun x => decide (x.1 ≠ s + (k : Nat))).length + (R.filter fun x => decide (x.1 = s + (k : Nat))).length = R.length := by
      have : ∀ L : List (Int × Rec), (L.filter fun x => decide (x.1 ≠ s + (k : Nat))).length + (L.filter fun x => decide (x.1 = s + (k : Nat))).length = L.length := fun L => by
        induction L with
        | nil => rfl
        | cons x L ih =>
          by_cases hx : x.1 = s + (k : Nat)
          · simp [hx] at ih ⊢; omega
          · simp [hx] at ih ⊢; omega
      exact this R
    omega
theorem runLen_none (R : List (Int × Rec)) (next : Int) : atSeq R (next + (runLen R next : Nat)) = [] := by
  unfold runLen; by_cases h : run R R.length next < R.length
  · exact run_none R _ _ h
  · have hle := run_le R R.length next; have he : run R R.length next = R.length := by omega
    by_cases hn : atSeq R (next + (run R R.length next : Nat)) = []
    · exact hn
    · have := filled_le next (R.length + 1) R fun j hj => by
        by_cases hj2 : j < R.length
        · exact run_some R R.length next j (by omega)
        · have : j = run R R.length next := by omega
          rw [this]; exact hn
      omega
theorem runLen_some {R : List (Int × Rec)} {next : Int} {k : Nat} (h : k < runLen R next) : atSeq R (next + (k : Nat)) ≠ [] := run_some R _ _ k h
theorem runLen_le (R : List (Int × Rec)) (next : Int) : runLen R next ≤ R.length := run_le R _ _
theorem recs_length (g : Geo.G) (epoch next : Int) (l : List Fnd) : (recs g epoch next l).length ≤ l.length := List.length_filterMap_le _ _
theorem atSeq_length (R : List (Int × Rec)) (s : Int) : (atSeq R s).length ≤ R.length := by
  unfold atSeq; rw [List.length_map]; exact List.length_filter_le _ _
theorem atSeq_snoc (R : List (Int × Rec)) (x : Int × Rec) (s : Int) : atSeq (R ++ [x]) s = if x.1 = s then atSeq R s ++ [x.2] else atSeq R s := by
  unfold atSeq; rw [List.filter_append]; by_cases h : x.1 = s <;> simp [h]
/-- the zones of records, sorted, each once -/
def zones (R : List (Int × Rec)) : List Int := R.map (·.2.zone)
/-- the blocks that are single -/
def singles : List Int → Nat → List Int
  | [], _ => []
  | n :: r, b => if 0 < n then (b : Nat) :: singles r (b + 1) else singles r (b + 1)
end Rl
end Go.Proofs.Ytoiephmngdecaaa
namespace Go.Rv
open Go.RowKit
set_option linter.unusedVariables false
/-- a slice of things: each has n cells, those that X tells -/
def RowOf {α : Type} (w : World) (n : Nat) (X : α → Array Value) (Q : α → Prop) (a : Option Addr) (xs : List α) : Prop :=
  xs = [] ∨ ∃ b o, a = some ⟨b, o, none⟩ ∧ b < w.heap.size ∧ ∀ k x, xs[k]? = some x → (∀ j, j < n → w.cell? ⟨b, o + k * n + j, none⟩ = (X x)[j]?) ∧ Q x
theorem RowOf.nil {α : Type} (w : World) (n : Nat) (X : α → Array Value) (Q : α → Prop) (a : Option Addr) : RowOf w n X Q a [] := .inl rfl
theorem RowOf.at {α : Type} {w : World} {n : Nat} {X : α → Array Value} {Q : α → Prop} {a : Option Addr} {xs : List α} (h : RowOf w n X Q a xs) {k : Nat} {x : α} (hk : xs[k]? = some x) :
    ∃ b o, a = some ⟨b, o, none⟩ ∧ b < w.heap.size ∧ (∀ j, j < n → w.cell? ⟨b, o + k * n + j, none⟩ = (X x)[j]?) ∧ Q x := by
  rcases h with rfl | ⟨b, o, rfl, hlt, hc⟩
  · simp at hk
  · exact ⟨b, o, rfl, hlt, (hc k x hk).1, (hc k x hk).2⟩
theorem RowOf.only {α : Type} {S : List Nat} {w w' : World} {n : Nat} {X : α → Array Value} {Q : α → Prop} {a : Option Addr} {xs : List α} (h : RowOf w n X Q a xs) (hb : Only S w w') (hS : ∀ x, a = some x → x.block ∉ S) : RowOf w' n X Q a xs := by
  rcases h with rfl | ⟨b, o, rfl, hlt, hc⟩
  · exact .inl rfl
  · refine .inr ⟨b, o, rfl, Nat.lt_of_lt_of_le hlt hb.size, fun k x hk => ⟨fun j hj => ?_, (hc k x hk).2⟩⟩; rw [← (hc k x hk).1 j hj]; exact World.cell?_of_block (hb.block b hlt (hS _ rfl))
theorem RowOf.below {α : Type} {w w' : World} {n : Nat} {X : α → Array Value} {Q : α → Prop} {a : Option Addr} {xs : List α} (h : RowOf w n X Q a xs) (hb : Below w.heap.size w w') : RowOf w' n X Q a xs :=
  h.only (Only.of_below (S := []) hb) (by simp)
theorem RowOf.all {α : Type} {w : World} {n : Nat} {X : α → Array Value} {Q : α → Prop} {a : Option Addr} {xs : List α} (h : RowOf w n X Q a xs) : ∀ x ∈ xs, Q x := by
  intro x hx; obtain ⟨k, hk⟩ := List.getElem?_of_mem hx; obtain ⟨-, -, -, -, -, hq⟩ := h.at hk; exact hq
theorem rowOf_of_fits {α : Type} {P : Program} {w : World} {d : Nat} {t e : TypeId} {a : Option Addr} {len cap : Nat} (n : Nat) (X : α → Array Value) (Q : α → Prop) (hu : P.underlying t = some (.slice e)) (hn : P.cellsOf e = n) (h0 : 0 < n)
    (hX : ∀ cs, cs.length = n → Fits P w d e cs → ∃ x, cs = (X x).toList ∧ Q x) (h : Fits P w (d + 1) t [.slice a len cap]) : ∃ xs : List α, xs.length = len ∧ RowOf w n X Q a xs ∧ len ≤ cap ∧ cap ≤ 9223372036854775807 ∧ (a = none → cap = 0) := by
  obtain ⟨hc1, hc2, hc3, hr⟩ := row_of_fits hu (by omega) h; rcases hr with h0 | ⟨b, o, rfl, hlt, hi⟩
  · exact ⟨[], by simp [h0], .inl rfl, by omega, by omega, by assumption⟩
  · obtain ⟨xs, hx1, hx2⟩ := list_of_forall (Q := fun i (x : α) => (∀ j, j < n → w.cell? ⟨b, o + i * n + j, none⟩ = (X x)[j]?) ∧ Q x) len fun i hil => by
      obtain ⟨cs, h1, h2, h3⟩ := hi i hil; rw [hn] at h1 h2; obtain ⟨x, rfl, hq⟩ := hX cs h1 h3; exact ⟨x, fun j hj => by rw [h2 j hj, Array.getElem?_toList], hq⟩
    exact ⟨xs, hx1, .inr ⟨b, o, rfl, hlt, hx2⟩, by omega, by omega, by assumption⟩
end Go.Rv
namespace Go.Rv
open Go.RowKit
set_option linter.unusedVariables false
/-- the cells of things, one behind the other -/
def flatM {α : Type} (X : α → Array Value) (xs : List α) : List Value := xs.flatMap fun x => (X x).toList
theorem flatM_app {α : Type} (X : α → Array Value) (xs ys : List α) : flatM X (xs ++ ys) = flatM X xs ++ flatM X ys := by simp [flatM]
theorem flatM_length {α : Type} {n : Nat} {X : α → Array Value} : ∀ {xs : List α}, (∀ x ∈ xs, (X x).size = n) → (flatM X xs).length = xs.length * n
  | [], _ => by simp [flatM]
  | x :: xs, h => by
    have ih := flatM_length (X := X) (xs := xs) fun y hy => h y (by simp [hy]); have h1 := h x (by simp); simp only [flatM, List.flatMap_cons, List.length_append, List.length_cons, Array.length_toList] at ih ⊢; rw [ih, h1, Nat.add_mul, Nat.one_mul, Nat.add_comm]
theorem flatM_at {α : Type} {n : Nat} {X : α → Array Value} : ∀ {xs : List α}, (∀ x ∈ xs, (X x).size = n) → ∀ {k j : Nat} {x : α}, xs[k]? = some x → j < n → (flatM X xs)[k * n + j]? = (X x)[j]?
  | [], _, _, _, _, h, _ => by simp at h
  | y :: ys, h, 0, j, x, hk, hj => by
    simp at hk; subst hk; have h1 := h y (by simp); simp only [flatM, List.flatMap_cons, Nat.zero_mul, Nat.zero_add]; rw [List.getElem?_append_left (by rw [Array.length_toList]; omega), Array.getElem?_toList]
  | y :: ys, h, k + 1, j, x, hk, hj => by
    have ih := flatM_at (X := X) (xs := ys) (fun z hz => h z (by simp [hz])) (k := k) (j := j) (x := x) (by simpa using hk) hj; have h1 := h y (by simp); simp only [flatM, List.flatMap_cons] at ih ⊢; rw [List.getElem?_append_right (by rw [Array.length_toList, h1, Nat.add_mul]; omega), Array.length_toList, h1, show (k + 1) * n + j - n = k * n + j by rw [Nat.add_mul]; omega]; exact ih
/-- what kind of things: each has n cells, one value each -/
structure Kin {α : Type} (n : Nat) (X : α → Array Value) (Q : α → Prop) : Prop where
  size : ∀ x, Q x → (X x).size = n
  one : ∀ x, Q x → (X x).all (·.oneCell') = true
/-- a row of things of the call's own -/
def OwnM {α : Type} (w : World) (e : TypeId) (n : Nat) (X : α → Array Value) (Q : α → Prop) (base : Nat) (v : Value) (xs : List α) : Prop := w.ownsRow base e n v xs.length (flatM X xs) ∧ ∀ x ∈ xs, Q x
theorem OwnM.nil {α : Type} (w : World) (e : TypeId) (n : Nat) (X : α → Array Value) (Q : α → Prop) (base : Nat) : OwnM w e n X Q base (.slice none 0 0) [] := ⟨World.ownsRow_nil _ _ _ _, by simp⟩
theorem OwnM.shape {α : Type} {w : World} {e : TypeId} {n : Nat} {X : α → Array Value} {Q : α → Prop} {base : Nat} {v : Value} {xs : List α} (h : OwnM w e n X Q base v xs) (hK : Kin n X Q) :
    ∃ a cap, v = .slice a xs.length cap ∧ RowOf w n X Q a xs ∧ (a = none → cap = 0) ∧ xs.length ≤ cap ∧ cap ≤ 9223372036854775807 ∧ (∀ x, a = some x → base ≤ x.block ∧ x.block < w.heap.size ∧ v.ownBlock = some x.block) := by
  obtain ⟨⟨hl, hr⟩, hq⟩ := h; rcases hr with ⟨rfl, hn⟩ | ⟨g, cap, cur, rfl, hb, hg, hnc, hcm, hcs, htake⟩
  · have h0 : xs = [] := List.eq_nil_of_length_eq_zero hn; subst h0; exact ⟨none, 0, rfl, .inl rfl, fun _ => rfl, by simp, by omega, fun x hx => (by cases hx)⟩
  · have hlt := (Array.getElem?_eq_some_iff.1 hg).1; refine ⟨some ⟨g, 0, none⟩, cap, rfl, .inr ⟨g, 0, rfl, hlt, fun k x hk => ⟨fun j hj => ?_, hq x (List.mem_of_getElem? hk)⟩⟩, fun e => (by cases e), hnc, by unfold maxLen at hcm; omega, fun x hx => (by cases hx; exact ⟨hb, hlt, rfl⟩)⟩; have hkl := (List.getElem?_eq_some_iff.1 hk).1; rw [Nat.zero_add, cell_of_row _ _ _ _ _ _ hg, ← flatM_at (fun y hy => hK.size y (hq y hy)) hk hj, ← htake, List.getElem?_take, if_pos, Array.getElem?_toList]
    calc k * n + j < k * n + n := by omega
      _ = (k + 1) * n := by rw [Nat.add_mul, Nat.one_mul]
      _ ≤ xs.length * n := Nat.mul_le_mul_right n hkl
theorem OwnM.kept {α : Type} {w w' : World} {e : TypeId} {n : Nat} {X : α → Array Value} {Q : α → Prop} {base : Nat} {v : Value} {xs : List α} (h : OwnM w e n X Q base v xs) {row : Option Nat} (hg : w.grownBy w' row) (hne : v.ownBlock = none ∨ v.ownBlock ≠ row) : OwnM w' e n X Q base v xs := ⟨h.1.kept hg hne, h.2⟩
theorem OwnM.below {α : Type} {w w' : World} {e : TypeId} {n : Nat} {X : α → Array Value} {Q : α → Prop} {base : Nat} {v : Value} {xs : List α} (h : OwnM w e n X Q base v xs) (hb : Below w.heap.size w w') : OwnM w' e n X Q base v xs :=
  h.kept (grownBy_of_below hb none) (by cases v.ownBlock <;> simp)
theorem OwnM.only {α : Type} {S : List Nat} {w w' : World} {e : TypeId} {n : Nat} {X : α → Array Value} {Q : α → Prop} {base : Nat} {v : Value} {xs : List α} (h : OwnM w e n X Q base v xs) (hb : Only S w w') (hS : ∀ k, v.ownBlock = some k → k ∉ S) : OwnM w' e n X Q base v xs := by
  obtain ⟨⟨h1, hr⟩, hl⟩ := h; refine ⟨⟨h1, ?_⟩, hl⟩; rcases hr with hr | ⟨g, cap, cur, rfl, hg, hh, r⟩
  · exact .inl hr
  · exact .inr ⟨g, cap, cur, rfl, hg, (hb.block g (Array.getElem?_eq_some_iff.1 hh).1 (hS g rfl)).trans hh, r⟩
theorem OwnM.mono {α : Type} {w : World} {e : TypeId} {n : Nat} {X : α → Array Value} {Q : α → Prop} {base base' : Nat} {v : Value} {xs : List α} (h : OwnM w e n X Q base v xs) (hb : base' ≤ base) : OwnM w e n X Q base' v xs := by
  obtain ⟨⟨h1, hr⟩, hl⟩ := h; refine ⟨⟨h1, ?_⟩, hl⟩; rcases hr with hr | ⟨g, cap, cur, hv, hg, r⟩
  · exact .inl hr
  · exact .inr ⟨g, cap, cur, hv, by omega, r⟩
theorem OwnM.base_le {α : Type} {w : World} {e : TypeId} {n : Nat} {X : α → Array Value} {Q : α → Prop} {base : Nat} {v : Value} {xs : List α} (h : OwnM w e n X Q base v xs) {k : Nat} (hk : v.ownBlock = some k) : base ≤ k ∧ ∃ C, w.heap[k]? = some (.cells C e (0, 0)) := by
  rcases h.1.2 with ⟨rfl, _⟩ | ⟨g, cap, cur, rfl, hg, hh, r⟩
  · simp [Value.ownBlock] at hk
  · simp [Value.ownBlock] at hk; subst hk; exact ⟨hg, cur, hh⟩
theorem OwnM.grown {α : Type} {w w' : World} {e : TypeId} {n : Nat} {X : α → Array Value} {Q : α → Prop} {base : Nat} {v : Value} {xs : List α} (h : OwnM w e n X Q base v xs) (hg : w.grownBy w' v.ownBlock) (hb : base ≤ w.heap.size) : Below base w w' :=
  Below.of_grown hg hb fun k hk => (h.base_le hk).1
/-- things are appended, that lie anywhere -/
theorem wpList_appendM {α : Type} {P : Program} {w : World} {ops : Array Oper} {rest : List Oper} {o : Oper} {a : Act} {Q' : Exit → Act → World → Prop} (hgd : o.guard = none) (s x : Operand) (t : TypeId)
    (ho : o.op = .call { callee := .builtin .append, args := #[s, x], argTypes := #[t, t] })
    (e : TypeId) (n : Nat) (X : α → Array Value) (Q : α → Prop) (hK : Kin n X Q) (h0 : 0 < n) (z : Value) (bytes : Nat) (ht : P.underlying t = some (.slice e)) (hinfo : (P.info? e).map (fun i => (i.zero, i.size, i.bytes)) = some (some z, n, bytes)) (hzs : z.cells.size = n)
    (base : Nat) (v : Value) (xs : List α) (hs : a.eval s = v) (hown : OwnM w e n X Q base v xs) (ad : Option Addr) (cap : Nat) (ms : List α) (hx : a.eval x = .slice ad ms.length cap) (hm : RowOf w n X Q ad ms) (hcap : ad = none → cap = 0)
    (h63 : xs.length + ms.length ≤ maxLen) (hbytes : (xs.length + ms.length) * bytes ≤ 140737488355328) (hbase : base ≤ w.heap.size)
    (h : ∀ v' w', OwnM w' e n X Q base v' (xs ++ ms) → w.grownBy w' v.ownBlock → (v'.ownBlock = v.ownBlock ∨ v'.ownBlock = some w.heap.size) → wpList P ops Q' rest (a.put o.dst v') w') : wpList P ops Q' (o :: rest) a w := by
  obtain ⟨i0, hi, hz0, hz1, hz2⟩ := info_parts hinfo
  cases ad with
  | none =>
    have hms : ms = [] := by
      rcases hm with h | ⟨b, o, e, _⟩
      · exact h
      · cases e
    subst hms; have hc := hcap rfl; subst hc; refine wpList_append_own_none hgd s x t ho base e i0 n ht hi v xs.length _ hs hown.1 hx ?_; exact h v w (by simpa using hown) ⟨rfl, rfl, rfl, Nat.le_refl _, fun _ _ _ => rfl⟩ (.inl rfl)
  | some ad =>
    have hq : ∀ y ∈ ms, Q y := hm.all; refine wpList_append_own_at w hgd s x t ho base e i0 z n bytes ht hi hz0 hz1 hz2 hzs h0 v xs.length _ hs hown.1 ad ms.length cap (flatM X ms) hx (flatM_length fun y hy => hK.size y (hq y hy)) ?_ ?_ h63 hbytes hbase ?_
    · intro j u hu
      have hj : j < ms.length * n := by
        have := (List.getElem?_eq_some_iff.1 hu).1
        rwa [flatM_length fun y hy => hK.size y (hq y hy)] at this
      obtain ⟨y, hy⟩ : ∃ y, ms[j / n]? = some y := ⟨_, List.getElem?_eq_getElem (by rwa [Nat.div_lt_iff_lt_mul h0])⟩; obtain ⟨b, o, e, hb, hc, -⟩ := hm.at hy; cases e; have h1 := hc (j % n) (Nat.mod_lt _ h0); have h2 := flatM_at (fun y hy => hK.size y (hq y hy)) hy (Nat.mod_lt j h0); rw [Nat.div_add_mod' j n] at h2; rw [add_lit, ← hu, h2, ← h1, Nat.add_assoc, Nat.div_add_mod' j n]
    · intro u hu; simp only [flatM, List.mem_flatMap] at hu; obtain ⟨y, hy, hu⟩ := hu; have := hK.one y (hq y hy); rw [Array.all_eq_true_iff_forall_mem] at this; exact this u (by simpa using hu)
    · intro v' w' h1 h2 _ h4; refine h v' w' ⟨by rw [List.length_append, flatM_app]; exact h1, fun y hy => ?_⟩ h2 h4
      rcases List.mem_append.1 hy with hy | hy
      · exact hown.2 y hy
      · exact hq y hy
/-- one thing, that lies in a block of its own -/
theorem one_rowOf {α : Type} {w : World} {n : Nat} {X : α → Array Value} {Q : α → Prop} {g : Nat} {x : α} {t : TypeId} {fr : Nat × Nat} (hg : w.heap[g]? = some (.cells (X x) t fr)) (hq : Q x) : RowOf w n X Q (some ⟨g, 0, none⟩) [x] :=
  .inr ⟨g, 0, rfl, (Array.getElem?_eq_some_iff.1 hg).1, fun k y hk => by
    match k, hk with
    | 0, hk =>
      simp at hk; subst hk; exact ⟨fun j hj => by rw [Nat.zero_mul, Nat.zero_add]; exact cell_of_row _ _ _ _ _ _ hg, hq⟩⟩
end Go.Rv
namespace Go.Proofs.Ytoiephmngdecaaa
open Go.RowKit Go.Rv Rl Frm
set_option linter.unusedVariables false
theorem put_none (a : Act) (u : Value) : a.put none u = a := rfl
def FrQ (f : Fr) : Prop := Body f.body ∧ Num64 f
/-- the cells of what was found -/
def fndC (f : Fnd) : Array Value := #[.int .i64 f.zone, .int .i64 f.off] ++ FC f.fr
def FndQ (f : Fnd) : Prop := (Lit.int .i64 f.zone).wf = true ∧ (Lit.int .i64 f.off).wf = true ∧ FrQ f.fr
/-- a record's cells -/
def recC (r : Rec) : Array Value := EC r.e ++ #[.int .i64 r.zone, .int .i64 r.off]
def RecQ (r : Rec) : Prop := EBody r.e
/-- a choice's cells -/
def chC (c : Ch) : Array Value := recC c.r ++ #[.bool c.single]
def ChQ (c : Ch) : Prop := RecQ c.r
theorem fndC_size (f : Fnd) : (fndC f).size = 2 + (FC f.fr).size := by simp [fndC]
theorem recC_size (r : Rec) : (recC r).size = (EC r.e).size + 2 := by simp [recC]
theorem chC_size (c : Ch) : (chC c).size = (recC c.r).size + 1 := by simp [chC]
theorem kinFnd : Kin 51 fndC FndQ := ⟨fun f h => by rw [fndC_size, FC_size, h.2.2.1.1], fun f _ => by
  have h := FC_one f.fr; simp [fndC, Value.oneCell'] at h ⊢; exact h⟩
theorem kinRec : Kin 40 recC RecQ := ⟨fun r h => by rw [recC_size, EC_size, h.1], fun r _ => by
  unfold recC; rw [Array.all_append, EC_one r.e]; simp [Value.oneCell']⟩
theorem kinCh : Kin 41 chC ChQ := ⟨fun c h => by rw [chC_size, recC_size, EC_size, h.1], fun c _ => by
  unfold chC recC; rw [Array.all_append, Array.all_append, EC_one c.r.e]; simp [Value.oneCell']⟩
def ch0 : Ch := ⟨rec0, false⟩
def fnd0 : Fnd := ⟨0, 0, Fr.zero⟩
theorem Try.infoRec : (Try.prog.info? 102).map (fun i => (i.zero, i.size)) = some (some (.agg (recC rec0)), 40) := by kernel_rfl
theorem Try.infoRec3 : (Try.prog.info? 102).map (fun i => (i.zero, i.size, i.bytes)) = some (some (.agg (recC rec0)), 40, 96) := by kernel_rfl
theorem Try.infoCh : (Try.prog.info? 104).map (fun i => (i.zero, i.size)) = some (some (.agg (chC ch0)), 41) := by kernel_rfl
theorem Try.infoCh3 : (Try.prog.info? 104).map (fun i => (i.zero, i.size, i.bytes)) = some (some (.agg (chC ch0)), 41, 104) := by kernel_rfl
theorem Try.infoFnd : (Try.prog.info? 70).map (fun i => (i.zero, i.size)) = some (some (.agg (fndC fnd0)), 51) := by kernel_rfl
theorem Try.infoFnd3 : (Try.prog.info? 70).map (fun i => (i.zero, i.size, i.bytes)) = some (some (.agg (fndC fnd0)), 51, 104) := by kernel_rfl
theorem size_rec {r : Rec} (h : RecQ r) : (Try.prog.info? 102).map (·.size) = some (recC r).size := by rw [kinRec.size r h]; exact (zero_of_info Try.infoRec).2
theorem size_ch {c : Ch} (h : ChQ c) : (Try.prog.info? 104).map (·.size) = some (chC c).size := by rw [kinCh.size c h]; exact (zero_of_info Try.infoCh).2
theorem size_fnd {f : Fnd} (h : FndQ f) : (Try.prog.info? 70).map (·.size) = some (fndC f).size := by rw [kinFnd.size f h]; exact (zero_of_info Try.infoFnd).2
/-- the cells of a roller -/
def rolT (p : Nat) (first count : Int) (v : Value) (sb n : Nat) (applied : Int) : Array Value := #[.pointer (some ⟨p, 0, none⟩), .int .i64 first, .int .i64 count, v, .slice (some ⟨sb, 0, none⟩) n n, .int .i64 applied]
def rolC (p : Nat) (first count : Int) (v : Value) (sb n : Nat) (applied : Int) : Array Value := Tb.tabV ++ rolT p first count v sb n applied
theorem tabV_size : Tb.tabV.size = 256 := by kernel_rfl
theorem rolC_at (p : Nat) (first count : Int) (v : Value) (sb n : Nat) (applied : Int) (j : Nat) : (rolC p first count v sb n applied)[256 + j]? = (rolT p first count v sb n applied)[j]? := by
  unfold rolC; rw [Array.getElem?_append_right (by rw [tabV_size]; omega), tabV_size, Nat.add_sub_cancel_left]
theorem rolC_cells {w : World} {q p : Nat} {first count : Int} {v : Value} {sb n : Nat} {applied : Int} {t : TypeId} (h : w.heap[q]? = some (.cells (rolC p first count v sb n applied) t (0, 0))) :
    w.cell? ⟨q, 256, none⟩ = some (.pointer (some ⟨p, 0, none⟩)) ∧ w.cell? ⟨q, 257, none⟩ = some (.int .i64 first) ∧ w.cell? ⟨q, 258, none⟩ = some (.int .i64 count) ∧ w.cell? ⟨q, 259, none⟩ = some v ∧ w.cell? ⟨q, 260, none⟩ = some (.slice (some ⟨sb, 0, none⟩) n n) ∧ w.cell? ⟨q, 261, none⟩ = some (.int .i64 applied) := by
  refine ⟨?_, ?_, ?_, ?_, ?_, ?_⟩ <;> rw [cell_of_row _ _ _ _ _ _ h]
  · exact rolC_at _ _ _ _ _ _ _ 0
  · exact rolC_at _ _ _ _ _ _ _ 1
  · exact rolC_at _ _ _ _ _ _ _ 2
  · exact rolC_at _ _ _ _ _ _ _ 3
  · exact rolC_at _ _ _ _ _ _ _ 4
  · exact rolC_at _ _ _ _ _ _ _ 5
theorem rolC_range {w : World} {q p : Nat} {first count : Int} {v : Value} {sb n : Nat} {applied : Int} {t : TypeId} (h : w.heap[q]? = some (.cells (rolC p first count v sb n applied) t (0, 0))) : w.rangeAt q 0 Tb.tabV.toList := fun j u hu => by
  have hj : j < Tb.tabV.size := by
    have := (List.getElem?_eq_some_iff.1 hu).1; simpa using this
  rw [Nat.zero_add, cell_of_row _ _ _ _ _ _ h, ← hu, Array.getElem?_toList]; unfold rolC; rw [Array.getElem?_append_left hj]
end Go.Proofs.Ytoiephmngdecaaa
namespace Go.Proofs.Ytoiephmngdecaaa
open Go.RowKit Go.Rv Rl
set_option linter.unusedVariables false
attribute [local go_sem] Oper.semAt_some
theorem recC_e (r : Rec) (j : Nat) (h : j < (EC r.e).size) : (recC r)[j]? = (EC r.e)[j]? := by
  unfold recC; rw [Array.getElem?_append_left h]
theorem recC_at (r : Rec) (h : RecQ r) : (recC r)[0]? = some (.int .i64 r.e.kind) ∧ (recC r)[1]? = some (.int .i64 r.e.first) ∧ (recC r)[2]? = some (.int .i64 r.e.count) ∧ (recC r)[3]? = some (.int .i64 r.e.block) ∧ (recC r)[4]? = some (.int .i64 r.e.many) ∧ (recC r)[5]? = some (.int .i64 r.e.mate) ∧ (recC r)[38]? = some (.int .i64 r.zone) ∧ (recC r)[39]? = some (.int .i64 r.off) := by
  have hs : (EC r.e).size = 38 := by rw [EC_size, h.1]
  obtain ⟨h0, h1, h2, h3, h4, h5⟩ := EC_num r.e; refine ⟨(recC_e r 0 (by omega)).trans h0, (recC_e r 1 (by omega)).trans h1, (recC_e r 2 (by omega)).trans h2, (recC_e r 3 (by omega)).trans h3, (recC_e r 4 (by omega)).trans h4, (recC_e r 5 (by omega)).trans h5, ?_, ?_⟩
  · unfold recC; rw [Array.getElem?_append_right (by omega), hs]; rfl
  · unfold recC; rw [Array.getElem?_append_right (by omega), hs]; rfl
theorem rec_cells {w : World} {b : Nat} {r : Rec} {t : TypeId} (hq : RecQ r) (h : w.heap[b]? = some (.cells (recC r) t (0, 0))) : w.cell? ⟨b, 5, none⟩ = some (.int .i64 r.e.mate) ∧ w.cell? ⟨b, 38, none⟩ = some (.int .i64 r.zone) ∧ w.cell? ⟨b, 39, none⟩ = some (.int .i64 r.off) := by
  obtain ⟨-, -, -, -, -, h5, h6, h7⟩ := recC_at r hq; exact ⟨(cell_of_row _ _ _ _ _ _ h).trans h5, (cell_of_row _ _ _ _ _ _ h).trans h6, (cell_of_row _ _ _ _ _ _ h).trans h7⟩
set_option maxHeartbeats 2000000 in
theorem rmates_core (w : World) (CA CB : Array Value) (ma za oa mb zb ob : Int) (r : Bool)
    (hA : ∀ (W : World) (b : Nat), W.heap[b]? = some (.cells CA 102 (0, 0)) → W.cell? ⟨b, 5, none⟩ = some (.int .i64 ma) ∧ W.cell? ⟨b, 38, none⟩ = some (.int .i64 za) ∧ W.cell? ⟨b, 39, none⟩ = some (.int .i64 oa))
    (hB : ∀ (W : World) (b : Nat), W.heap[b]? = some (.cells CB 102 (0, 0)) → W.cell? ⟨b, 5, none⟩ = some (.int .i64 mb) ∧ W.cell? ⟨b, 38, none⟩ = some (.int .i64 zb) ∧ W.cell? ⟨b, 39, none⟩ = some (.int .i64 ob))
    (hc : ((ma == zb) = false ∧ r = false) ∨ (ma = zb ∧ (mb == za) = false ∧ r = false) ∨ (ma = zb ∧ mb = za ∧ (oa == ob) = r)) :
    Calls Try.prog 54 #[.agg CA, .agg CB] w fun e w' => e = .returned (.bool r) ∧ Below w.heap.size w w' := by
  have hB0 : Below w.heap.size w ((w.alloc (.cells CA 102)).alloc (.cells CB 102)) := ((Below.refl _ _).alloc (Nat.le_refl _) _).alloc (by simp) _; have ha := heap_alloc2_old w (.cells CA 102) (.cells CB 102); have hb := heap_alloc2_new w (.cells CA 102) (.cells CB 102); obtain ⟨W0, hW0⟩ : ∃ W, (w.alloc (.cells CA 102)).alloc (.cells CB 102) = W := ⟨_, rfl⟩; rw [hW0] at ha hb hB0; obtain ⟨a1, a2, a3⟩ := hA W0 _ ha; obtain ⟨b1, b2, b3⟩ := hB W0 _ hb; have HW0 := Lib.hid hW0; have HB0 := Lib.hid hB0; clear hA hB hB0 ha hb hW0; rcases hc with ⟨t1, rfl⟩ | ⟨rfl, t1, rfl⟩ | ⟨rfl, rfl, t1⟩
  · go_enter Try.func54, Try.ntmps54; go_upto_region 1 with (fail); rw [HW0.out]; go_wp2; go_ret; exact ⟨rfl, HB0.out⟩
  · go_enter Try.func54, Try.ntmps54; go_upto_region 1 with (fail); rw [HW0.out]; go_wp2; go_ret; exact ⟨rfl, HB0.out⟩
  · go_enter Try.func54, Try.ntmps54; go_upto_region 1 with (fail); rw [HW0.out]; cases r
    · go_wp2; go_ret; exact ⟨rfl, HB0.out⟩
    · go_wp2; go_ret; exact ⟨rfl, HB0.out⟩
theorem rmates_any (a b : Rec) (w : World) (ha : RecQ a) (hb : RecQ b) :
    Calls Try.prog 54 #[.agg (recC a), .agg (recC b)] w fun e w' => e = .returned (.bool (mates a b)) ∧ Below w.heap.size w w' := by
  refine rmates_core w (recC a) (recC b) a.e.mate a.zone a.off b.e.mate b.zone b.off (mates a b) (fun W g h => rec_cells ha h) (fun W g h => rec_cells hb h) ?_; unfold mates; by_cases h1 : a.e.mate = b.zone
  · by_cases h2 : b.e.mate = a.zone
    · refine .inr (.inr ⟨h1, h2, ?_⟩); simp only [h1, h2, decide_true, Bool.true_and]; by_cases h3 : a.off = b.off <;> simp [h3]
    · exact .inr (.inl ⟨h1, by simp [h2], by simp [h2]⟩)
  · exact .inl ⟨by simp [h1], by simp [h1]⟩
end Go.Proofs.Ytoiephmngdecaaa
namespace Go.Proofs.Ytoiephmngdecaaa
open Go.RowKit Go.Rv Rl Frm
set_option linter.unusedVariables false
/-- the row of ints that tells which blocks are single -/
def sgC (l : List Int) : Array Value := (l.map (Value.int .i64)).toArray
theorem sgC_set (l : List Int) (j : Nat) (x : Int) : (sgC l).setIfInBounds j (.int .i64 x) = sgC (l.set j x) := by
  unfold sgC; apply Array.toList_inj.1; rw [Array.toList_setIfInBounds]; simp [List.map_set]
theorem sgC_at (l : List Int) (j : Nat) (h : j < l.length) : (sgC l)[j]? = some (.int .i64 (l.getD j 0)) := by
  unfold sgC; simp [List.getElem?_eq_getElem h]
/-- the roller in block q: its map, its single blocks, its open group -/
structure RolIs (w : World) (B q p le ll ce cl sb : Nat) (g : Geo.G) (v : Value) (st : St) : Prop where
  hq : w.heap[q]? = some (.cells (rolC p st.first st.count v sb st.single.length st.applied) 99 (0, 0))
  hv : OwnM w 104 41 chC ChQ B v st.ol
  hm : BmIs w p le ll ce cl g st.es (liveL (nz g) st.es)
  hs : w.heap[sb]? = some (.cells (sgC st.single) 3 (0, 0))
  hB : B ≤ q ∧ B ≤ p ∧ B ≤ le ∧ B ≤ ll ∧ B ≤ sb ∧ B ≤ w.heap.size
  hok : MapOk g st.es
  hn : st.single.length = g.b.toNat
  hne : sb ≠ ll
theorem RolIs.ne {w : World} {B q p le ll ce cl sb : Nat} {g : Geo.G} {v : Value} {st : St} (h : RolIs w B q p le ll ce cl sb g v st) : q ≠ p ∧ q ≠ le ∧ q ≠ ll ∧ q ≠ sb ∧ sb ≠ p ∧ sb ≠ le ∧ (∀ k, v.ownBlock = some k → k ≠ q ∧ k ≠ p ∧ k ≠ le ∧ k ≠ ll ∧ k ≠ sb) := by
  obtain ⟨L, hL, -⟩ := h.hm.he; obtain ⟨V, hV, -⟩ := h.hm.hl; have hq := h.hq; have hp := h.hm.hp; have hs := h.hs; refine ⟨fun e => ?_, fun e => ?_, fun e => ?_, fun e => ?_, fun e => ?_, fun e => ?_, fun k hk => ?_⟩
  · subst e; have := hq.symm.trans hp; simp at this
  · subst e; have := hq.symm.trans hL; simp at this
  · subst e; have := hq.symm.trans hV; simp at this
  · subst e; have := hq.symm.trans hs; simp at this
  · subst e; have := hs.symm.trans hp; simp at this
  · subst e; have := hs.symm.trans hL; simp at this
  · obtain ⟨-, C, hC⟩ := h.hv.base_le hk; refine ⟨fun e => ?_, fun e => ?_, fun e => ?_, fun e => ?_, fun e => ?_⟩
    · subst e; have := hC.symm.trans hq; simp at this
    · subst e; have := hC.symm.trans hp; simp at this
    · subst e; have := hC.symm.trans hL; simp at this
    · subst e; have := hC.symm.trans hV; simp at this
    · subst e; have := hC.symm.trans hs; simp at this
theorem RolIs.below {w w' : World} {B q p le ll ce cl sb : Nat} {g : Geo.G} {v : Value} {st : St} (h : RolIs w B q p le ll ce cl sb g v st) (hb : Below w.heap.size w w') : RolIs w' B q p le ll ce cl sb g v st :=
  ⟨(hb.block _ (Array.getElem?_eq_some_iff.1 h.hq).1).trans h.hq, h.hv.below hb, h.hm.below hb, (hb.block _ (Array.getElem?_eq_some_iff.1 h.hs).1).trans h.hs, by have := hb.size; have := h.hB; omega, h.hok, h.hn, h.hne⟩
/-- the map is written -/
theorem RolIs.map {w w' : World} {B q p le ll ce cl sb : Nat} {g : Geo.G} {v : Value} {st : St} (h : RolIs w B q p le ll ce cl sb g v st) {es : List BE} (hm : BmIs w' p le ll ce cl g es (liveL (nz g) es)) (hok : MapOk g es) (hO : Only [le, ll] w w') : RolIs w' B q p le ll ce cl sb g v { st with es := es } := by
  obtain ⟨-, n2, n3, n4, n5, n6, nv⟩ := h.ne; exact ⟨hO.get h.hq (by simp [n2, n3]), h.hv.only hO (fun k hk => by have := nv k hk; simp [this]), hm, hO.get h.hs (by simp [n6, h.hne]), by have := hO.size; have := h.hB; omega, hok, h.hn, h.hne⟩
/-- a block is marked, or not -/
theorem RolIs.mark {w : World} {B q p le ll ce cl sb : Nat} {g : Geo.G} {v : Value} {st : St} (h : RolIs w B q p le ll ce cl sb g v st) (j : Nat) (x : Int) : RolIs (w.setCell ⟨sb, j, none⟩ (.int .i64 x)) B q p le ll ce cl sb g v { st with single := st.single.set j x } := by
  obtain ⟨-, n2, n3, n4, n5, n6, nv⟩ := h.ne; have hO : Only [sb] w (w.setCell ⟨sb, j, none⟩ (.int .i64 x)) := (Only.refl _ _).setCell (.inl (by simp)) _; refine ⟨?_, h.hv.only hO (fun k hk => by have := nv k hk; simp [this]), h.hm.only hO (by simp [Ne.symm n5]) (by simp [Ne.symm n6]) (by simp [Ne.symm h.hne]), ?_, by have := hO.size; have := h.hB; omega, h.hok, by simpa using h.hn, h.hne⟩
  · have := hO.get h.hq (by simp [n4]); simpa using this
  · rw [heap_setCell_same w sb j _ _ _ h.hs, sgC_set]
/-- the roller's own cells are written -/
theorem RolIs.cells {w w' : World} {B q p le ll ce cl sb : Nat} {g : Geo.G} {v v' : Value} {st : St} (h : RolIs w B q p le ll ce cl sb g v st) (first count applied : Int) (ol : List Ch) (hO : Only [q] w w')
    (hq : w'.heap[q]? = some (.cells (rolC p first count v' sb st.single.length applied) 99 (0, 0))) (hv : OwnM w' 104 41 chC ChQ B v' ol) : RolIs w' B q p le ll ce cl sb g v' { st with first := first, count := count, applied := applied, ol := ol } := by
  obtain ⟨n1, n2, n3, n4, n5, n6, nv⟩ := h.ne; exact ⟨hq, hv, h.hm.only hO (by simp [Ne.symm n1]) (by simp [Ne.symm n2]) (by simp [Ne.symm n3]), hO.get h.hs (by simp [Ne.symm n4]), by have := hO.size; have := h.hB; omega, h.hok, h.hn, h.hne⟩
/-- the roller's cells, one by one -/
theorem RolIs.own {w : World} {B q p le ll ce cl sb : Nat} {g : Geo.G} {v : Value} {st : St} (h : RolIs w B q p le ll ce cl sb g v st) : w.cell? ⟨q, 256, none⟩ = some (.pointer (some ⟨p, 0, none⟩)) ∧ w.cell? ⟨q, 257, none⟩ = some (.int .i64 st.first) ∧ w.cell? ⟨q, 258, none⟩ = some (.int .i64 st.count) ∧ w.cell? ⟨q, 259, none⟩ = some v ∧ w.cell? ⟨q, 260, none⟩ = some (.slice (some ⟨sb, 0, none⟩) st.single.length st.single.length) ∧ w.cell? ⟨q, 261, none⟩ = some (.int .i64 st.applied) := rolC_cells h.hq
theorem RolIs.one {w : World} {B q p le ll ce cl sb : Nat} {g : Geo.G} {v : Value} {st : St} (h : RolIs w B q p le ll ce cl sb g v st) {j : Nat} (hj : j < st.single.length) : w.cell? ⟨sb, j, none⟩ = some (.int .i64 (st.single.getD j 0)) ∧ w.frozen? ⟨sb, j, none⟩ = false :=
  ⟨(cell_of_row _ _ _ _ _ _ h.hs).trans (sgC_at _ _ hj), frozen_of_row _ _ _ _ _ h.hs⟩
end Go.Proofs.Ytoiephmngdecaaa
namespace Go.Rv
open Go.RowKit
theorem wpList_build_on {P : Program} {ops : Array Oper} {rest : List Oper} {o : Oper} {a : Act} {w : World} {Q : Exit → Act → World → Prop} (hgd : Region.wanted o (yielded ops a.tmps) = true) (ty : TypeId) (parts : Array (Nat × Operand)) (ho : o.op = .build ty parts)
    (ps : Array (Nat × Value)) (hp : parts.map (fun (i, x) => (i, a.eval x)) = ps) (cells : Array Value) (hr : P.built ty ps.toList = some cells)
    (h : wpList P ops Q rest (a.put o.dst (.agg cells)) w) : wpList P ops Q (o :: rest) a w := by
  unfold wpList; rw [if_pos hgd]; refine .inl ?_; unfold Oper.wp execOp; have h1 := run_build (P := P) w ty ps cells hr; simp only [ho, hp, Sem.run_bind, Sem.run_pure, h1, Result.andThen_ok]; exact h
end Go.Rv
