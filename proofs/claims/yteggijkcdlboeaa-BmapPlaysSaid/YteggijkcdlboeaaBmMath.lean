/- Plain laws: how many blocks lie in a zone, when an entry is set. -/
import Derived.Test.YteggijkcdlboeaaBmRightAny
namespace Go.Proofs.Yteggijkcdlboeaa
open Go.RowKit Go.Rv
set_option linter.unusedVariables false
/-- does an entry lie in a zone? -/
def hits (e : BE) (j : Int) : Bool := e.st == 1 && (e.z == j || e.m == j)
def liveN (es : List BE) (j : Int) : Nat := (es.filter fun e => hits e j).length
/-- how many lie in each of n zones -/
def liveL (n : Nat) (es : List BE) : List Int := (List.range n).map fun (j : Nat) => (liveN es j : Int)
theorem liveL_length (n : Nat) (es : List BE) : (liveL n es).length = n := by simp [liveL]
theorem liveL_at {n : Nat} {es : List BE} {j : Nat} (h : j < n) : (liveL n es)[j]? = some (liveN es j : Int) := by
  simp only [liveL, List.getElem?_map, List.getElem?_range h, Option.map_some]
theorem liveN_set : ∀ (es : List BE) (k : Nat) (old e : BE) (j : Int), es[k]? = some old → (liveN (es.set k e) j : Int) = liveN es j - (if hits old j then 1 else 0) + (if hits e j then 1 else 0)
  | [], k, old, e, j, h => by simp at h
  | x :: es, 0, old, e, j, h => by
    simp at h
    subst h
    simp only [List.set_cons_zero, liveN, List.filter_cons]
    cases h1 : hits x j <;> cases h2 : hits e j <;> simp <;> omega
  | x :: es, k + 1, old, e, j, h => by
    have ih := liveN_set es k old e j (by simpa using h)
    simp only [List.set_cons_succ, liveN, List.filter_cons] at ih ⊢
    cases h1 : hits x j <;> simp <;> omega
theorem liveN_le (es : List BE) (j : Int) : liveN es j ≤ es.length := List.length_filter_le _ _
/-- counted into two lists -/
def addE (lv : List Int) (e : BE) (b : Int) : List Int := if e.st = 1 then (lv.set e.z.toNat (lv.getD e.z.toNat 0 + b)).set e.m.toNat ((lv.set e.z.toNat (lv.getD e.z.toNat 0 + b)).getD e.m.toNat 0 + b) else lv
theorem addE_length (lv : List Int) (e : BE) (b : Int) : (addE lv e b).length = lv.length := by
  unfold addE
  split <;> simp
/-- an entry whose zones, if it lives, are two of n -/
def ZOk (n : Nat) (e : BE) : Prop := e.st = 1 → (0 ≤ e.z ∧ e.z < n) ∧ (0 ≤ e.m ∧ e.m < n) ∧ e.z ≠ e.m
theorem addE_at {n : Nat} {lv : List Int} {e : BE} {b : Int} (hl : lv.length = n) (hz : ZOk n e) {j : Nat} (hj : j < n) : (addE lv e b).getD j 0 = lv.getD j 0 + if hits e j then b else 0 := by
  unfold addE
  by_cases h1 : e.st = 1
  · obtain ⟨⟨hz1, hz2⟩, ⟨hm1, hm2⟩, hne⟩ := hz h1
    rw [if_pos h1]
    obtain ⟨z, hzz⟩ := Int.eq_ofNat_of_zero_le hz1
    obtain ⟨m, hmm⟩ := Int.eq_ofNat_of_zero_le hm1
    have hzm : z ≠ m := fun e => hne (by rw [hzz, hmm, e])
    have hh : hits e j = (z == j || m == j) := by
      simp only [hits, h1, hzz, hmm, beq_self_eq_true, Bool.true_and]
      rw [Bool.eq_iff_iff]
      simp
      omega
    rw [hzz, hmm, hh]
    simp only [Int.toNat_natCast]
    have e1 : z < lv.length := by omega
    have e2 : m < lv.length := by omega
    have e3 : j < lv.length := by omega
    simp only [List.getD_eq_getElem?_getD, List.getElem?_set, List.length_set]
    by_cases a1 : m = j
    · subst a1
      have : z ≠ m := hzm
      simp [this, e2]
    · by_cases a2 : z = j
      · subst a2
        simp [a1, e1]
      · simp [a1, a2]
  · rw [if_neg h1]
    have : hits e j = false := by simp [hits, h1]
    rw [this]
    simp
/-- a block is set: the lists follow -/
theorem liveL_step {n : Nat} {es : List BE} {k : Nat} {old e : BE} (hk : es[k]? = some old) (ho : ZOk n old) (he : ZOk n e) : addE (addE (liveL n es) old (-1)) e 1 = liveL n (es.set k e) := by
  have hl1 : (addE (liveL n es) old (-1)).length = n := by rw [addE_length, liveL_length]
  apply List.ext_getElem?
  intro j
  by_cases hj : j < n
  · have e1 : j < (addE (addE (liveL n es) old (-1)) e 1).length := by rw [addE_length, hl1]; exact hj
    have h1 := addE_at (b := 1) hl1 he hj
    have h2 := addE_at (b := -1) (liveL_length n es) ho hj
    have h3 := liveN_set es k old e j hk
    have h4 : (liveL n es).getD j 0 = (liveN es j : Int) := by rw [List.getD_eq_getElem?_getD, liveL_at hj]; rfl
    rw [liveL_at hj, List.getElem?_eq_getElem e1]
    have h5 : (addE (addE (liveL n es) old (-1)) e 1).getD j 0 = (addE (addE (liveL n es) old (-1)) e 1)[j] := by rw [List.getD_eq_getElem?_getD, List.getElem?_eq_getElem e1]; rfl
    rw [← h5, h1, h2, h4, h3]
    congr 1
    split <;> split <;> omega
  · rw [List.getElem?_eq_none (by rw [addE_length, hl1]; omega), List.getElem?_eq_none (by rw [liveL_length]; omega)]
theorem zok_of_right {g : Geo.G} {e : BE} (hs : Geo.Small g) (h : beRight g e = true) : ZOk (g.d * g.z).toNat e := by
  intro h1
  unfold beRight at h
  rw [if_neg (by omega), if_pos h1] at h
  unfold beLive holdsG at h
  simp only [Bool.and_eq_true, decide_eq_true_eq, Geo.inB_iff] at h
  obtain ⟨⟨-, ⟨a1, a2⟩, -⟩, ⟨-, ⟨b1, b2⟩, -⟩, hd, -⟩ := h
  have hb := Geo.dz_bd hs
  refine ⟨⟨a1, by omega⟩, ⟨b1, by omega⟩, fun e' => hd (by rw [e'])⟩
theorem st_of_right {g : Geo.G} {e : BE} (h : beRight g e = true) : e.st = 0 ∨ e.st = 1 ∨ e.st = 2 := by
  unfold beRight at h
  split at h
  · rename_i h0; omega
  · split at h
    · rename_i h1; exact .inr (.inl h1)
    · cases h
theorem zero_right (g : Geo.G) : beRight g BE.zero = true := by unfold beRight BE.zero; simp
/-- a map that may be: as many entries as there are blocks, each of them right; its counts are theirs -/
structure MapOk (g : Geo.G) (es : List BE) : Prop where
  len : (es.length : Int) = g.b
  ok : ∀ e ∈ es, beRight g e = true ∧ E64 e
theorem MapOk.set {g : Geo.G} {es : List BE} (h : MapOk g es) {e : BE} (he : beRight g e = true) (hn : E64 e) (k : Nat) : MapOk g (es.set k e) :=
  ⟨by rw [List.length_set]; exact h.len, fun x hx => by
    rcases List.mem_or_eq_of_mem_set hx with h1 | h1
    · exact h.ok x h1
    · rw [h1]; exact ⟨he, hn⟩⟩
end Go.Proofs.Yteggijkcdlboeaa
