/- A law over any program: a region that draws its order and in which a few operations, each behind the one before it, turn the world stage by stage; each operation is looked at once. -/
import Derived.Test.YtogijlpclceanaaConf3
namespace Go.Rv
open Go.RowKit
set_option linter.unusedVariables false
def DepsV (V : List Value) (v : Nat → Value) : List Edge → Prop
  | [] => True
  | e :: r => (Region.binds .any e = true → v e.on = V.getD e.on undef) ∧ DepsV V v r
/-- lower bounds of the stage: an operation that is over, or may begin, tells that so many of the list are over -/
def loOk (ms lo : List Nat) : Nat → List Oper → Bool
  | _, [] => true
  | i, o :: r => (lo.getD i 0 == 0 || (match ms.idxOf? i with | some k => decide (lo.getD i 0 ≤ k + 1) | none => o.after.any fun e => Region.binds .any e && decide (lo.getD i 0 ≤ lo.getD e.on 0))) && loOk ms lo (i + 1) r
theorem loOk_at {ms lo : List Nat} : ∀ {k : Nat} {l : List Oper}, loOk ms lo k l = true → ∀ {i : Nat} {o : Oper}, l[i]? = some o → lo.getD (k + i) 0 = 0 ∨ (∃ m, ms.idxOf? (k + i) = some m ∧ lo.getD (k + i) 0 ≤ m + 1) ∨ (ms.idxOf? (k + i) = none ∧ ∃ e ∈ o.after, Region.binds .any e = true ∧ lo.getD (k + i) 0 ≤ lo.getD e.on 0)
  | _, [], _, _, _, h => by simp at h
  | k, x :: r, h, 0, o, ho => by
    simp at ho
    subst ho
    simp only [loOk, Bool.and_eq_true, Bool.or_eq_true, beq_iff_eq] at h
    rcases h.1 with h1 | h1
    · exact .inl h1
    · cases hm : ms.idxOf? k with
      | some m =>
        rw [hm] at h1
        exact .inr (.inl ⟨m, by rw [← hm], by simpa using h1⟩)
      | none =>
        rw [hm] at h1
        obtain ⟨e, he, h3⟩ := Array.any_eq_true.1 h1
        rw [Bool.and_eq_true, decide_eq_true_eq] at h3
        exact .inr (.inr ⟨by rw [← hm], x.after[e], Array.getElem_mem _, h3⟩)
  | k, x :: r, h, i + 1, o, ho => by
    simp only [loOk, Bool.and_eq_true] at h
    have := loOk_at h.2 (i := i) (o := o) (by simpa using ho)
    rwa [show k + 1 + i = k + (i + 1) by omega] at this
def Obl5 (P : Program) (ops : Array Oper) (Q : Exit → Act → World → Prop) (A : (Nat → Value) → Act) (V : List Value) (ms lo : List Nat) (I : Nat → World → Prop) (i : Nat) (o : Oper) : Prop :=
  match ms.idxOf? i with
  | none => ∀ (v : Nat → Value) (w : World) (K : Act → World → Prop) (s : Nat), lo.getD i 0 ≤ s → I s w → DepsV V v o.after.toList →
      Hid (∀ u w', Below w.heap.size w w' → u = V.getD i undef → K ((A v).put o.dst u) w') → wpList P ops (Exit.then K Q) [o] (A v) w
  | some k => ∀ (v : Nat → Value) (w : World) (K : Act → World → Prop), I k w → DepsV V v o.after.toList →
      Hid (∀ u w', I (k + 1) w' → u = V.getD i undef → K ((A v).put o.dst u) w') → wpList P ops (Exit.then K Q) [o] (A v) w
def Obls5 (P : Program) (ops : Array Oper) (Q : Exit → Act → World → Prop) (A : (Nat → Value) → Act) (V : List Value) (ms lo : List Nat) (I : Nat → World → Prop) : Nat → List Oper → Prop
  | _, [] => True
  | i, o :: r => Obl5 P ops Q A V ms lo I i o ∧ Obls5 P ops Q A V ms lo I (i + 1) r
theorem Obls5.at {P : Program} {ops : Array Oper} {Q : Exit → Act → World → Prop} {A : (Nat → Value) → Act} {V : List Value} {ms lo : List Nat} {I : Nat → World → Prop} : ∀ {k : Nat} {l : List Oper}, Obls5 P ops Q A V ms lo I k l → ∀ {i : Nat} {o : Oper}, l[i]? = some o → Obl5 P ops Q A V ms lo I (k + i) o
  | _, [], _, _, _, h => by simp at h
  | k, _ :: r, h, 0, _, ho => by simp at ho; subst ho; exact h.1
  | k, _ :: r, h, i + 1, _, ho => by
    have := Obls5.at h.2 (i := i) (by simpa using ho)
    rwa [show k + 1 + i = k + (i + 1) by omega] at this
/-- each operation of the list but the first one waits for the one before it -/
def chainMs (ops : Array Oper) : List Nat → Bool
  | [] => true
  | [_] => true
  | a :: b :: r => (match ops[b]? with | some o => o.after.any fun e => Region.binds .any e && e.on == a | none => false) && chainMs ops (b :: r)
def incMs (n : Nat) : List Nat → Bool
  | [] => true
  | [a] => decide (a < n)
  | a :: b :: r => decide (a < b) && incMs n (b :: r)
theorem chainMs_at {ops : Array Oper} : ∀ {ms : List Nat}, chainMs ops ms = true → ∀ {k a b : Nat}, ms[k]? = some a → ms[k + 1]? = some b → ∃ o, ops[b]? = some o ∧ ∃ e ∈ o.after, Region.binds .any e = true ∧ e.on = a
  | [], _, k, a, b, h, _ => by simp at h
  | [x], _, k, a, b, _, h => by simp at h
  | x :: y :: r, hc, 0, a, b, h1, h2 => by
    simp at h1 h2
    subst h1 h2
    simp only [chainMs, Bool.and_eq_true] at hc
    cases ho : ops[y]? with
    | none => rw [ho] at hc; simp at hc
    | some o =>
      rw [ho] at hc
      obtain ⟨e, he, h3⟩ := Array.any_eq_true.1 hc.1
      rw [Bool.and_eq_true, beq_iff_eq] at h3
      exact ⟨o, rfl, o.after[e], Array.getElem_mem _, h3⟩
  | x :: y :: r, hc, k + 1, a, b, h1, h2 => by
    simp only [chainMs, Bool.and_eq_true] at hc
    exact chainMs_at hc.2 (k := k) (by simpa using h1) (by simpa using h2)
theorem incMs_lt {n : Nat} : ∀ {ms : List Nat}, incMs n ms = true → ∀ {k a : Nat}, ms[k]? = some a → a < n ∧ ∀ j b, k < j → ms[j]? = some b → a < b
  | [], _, k, a, h => by simp at h
  | [x], hc, k, a, h => by
    match k, h with
    | 0, h =>
      simp at h
      subst h
      simp only [incMs, decide_eq_true_eq] at hc
      exact ⟨hc, fun j b hj hb => by
        have := (List.getElem?_eq_some_iff.1 hb).1
        simp at this
        omega⟩
  | x :: y :: r, hc, k, a, h => by
    simp only [incMs, Bool.and_eq_true, decide_eq_true_eq] at hc
    match k, h with
    | 0, h =>
      simp at h
      subst h
      have hy := incMs_lt hc.2 (k := 0) (a := y) (by simp)
      refine ⟨by omega, fun j b hj hb => ?_⟩
      match j, hj, hb with
      | 1, _, hb => simp at hb; omega
      | j + 2, _, hb =>
        have := hy.2 (j + 1) b (by omega) (by simpa using hb)
        omega
    | k + 1, h =>
      obtain ⟨h1, h2⟩ := incMs_lt hc.2 (k := k) (a := a) (by simpa using h)
      exact ⟨h1, fun j b hj hb => by
        match j, hj, hb with
        | j + 1, hj, hb => exact h2 j b (by omega) (by simpa using hb)⟩
theorem incMs_inj {n : Nat} {ms : List Nat} (h : incMs n ms = true) {j k a : Nat} (hj : ms[j]? = some a) (hk : ms[k]? = some a) : j = k := by
  by_cases h1 : j < k
  · have := (incMs_lt h hj).2 k a h1 hk; omega
  · by_cases h2 : k < j
    · have := (incMs_lt h hk).2 j a h2 hj; omega
    · omega
theorem idx_none {ms : List Nat} {i : Nat} (h : ms.idxOf? i = none) : ∀ k : Nat, ms[k]? ≠ some i := by
  intro k hk
  have := List.mem_of_getElem? hk
  rw [List.idxOf?_eq_none_iff] at h
  exact h this
theorem idx_some : ∀ {ms : List Nat} {i k : Nat}, ms.idxOf? i = some k → ms[k]? = some i
  | [], i, k, h => by simp at h
  | x :: r, i, k, h => by
    rw [List.idxOf?_cons] at h
    split at h
    · rename_i hx
      simp at h hx
      subst h hx
      rfl
    · simp only [Option.map_eq_some_iff] at h
      obtain ⟨j, hj, rfl⟩ := h
      simpa using idx_some hj
theorem wp_region_stage {P : Program} {ops : Array Oper} {Q : Exit → Act → World → Prop} {a0 : Act} {w0 : World} {id : Nat} (n : Nat) (V : List Value) (ms lo : List Nat) (I : Nat → World → Prop) (A : (Nat → Value) → Act) (hm : P.follows .mixedOrders = true) (hok : confOk ops n = true) (hms : (chainMs ops ms && incMs n ms && loOk ms lo 0 (ops.toList.take n)) = true)
    (hA : ∀ v, putAll v 0 (ops.toList.take n) a0 = A v) (h0 : I 0 w0.drew) (hIb : ∀ s w w', I s w → Below w.heap.size w w' → I s w') (ho : Obls5 P ops Q A V ms lo I 0 (ops.toList.take n))
    (hend : ∀ v w, I ms.length w → (∀ j, j < n → v j = V.getD j undef) → wpList P ops Q (ops.toList.drop n) (A v) w) : (Code.region id ops true).wp P Q a0 w0 := by
  rw [Bool.and_eq_true, Bool.and_eq_true] at hms
  obtain ⟨⟨hch, hinc⟩, hlok⟩ := hms
  refine wp_region_conf3 n (fun L v w => (∀ j, j < n → L.getD j false = true → v j = V.getD j undef) ∧ ∃ s, (∀ k m, ms[k]? = some m → (L.getD m false = true ↔ k < s)) ∧ s ≤ ms.length ∧ (∀ j, j < n → L.getD j false = true → lo.getD j 0 ≤ s) ∧ I s w) A hm hok hA ?_ ?_ ?_
  · intro i o hin hoi L v w K hui hdep ⟨hv, s, hs, hsl, hls, hI⟩ HK
    have hilt : i < L.size := by
      rcases Nat.lt_or_ge i L.size with h | h
      · exact h
      · simp [Array.getElem?_eq_none h] at hui
    have hif : L.getD i false = false := by simp [hilt] at hui ⊢; exact hui
    have hit : (L.setIfInBounds i true).getD i false = true := by simp [hilt]
    have hdv : ∀ l : List Edge, (∀ e ∈ l, e ∈ o.after) → DepsV V v l := by
      intro l
      induction l with
      | nil => intro _; exact trivial
      | cons e r ihl =>
        intro hl
        refine ⟨fun hb => hv e.on ?_ (hdep e (hl e (by simp)) hb), ihl fun x hx => hl x (by simp [hx])⟩
        have hbk : edgesBack 0 ops.toList = true := by
          simp only [confOk, Bool.and_eq_true] at hok
          exact hok.1.1.1.1.2
        have := edgesBack_spec hbk (i := i) (o := o) (by simpa using hoi) e (hl e (by simp)) hb
        omega
    have hdv := hdv o.after.toList (fun e he => by simpa using he)
    have ob := ho.at (i := i) (o := o) (by simp [hin, hoi])
    rw [Nat.zero_add] at ob
    have hv' : ∀ u, u = V.getD i undef → ∀ j, j < n → (L.setIfInBounds i true).getD j false = true → upd v i u j = V.getD j undef := fun u hu j hj hl => by
      by_cases hji : j = i
      · subst hji
        rw [show upd v j u j = u by simp [upd], hu]
      · rw [show upd v i u j = v j by simp [upd, hji]]
        rw [getD_set_ne false (Ne.symm hji)] at hl
        exact hv j hj hl
    unfold Obl5 at ob
    split at ob
    · rename_i hno
      have hlo : lo.getD i 0 ≤ s := by
        have hat := loOk_at hlok (i := i) (o := o) (by simp [hin, hoi])
        rw [Nat.zero_add] at hat
        rcases hat with h | ⟨m, h, _⟩ | ⟨_, e, he, hb, h⟩
        · omega
        · rw [hno] at h; cases h
        · have hbk : edgesBack 0 ops.toList = true := by
            simp only [confOk, Bool.and_eq_true] at hok
            exact hok.1.1.1.1.2
          have := edgesBack_spec hbk (i := i) (o := o) (by simpa using hoi) e he hb
          have := hls e.on (by omega) (hdep e he hb)
          omega
      refine ob v w K s hlo hI hdv (Lib.hid fun u w' hB hu => HK.out u w' ⟨hv' u hu, s, fun k m hk => ?_, hsl, fun j hj hl => ?_, hIb s w w' hI hB⟩)
      · rw [getD_set_ne false (fun e => idx_none hno k (by rw [hk, e]))]
        exact hs k m hk
      · by_cases hji : j = i
        · rw [hji]; exact hlo
        · rw [getD_set_ne false (Ne.symm hji)] at hl
          exact hls j hj hl
    · rename_i k0 hsome
      have hk0 := idx_some hsome
      have hkl : k0 < ms.length := (List.getElem?_eq_some_iff.1 hk0).1
      have hsk : s = k0 := by
        have h1 : ¬ k0 < s := fun h => by
          have := (hs k0 i hk0).2 h
          rw [hif] at this
          cases this
        match k0, hk0, h1 with
        | 0, _, h1 => omega
        | j + 1, hk0, h1 =>
          obtain ⟨a, ha⟩ : ∃ a, ms[j]? = some a := ⟨_, List.getElem?_eq_getElem (by have := (List.getElem?_eq_some_iff.1 hk0).1; omega)⟩
          obtain ⟨o', ho', e, he, hb, hea⟩ := chainMs_at hch ha hk0
          rw [hoi] at ho'
          cases ho'
          have h2 := hdep e he hb
          rw [hea] at h2
          have := (hs j a ha).1 h2
          omega
      subst hsk
      refine ob v w K hI hdv (Lib.hid fun u w' hI' hu => HK.out u w' ⟨hv' u hu, s + 1, fun k m hk => ?_, by omega, fun j hj hl => ?_, hI'⟩)
      · by_cases e : m = i
        · subst e
          have := incMs_inj hinc hk hk0
          subst this
          rw [hit]
          simp
        · rw [getD_set_ne false (Ne.symm e), hs k m hk]
          have : k ≠ s := fun h => by
            rw [h, hk0] at hk
            cases hk
            exact e rfl
          omega
      · by_cases hji : j = i
        · subst hji
          have hat := loOk_at hlok (i := j) (o := o) (by simp [hin, hoi])
          rw [Nat.zero_add] at hat
          rcases hat with h | ⟨m, h, h'⟩ | ⟨h, _⟩
          · omega
          · rw [hsome] at h; cases h; exact h'
          · rw [hsome] at h; cases h
        · rw [getD_set_ne false (Ne.symm hji)] at hl
          have := hls j hj hl
          omega
  · intro v
    refine ⟨fun j hj hl => (by rw [getD_replicate_false] at hl; cases hl), 0, fun k m hk => ?_, Nat.zero_le _, fun j hj hl => (by rw [getD_replicate_false] at hl; cases hl), h0⟩
    rw [getD_replicate_false]
    simp
  · intro v w ⟨hv, s, hs, hsl, _, hI⟩
    have hall : ∀ j, j < n → (headListed n (ops.size - n)).getD j false = true := fun j hj => by
      simp only [headListed]
      rw [Array.getD_eq_getD_getElem?, List.getElem?_toArray, List.getElem?_append_left (by simpa using hj)]
      simp [hj]
    have hsn : s = ms.length := by
      rcases Nat.lt_or_ge s ms.length with h | h
      · have h1 : ms[s]? = some ms[s] := List.getElem?_eq_getElem h
        have h2 := (hs s _ h1).1 (hall _ (incMs_lt hinc h1).1)
        omega
      · omega
    subst hsn
    exact hend v w hI (fun j hj => hv j hj (hall j hj))
theorem conf5Rules : (∀ (V : List Value) (v : Nat → Value), DepsV V v [] = True) ∧ (∀ (V : List Value) (v : Nat → Value) (e : Edge) (r : List Edge), DepsV V v (e :: r) = ((Region.binds .any e = true → v e.on = V.getD e.on undef) ∧ DepsV V v r)) ∧ (∀ (x : Value) l d, (x :: l).getD 0 d = x) ∧ (∀ (x : Value) l n d, (x :: l).getD (n + 1) d = l.getD n d) :=
  ⟨fun _ _ => rfl, fun _ _ _ _ => rfl, fun _ _ _ => rfl, fun _ _ _ _ => rfl⟩
end Go.Rv
