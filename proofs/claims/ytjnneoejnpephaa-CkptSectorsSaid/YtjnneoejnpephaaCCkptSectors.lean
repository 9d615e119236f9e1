/- Proved here, one behind the other: A law over any program: as Conf8, but one operation more may turn what the region has made (an append into a row of the region's own); A law over any program: as Conf9, but the row that is stored is told by a slot; Laws over any program: things are appended to a row that has no room for them: nothing that was there turns; Proved here: the contract of the document's Num: a number's bytes, in memory of the call's own; Proved here: the document's bytes as a body; Proved here: the document's bytes of an entry; Proved here: the document's frames of a snapshot; Proved here: the walk of the law on a snapshot's frames; Proved here: the contract of the document's Read: the number of bytes; Proved here: the contracts of the document's own functions (Over, Sum): what each answers, and that it leaves the world alone; Proved here: the contract of the document's Right of a frame; Under way: the contract of the reference's Read of a sector; Under way: the contract of the reference's Bytes of a frame; Proved here: the walk of the law on a copy's sectors; Proved here: rows of sectors, as they come in. -/
import Derived.Deep.QuietTactic
import Derived.BigQuiet
import Derived.Deep.Cut
import Derived.Deep.CutRange
import Derived.IntWalk
import Derived.LoopTactic
import Derived.Test.YtjnneoejnpephaaBa
import Derived.Test.YtjnneoejnpephaaBc
import Derived.Test.YtjnneoejnpephaaBn
import Derived.Test.YtjnneoejnpephaaBs
import Derived.Test.YtjnneoejnpephaaBt
import Derived.Test.YtjnneoejnpephaaBk
namespace Go.Rv
open Go.RowKit
set_option linter.unusedVariables false
def Obl9 (P : Program) (ops : Array Oper) (Q : Exit → Act → World → Prop) (A : (Nat → Value) → Act) (w0 : World) (F : List Fact) (ia is iw : Nat) (Z X : Array Value) (t : TypeId) (i : Nat) (o : Oper) : Prop :=
  cond (i == ia) (∀ (v : Nat → Value) (w : World) (K : Act → World → Prop), Below w0.heap.size w0 w → Deps8 ia F v w o.after.toList →
      Hid (∀ g w', w0.heap.size ≤ g → Below w.heap.size w w' → w'.heap[g]? = some (.cells Z t (0, 0)) → K ((A v).put o.dst (.pointer (some ⟨g, 0, none⟩))) w') → wpList P ops (Exit.then K Q) [o] (A v) w)
    (cond (i == is) (∀ (v : Nat → Value) (w : World) (K : Act → World → Prop) (g : Nat), Below w0.heap.size w0 w → w0.heap.size ≤ g → w.heap[g]? = some (.cells Z t (0, 0)) → v ia = .pointer (some ⟨g, 0, none⟩) → Deps8 ia F v w o.after.toList →
      Hid (∀ u w', w' = w.setRow g X → fp8 F i u w' → K ((A v).put o.dst u) w') → wpList P ops (Exit.then K Q) [o] (A v) w)
    (cond (i == iw) (∀ (v : Nat → Value) (w : World) (K : Act → World → Prop), Below w0.heap.size w0 w → Deps8 ia F v w o.after.toList →
        Hid (∀ u w', Below w0.heap.size w w' → (∀ (g : Nat) (C : Array Value), w.heap[g]? = some (.cells C t (0, 0)) → w'.heap[g]? = some (.cells C t (0, 0))) → fp8 F i u w' → K ((A v).put o.dst u) w') → wpList P ops (Exit.then K Q) [o] (A v) w)
    (∀ (v : Nat → Value) (w : World) (K : Act → World → Prop), Below w0.heap.size w0 w → Deps8 ia F v w o.after.toList →
        Hid (∀ u w', Below w.heap.size w w' → fp8 F i u w' → K ((A v).put o.dst u) w') → wpList P ops (Exit.then K Q) [o] (A v) w)))
def Obls9 (P : Program) (ops : Array Oper) (Q : Exit → Act → World → Prop) (A : (Nat → Value) → Act) (w0 : World) (F : List Fact) (ia is iw : Nat) (Z X : Array Value) (t : TypeId) : Nat → List Oper → Prop
  | _, [] => True
  | i, o :: r => Obl9 P ops Q A w0 F ia is iw Z X t i o ∧ Obls9 P ops Q A w0 F ia is iw Z X t (i + 1) r
theorem Obls9.at {P : Program} {ops : Array Oper} {Q : Exit → Act → World → Prop} {A : (Nat → Value) → Act} {w0 : World} {F : List Fact} {ia is iw : Nat} {Z X : Array Value} {t : TypeId} : ∀ {k : Nat} {l : List Oper}, Obls9 P ops Q A w0 F ia is iw Z X t k l → ∀ {i : Nat} {o : Oper}, l[i]? = some o → Obl9 P ops Q A w0 F ia is iw Z X t (k + i) o
  | _, [], _, _, _, h => by simp at h
  | k, _ :: r, h, 0, _, ho => by simp at ho; subst ho; exact h.1
  | k, _ :: r, h, i + 1, _, ho => by
    have := Obls9.at h.2 (i := i) (by simpa using ho)
    rwa [show k + 1 + i = k + (i + 1) by omega] at this
/-- what is done behind the writing operation leans on lasting facts alone -/
def liveOk (ops : Array Oper) (n iw : Nat) (live : List Nat) : Bool :=
  decide (iw < n) && live.contains iw && (List.range n).all fun i => (i == iw) || (match ops[i]? with | some o => o.after.all fun e => !(Region.binds .any e) || live.contains e.on || (match ops[iw]? with | some ow => ow.after.any fun e' => Region.binds .any e' && e'.on == i | none => false) | none => true)
theorem wp_region_conf9 {P : Program} {ops : Array Oper} {Q : Exit → Act → World → Prop} {a0 : Act} {w0 : World} {id : Nat} (n : Nat) (F : List Fact) (ia is iw : Nat) (live : List Nat) (Z X : Array Value) (t : TypeId) (A : (Nat → Value) → Act) (hm : P.follows .mixedOrders = true) (hok : confOk ops n = true) (hso : storeOk ops [] n ia is = true) (hlw : (liveOk ops n iw live && !(iw == ia) && !(iw == is) && live.contains ia) = true) (hpure : ∀ j u w w', j < n → live.contains j = true → (j == iw) = false → (j == ia) = false → fp8 F j u w → fp8 F j u w')
    (hA : ∀ v, putAll v 0 (ops.toList.take n) a0 = A v) (hFs : ∀ j u w g, j < n → w0.heap.size ≤ g → w.heap[g]? = some (.cells Z t (0, 0)) → fp8 F j u w → fp8 F j u (w.setRow g X)) (ho : Obls9 P ops Q A w0 F ia is iw Z X t 0 (ops.toList.take n))
    (hend : ∀ v w g, Below w0.heap.size w0 w → (∀ j, j < n → (j == ia) = false → live.contains j = true → fp8 F j (v j) w) → v ia = .pointer (some ⟨g, 0, none⟩) → w0.heap.size ≤ g → w.heap[g]? = some (.cells X t (0, 0)) → wpList P ops Q (ops.toList.drop n) (A v) w) : (Code.region id ops true).wp P Q a0 w0 := by
  simp only [storeOk, Bool.and_eq_true, decide_eq_true_eq, Bool.not_eq_true', beq_eq_false_iff_ne] at hso
  obtain ⟨⟨⟨⟨⟨hia, his⟩, hne⟩, -⟩, -⟩, hsd⟩ := hso
  simp only [liveOk, Bool.and_eq_true, decide_eq_true_eq, Bool.not_eq_true', beq_eq_false_iff_ne, List.all_eq_true, List.mem_range] at hlw
  obtain ⟨⟨⟨⟨⟨hiw, hiwl⟩, hlall⟩, hwa⟩, hws⟩, hial⟩ := hlw
  refine wp_region_conf3 n (fun L v w => (∀ j, j < n → j ≠ ia → L.getD j false = true → (L.getD iw false = true → live.contains j = true) → fp8 F j (v j) w) ∧ (L.getD iw false = true → ∀ ow, ops[iw]? = some ow → ∀ e ∈ ow.after, Region.binds .any e = true → L.getD e.on false = true) ∧ Below w0.heap.size w0 w ∧ (L.getD is false = true → L.getD ia false = true) ∧ (L.getD ia false = true → ∃ g, v ia = .pointer (some ⟨g, 0, none⟩) ∧ w0.heap.size ≤ g ∧ w.heap[g]? = some (.cells (cond (L.getD is false) X Z) t (0, 0)))) A hm hok hA ?_ ?_ ?_
  · intro i o hin hoi L v w K hui hdep ⟨hv, hdw, hBw, hsa, hrow⟩ HK
    have hilt : i < L.size := by
      rcases Nat.lt_or_ge i L.size with h | h
      · exact h
      · simp [Array.getElem?_eq_none h] at hui
    have hif : L.getD i false = false := by simp [hilt] at hui ⊢; exact hui
    have hit : (L.setIfInBounds i true).getD i false = true := by simp [hilt]
    have hbk : edgesBack 0 ops.toList = true := by
      simp only [confOk, Bool.and_eq_true] at hok
      exact hok.1.1.1.1.2
    have hdv : ∀ l : List Edge, (∀ e ∈ l, e ∈ o.after) → Deps8 ia F v w l := by
      intro l
      induction l with
      | nil => intro _; exact trivial
      | cons e r ihl =>
        intro hl
        refine ⟨fun hb => ?_, ihl fun x hx => hl x (by simp [hx])⟩
        cases hea : e.on == ia
        · have := edgesBack_spec hbk (i := i) (o := o) (by simpa using hoi) e (hl e (by simp)) hb
          refine hv e.on (by omega) (by simpa using hea) (hdep e (hl e (by simp)) hb) (fun hLw => ?_)
          by_cases hiw2 : i = iw
          · rw [hiw2, hLw] at hif
            cases hif
          · have h1 := hlall i hin
            rw [hoi] at h1
            have h2 : (i == iw) = false := by simpa using hiw2
            rw [h2, Bool.false_or, Array.all_eq_true] at h1
            obtain ⟨k, hk, hke⟩ := Array.getElem_of_mem (hl e (by simp))
            have h3 := h1 k hk
            rw [hke, hb, Bool.not_true, Bool.false_or, Bool.or_eq_true] at h3
            rcases h3 with h3 | h3
            · exact h3
            · exfalso
              obtain ⟨ow, how⟩ : ∃ ow, ops[iw]? = some ow := by
                cases h : ops[iw]? with
                | none => rw [h] at h3; cases h3
                | some ow => exact ⟨ow, rfl⟩
              rw [how] at h3
              obtain ⟨k', hk', h4⟩ := Array.any_eq_true.1 h3
              rw [Bool.and_eq_true, beq_iff_eq] at h4
              have := hdw hLw ow how _ (Array.getElem_mem hk') h4.1
              rw [h4.2, hif] at this
              cases this
        · trivial
    have hdv := hdv o.after.toList (fun e he => by simpa using he)
    have ob := ho.at (i := i) (o := o) (by simp [hin, hoi])
    rw [Nat.zero_add] at ob
    have hdw' : i ≠ iw → (L.setIfInBounds i true).getD iw false = true → ∀ ow, ops[iw]? = some ow → ∀ e ∈ ow.after, Region.binds .any e = true → (L.setIfInBounds i true).getD e.on false = true := fun hne hl ow how e he hb => by
      rw [getD_set_ne false hne] at hl
      have h1 := hdw hl ow how e he hb
      by_cases hei : e.on = i
      · rw [hei]; exact hit
      · rw [getD_set_ne false (Ne.symm hei)]; exact h1
    have hv' : i ≠ iw → ∀ u w', (∀ j, j < n → fp8 F j (v j) w → fp8 F j (v j) w') → (i ≠ ia → fp8 F i u w') → ∀ j, j < n → j ≠ ia → (L.setIfInBounds i true).getD j false = true → ((L.setIfInBounds i true).getD iw false = true → live.contains j = true) → fp8 F j (upd v i u j) w' := fun hne u w' hkeep hu j hj hja hl hlv => by
      rw [getD_set_ne false hne] at hlv
      by_cases hji : j = i
      · subst hji
        rw [show upd v j u j = u by simp [upd]]
        exact hu hja
      · rw [show upd v i u j = v j by simp [upd, hji]]
        rw [getD_set_ne false (Ne.symm hji)] at hl
        exact hkeep j hj (hv j hj hja hl hlv)
    have hbel : ∀ w', Below w.heap.size w w' → ∀ j, j < n → fp8 F j (v j) w → fp8 F j (v j) w' := fun w' hB j _ h => (F.getD j Fact.any).st _ _ _ h hB
    unfold Obl9 at ob
    cases hia' : i == ia
    · rw [hia'] at ob
      have hia2 : i ≠ ia := by simpa using hia'
      cases his' : i == is
      · rw [his'] at ob
        have his2 : i ≠ is := by simpa using his'
        simp only [cond_false] at ob
        cases hiw' : i == iw
        · rw [hiw'] at ob
          have hiw2 : i ≠ iw := by simpa using hiw'
          simp only [cond_false] at ob
          refine ob v w K hBw hdv (Lib.hid fun u w' hB hu => HK.out u w' ⟨hv' hiw2 u w' (hbel w' hB) (fun _ => hu), hdw' hiw2, hBw.trans (hB.mono hBw.size), ?_, ?_⟩)
          · rw [getD_set_ne false his2, getD_set_ne false hia2]
            exact hsa
          · rw [getD_set_ne false his2, getD_set_ne false hia2]
            intro h
            obtain ⟨g, h1, h2, h3⟩ := hrow h
            exact ⟨g, by rw [show upd v i u ia = v ia by simp [upd, Ne.symm hia2]]; exact h1, h2, (hB.block g (Array.getElem?_eq_some_iff.1 h3).1).trans h3⟩
        · rw [hiw'] at ob
          have hiw2 : i = iw := by simpa using hiw'
          subst hiw2
          simp only [cond_true] at ob
          refine ob v w K hBw hdv (Lib.hid fun u w' hB hty hu => HK.out u w' ⟨fun j hj hja hl hlv => ?_, fun _ ow how e he hb => ?_, hBw.trans hB, ?_, ?_⟩)
          · by_cases hji : j = i
            · subst hji
              rw [show upd v j u j = u by simp [upd]]
              exact hu
            · rw [show upd v i u j = v j by simp [upd, hji]]
              rw [getD_set_ne false (Ne.symm hji)] at hl
              have hlj := hlv hit
              exact hpure j _ w w' hj hlj (by simpa using hji) (by simpa using hja) (hv j hj hja hl (fun h => hlj))
          · rw [hoi] at how
            cases how
            have h1 := hdep e he hb
            by_cases hei : e.on = i
            · rw [hei]; exact hit
            · rw [getD_set_ne false (Ne.symm hei)]; exact h1
          · rw [getD_set_ne false his2, getD_set_ne false hia2]
            exact hsa
          · rw [getD_set_ne false his2, getD_set_ne false hia2]
            intro h
            obtain ⟨g, h1, h2, h3⟩ := hrow h
            exact ⟨g, by rw [show upd v i u ia = v ia by simp [upd, Ne.symm hia2]]; exact h1, h2, hty g _ h3⟩
      · rw [his'] at ob
        have his2 : i = is := by simpa using his'
        subst his2
        simp only [cond_false, cond_true] at ob
        have hLa : L.getD ia false = true := by
          rw [hoi] at hsd
          obtain ⟨e, he, h3⟩ := Array.any_eq_true.1 hsd
          rw [Bool.and_eq_true, beq_iff_eq] at h3
          have := hdep _ (Array.getElem_mem he) h3.1
          rwa [h3.2] at this
        obtain ⟨g, h1, h2, h3⟩ := hrow hLa
        rw [hif] at h3
        refine ob v w K g hBw h2 h3 h1 hdv (Lib.hid fun u w' hw hu => ?_)
        subst hw
        have hiw2 : i ≠ iw := Ne.symm hws
        refine HK.out u _ ⟨hv' hiw2 u _ (fun j hj h => hFs j _ w g hj h2 h3 h) (fun _ => hu), hdw' hiw2, below_setRow hBw h2 _, ?_, ?_⟩
        · intro _
          rw [getD_set_ne false hia2]
          exact hLa
        · intro _
          rw [hit]
          exact ⟨g, by rw [show upd v i u ia = v ia by simp [upd, Ne.symm hia2]]; exact h1, h2, setRow_heap w g Z X t _ h3⟩
    · rw [hia'] at ob
      have hia2 : i = ia := by simpa using hia'
      subst hia2
      simp only [cond_true] at ob
      have hLs : L.getD is false = false := by
        cases h : L.getD is false
        · rfl
        · have := hsa h
          rw [hif] at this
          cases this
      refine ob v w K hBw hdv (Lib.hid fun g w' hg hB hr => ?_)
      have hiw2 : i ≠ iw := Ne.symm hwa
      refine HK.out _ w' ⟨hv' hiw2 _ w' (hbel w' hB) (fun h => absurd rfl h), hdw' hiw2, hBw.trans (hB.mono hBw.size), ?_, ?_⟩
      · rw [getD_set_ne false hne, hLs]
        intro h
        cases h
      · intro _
        rw [getD_set_ne false hne, hLs]
        exact ⟨g, by simp [upd], hg, hr⟩
  · intro v
    exact ⟨fun j hj _ hl => (by rw [getD_replicate_false] at hl; cases hl), fun hl => (by rw [getD_replicate_false] at hl; cases hl), (Below.refl _ _).drew, fun hl => (by rw [getD_replicate_false] at hl; cases hl), fun hl => (by rw [getD_replicate_false] at hl; cases hl)⟩
  · intro v w ⟨hv, _, hBw, hsa, hrow⟩
    have hall : ∀ j, j < n → (headListed n (ops.size - n)).getD j false = true := fun j hj => by
      simp only [headListed]
      rw [Array.getD_eq_getD_getElem?, List.getElem?_toArray, List.getElem?_append_left (by simpa using hj)]
      simp [hj]
    obtain ⟨g, h1, h2, h3⟩ := hrow (hall ia hia)
    rw [hall is his] at h3
    exact hend v w g hBw (fun j hj hja hlj => hv j hj (by simpa using hja) (hall j hj) (fun _ => hlj)) h1 h2 h3
end Go.Rv
namespace Go.Rv
open Go.RowKit
set_option linter.unusedVariables false
def rowV : Value → Array Value
  | .agg C => C
  | _ => #[]
def Deps10 (ia : Nat) (live : List Nat) (F : List Fact) (v : Nat → Value) (w : World) : List Edge → Prop
  | [] => True
  | e :: r => (Region.binds .any e = true → cond (e.on == ia) True (cond (live.contains e.on) (fp8 F e.on (v e.on) w) True)) ∧ Deps10 ia live F v w r
/-- what is done behind the writing operation leans on lasting facts alone, but for the store -/
def liveOk10 (ops : Array Oper) (n iw is : Nat) (live : List Nat) : Bool :=
  decide (iw < n) && live.contains iw && (List.range n).all fun i => (i == iw) || (i == is) || (match ops[i]? with | some o => o.after.all fun e => !(Region.binds .any e) || live.contains e.on || (match ops[iw]? with | some ow => ow.after.any fun e' => Region.binds .any e' && e'.on == i | none => false) | none => true)
def Obl10 (P : Program) (ops : Array Oper) (Q : Exit → Act → World → Prop) (A : (Nat → Value) → Act) (w0 : World) (F : List Fact) (ia is iw jx : Nat) (live : List Nat) (Z : Array Value) (t : TypeId) (i : Nat) (o : Oper) : Prop :=
  cond (i == ia) (∀ (v : Nat → Value) (w : World) (K : Act → World → Prop), Below w0.heap.size w0 w → Deps8 ia F v w o.after.toList →
      Hid (∀ g w', w0.heap.size ≤ g → Below w.heap.size w w' → w'.heap[g]? = some (.cells Z t (0, 0)) → K ((A v).put o.dst (.pointer (some ⟨g, 0, none⟩))) w') → wpList P ops (Exit.then K Q) [o] (A v) w)
    (cond (i == is) (∀ (v : Nat → Value) (w : World) (K : Act → World → Prop) (g : Nat), Below w0.heap.size w0 w → w0.heap.size ≤ g → w.heap[g]? = some (.cells Z t (0, 0)) → v ia = .pointer (some ⟨g, 0, none⟩) → Deps10 ia live F v w o.after.toList →
      Hid (∀ u w', w' = w.setRow g (rowV (v jx)) → fp8 F i u w' → K ((A v).put o.dst u) w') → wpList P ops (Exit.then K Q) [o] (A v) w)
    (cond (i == iw) (∀ (v : Nat → Value) (w : World) (K : Act → World → Prop), Below w0.heap.size w0 w → Deps8 ia F v w o.after.toList →
        Hid (∀ u w', Below w0.heap.size w w' → (∀ (g : Nat) (C : Array Value), w.heap[g]? = some (.cells C t (0, 0)) → w'.heap[g]? = some (.cells C t (0, 0))) → fp8 F i u w' → K ((A v).put o.dst u) w') → wpList P ops (Exit.then K Q) [o] (A v) w)
    (∀ (v : Nat → Value) (w : World) (K : Act → World → Prop), Below w0.heap.size w0 w → Deps8 ia F v w o.after.toList →
        Hid (∀ u w', Below w.heap.size w w' → fp8 F i u w' → K ((A v).put o.dst u) w') → wpList P ops (Exit.then K Q) [o] (A v) w)))
def Obls10 (P : Program) (ops : Array Oper) (Q : Exit → Act → World → Prop) (A : (Nat → Value) → Act) (w0 : World) (F : List Fact) (ia is iw jx : Nat) (live : List Nat) (Z : Array Value) (t : TypeId) : Nat → List Oper → Prop
  | _, [] => True
  | i, o :: r => Obl10 P ops Q A w0 F ia is iw jx live Z t i o ∧ Obls10 P ops Q A w0 F ia is iw jx live Z t (i + 1) r
theorem Obls10.at {P : Program} {ops : Array Oper} {Q : Exit → Act → World → Prop} {A : (Nat → Value) → Act} {w0 : World} {F : List Fact} {ia is iw jx : Nat} {live : List Nat} {Z : Array Value} {t : TypeId} : ∀ {k : Nat} {l : List Oper}, Obls10 P ops Q A w0 F ia is iw jx live Z t k l → ∀ {i : Nat} {o : Oper}, l[i]? = some o → Obl10 P ops Q A w0 F ia is iw jx live Z t (k + i) o
  | _, [], _, _, _, h => by simp at h
  | k, _ :: r, h, 0, _, ho => by simp at ho; subst ho; exact h.1
  | k, _ :: r, h, i + 1, _, ho => by
    have := Obls10.at h.2 (i := i) (by simpa using ho)
    rwa [show k + 1 + i = k + (i + 1) by omega] at this
/-- these wait for the writing operation, or for one another -/
def aftOk (ops : Array Oper) (n iw : Nat) (aft : List Nat) : Bool :=
  (List.range n).all fun j => !(aft.contains j) || (match ops[j]? with | some o => o.after.any fun e => Region.binds .any e && ((e.on == iw) || (aft.contains e.on && decide (e.on < n))) | none => false)
theorem wp_region_conf10 {P : Program} {ops : Array Oper} {Q : Exit → Act → World → Prop} {a0 : Act} {w0 : World} {id : Nat} (n : Nat) (F : List Fact) (ia is iw jx : Nat) (live aft : List Nat) (Z : Array Value) (t : TypeId) (A : (Nat → Value) → Act) (hm : P.follows .mixedOrders = true) (hok : confOk ops n = true) (hso : storeOk ops [] n ia is = true) (hjx : (decide (jx < n) && !(jx == ia) && !(jx == is) && (match ops[is]? with | some o => o.after.any fun e => Region.binds .any e && e.on == jx | none => false)) = true) (hlw : (liveOk10 ops n iw is live && !(iw == ia) && !(iw == is) && live.contains ia) = true) (haft : (aftOk ops n iw aft && !(aft.contains iw)) = true) (hpure : ∀ j u w w', j < n → live.contains j = true → aft.contains j = false → (j == iw) = false → (j == ia) = false → fp8 F j u w → fp8 F j u w')
    (hA : ∀ v, putAll v 0 (ops.toList.take n) a0 = A v) (hFs : ∀ j u w g C, j < n → w0.heap.size ≤ g → w.heap[g]? = some (.cells Z t (0, 0)) → fp8 F j u w → fp8 F j u (w.setRow g C)) (ho : Obls10 P ops Q A w0 F ia is iw jx live Z t 0 (ops.toList.take n))
    (hend : ∀ v w g, Below w0.heap.size w0 w → (∀ j, j < n → (j == ia) = false → live.contains j = true → fp8 F j (v j) w) → v ia = .pointer (some ⟨g, 0, none⟩) → w0.heap.size ≤ g → w.heap[g]? = some (.cells (rowV (v jx)) t (0, 0)) → wpList P ops Q (ops.toList.drop n) (A v) w) : (Code.region id ops true).wp P Q a0 w0 := by
  simp only [storeOk, Bool.and_eq_true, decide_eq_true_eq, Bool.not_eq_true', beq_eq_false_iff_ne] at hso
  obtain ⟨⟨⟨⟨⟨hia, his⟩, hne⟩, -⟩, -⟩, hsd⟩ := hso
  simp only [liveOk10, Bool.and_eq_true, decide_eq_true_eq, Bool.not_eq_true', beq_eq_false_iff_ne, List.all_eq_true, List.mem_range] at hlw
  obtain ⟨⟨⟨⟨⟨hiw, hiwl⟩, hlall⟩, hwa⟩, hws⟩, hial⟩ := hlw
  simp only [aftOk, Bool.and_eq_true, Bool.not_eq_true', List.all_eq_true, List.mem_range] at haft
  obtain ⟨haft, hafw⟩ := haft
  simp only [Bool.and_eq_true, decide_eq_true_eq, Bool.not_eq_true', beq_eq_false_iff_ne] at hjx
  obtain ⟨⟨⟨hjn, hja⟩, hjs⟩, hjd⟩ := hjx
  refine wp_region_conf3 n (fun L v w => (∀ j, j < n → j ≠ ia → L.getD j false = true → (L.getD iw false = true → live.contains j = true) → fp8 F j (v j) w) ∧ (∀ j, j < n → aft.contains j = true → L.getD j false = true → L.getD iw false = true) ∧ (L.getD iw false = true → ∀ ow, ops[iw]? = some ow → ∀ e ∈ ow.after, Region.binds .any e = true → L.getD e.on false = true) ∧ Below w0.heap.size w0 w ∧ (L.getD is false = true → L.getD ia false = true ∧ L.getD jx false = true) ∧ (L.getD ia false = true → ∃ g, v ia = .pointer (some ⟨g, 0, none⟩) ∧ w0.heap.size ≤ g ∧ w.heap[g]? = some (.cells (cond (L.getD is false) (rowV (v jx)) Z) t (0, 0)))) A hm hok hA ?_ ?_ ?_
  · intro i o hin hoi L v w K hui hdep ⟨hv, haw, hdw, hBw, hsa, hrow⟩ HK
    have hilt : i < L.size := by
      rcases Nat.lt_or_ge i L.size with h | h
      · exact h
      · simp [Array.getElem?_eq_none h] at hui
    have hif : L.getD i false = false := by simp [hilt] at hui ⊢; exact hui
    have hit : (L.setIfInBounds i true).getD i false = true := by simp [hilt]
    have hbk : edgesBack 0 ops.toList = true := by
      simp only [confOk, Bool.and_eq_true] at hok
      exact hok.1.1.1.1.2
    have hdv : i ≠ is → ∀ l : List Edge, (∀ e ∈ l, e ∈ o.after) → Deps8 ia F v w l := by
      intro his0 l
      induction l with
      | nil => intro _; exact trivial
      | cons e r ihl =>
        intro hl
        refine ⟨fun hb => ?_, ihl fun x hx => hl x (by simp [hx])⟩
        cases hea : e.on == ia
        · have := edgesBack_spec hbk (i := i) (o := o) (by simpa using hoi) e (hl e (by simp)) hb
          refine hv e.on (by omega) (by simpa using hea) (hdep e (hl e (by simp)) hb) (fun hLw => ?_)
          by_cases hiw2 : i = iw
          · rw [hiw2, hLw] at hif
            cases hif
          · have h1 := hlall i hin
            rw [hoi] at h1
            have h2 : (i == iw) = false := by simpa using hiw2
            have h2' : (i == is) = false := by simpa using his0
            rw [h2, h2', Bool.false_or, Bool.false_or, Array.all_eq_true] at h1
            obtain ⟨k, hk, hke⟩ := Array.getElem_of_mem (hl e (by simp))
            have h3 := h1 k hk
            rw [hke, hb, Bool.not_true, Bool.false_or, Bool.or_eq_true] at h3
            rcases h3 with h3 | h3
            · exact h3
            · exfalso
              obtain ⟨ow, how⟩ : ∃ ow, ops[iw]? = some ow := by
                cases h : ops[iw]? with
                | none => rw [h] at h3; cases h3
                | some ow => exact ⟨ow, rfl⟩
              rw [how] at h3
              obtain ⟨k', hk', h4⟩ := Array.any_eq_true.1 h3
              rw [Bool.and_eq_true, beq_iff_eq] at h4
              have := hdw hLw ow how _ (Array.getElem_mem hk') h4.1
              rw [h4.2, hif] at this
              cases this
        · trivial
    have hdv := fun h => hdv h o.after.toList (fun e he => by simpa using he)
    have hdv10 : ∀ l : List Edge, (∀ e ∈ l, e ∈ o.after) → Deps10 ia live F v w l := by
      intro l
      induction l with
      | nil => intro _; exact trivial
      | cons e r ihl =>
        intro hl
        refine ⟨fun hb => ?_, ihl fun x hx => hl x (by simp [hx])⟩
        cases hea : e.on == ia
        · cases hlv : live.contains e.on
          · trivial
          · have := edgesBack_spec hbk (i := i) (o := o) (by simpa using hoi) e (hl e (by simp)) hb
            exact hv e.on (by omega) (by simpa using hea) (hdep e (hl e (by simp)) hb) (fun _ => hlv)
        · trivial
    have hdv10 := hdv10 o.after.toList (fun e he => by simpa using he)
    have ob := ho.at (i := i) (o := o) (by simp [hin, hoi])
    rw [Nat.zero_add] at ob
    have hdw' : i ≠ iw → (L.setIfInBounds i true).getD iw false = true → ∀ ow, ops[iw]? = some ow → ∀ e ∈ ow.after, Region.binds .any e = true → (L.setIfInBounds i true).getD e.on false = true := fun hne hl ow how e he hb => by
      rw [getD_set_ne false hne] at hl
      have h1 := hdw hl ow how e he hb
      by_cases hei : e.on = i
      · rw [hei]; exact hit
      · rw [getD_set_ne false (Ne.symm hei)]; exact h1
    have hv' : i ≠ iw → ∀ u w', (∀ j, j < n → fp8 F j (v j) w → fp8 F j (v j) w') → (i ≠ ia → fp8 F i u w') → ∀ j, j < n → j ≠ ia → (L.setIfInBounds i true).getD j false = true → ((L.setIfInBounds i true).getD iw false = true → live.contains j = true) → fp8 F j (upd v i u j) w' := fun hne u w' hkeep hu j hj hja hl hlv => by
      rw [getD_set_ne false hne] at hlv
      by_cases hji : j = i
      · subst hji
        rw [show upd v j u j = u by simp [upd]]
        exact hu hja
      · rw [show upd v i u j = v j by simp [upd, hji]]
        rw [getD_set_ne false (Ne.symm hji)] at hl
        exact hkeep j hj (hv j hj hja hl hlv)
    have hbel : ∀ w', Below w.heap.size w w' → ∀ j, j < n → fp8 F j (v j) w → fp8 F j (v j) w' := fun w' hB j _ h => (F.getD j Fact.any).st _ _ _ h hB
    have haw' : ∀ j, j < n → aft.contains j = true → (L.setIfInBounds i true).getD j false = true → (L.setIfInBounds i true).getD iw false = true := fun j hj hc hl => by
      have hset : L.getD iw false = true → (L.setIfInBounds i true).getD iw false = true := fun h => by
        by_cases hi : i = iw
        · rw [← hi]; exact hit
        · rw [getD_set_ne false hi]; exact h
      by_cases hji : j = i
      · subst hji
        have h1 := haft j hj
        rw [hc, Bool.not_true, Bool.false_or, hoi] at h1
        obtain ⟨k, hk, h2⟩ := Array.any_eq_true.1 h1
        rw [Bool.and_eq_true, Bool.or_eq_true, beq_iff_eq, Bool.and_eq_true, decide_eq_true_eq] at h2
        have h3 := hdep _ (Array.getElem_mem hk) h2.1
        rcases h2.2 with h4 | ⟨h4, h5⟩
        · rw [h4] at h3
          exact hset h3
        · exact hset (haw _ h5 h4 h3)
      · rw [getD_set_ne false (Ne.symm hji)] at hl
        exact hset (haw j hj hc hl)
    have hsa' : i ≠ is → (L.setIfInBounds i true).getD is false = true → (L.setIfInBounds i true).getD ia false = true ∧ (L.setIfInBounds i true).getD jx false = true := fun hne hl => by
      rw [getD_set_ne false hne] at hl
      obtain ⟨h1, h2⟩ := hsa hl
      have hk : ∀ x, L.getD x false = true → (L.setIfInBounds i true).getD x false = true := fun x hx => by
        by_cases hxi : i = x
        · rw [← hxi]; exact hit
        · rw [getD_set_ne false hxi]; exact hx
      exact ⟨hk _ h1, hk _ h2⟩
    have hrv : ∀ u, cond (L.getD is false) (rowV (upd v i u jx)) Z = cond (L.getD is false) (rowV (v jx)) Z := fun u => by
      cases h : L.getD is false
      · rfl
      · have h2 := (hsa h).2
        have : jx ≠ i := fun e => by rw [e, hif] at h2; cases h2
        rw [show upd v i u jx = v jx by simp [upd, this]]
    unfold Obl10 at ob
    cases hia' : i == ia
    · rw [hia'] at ob
      have hia2 : i ≠ ia := by simpa using hia'
      cases his' : i == is
      · rw [his'] at ob
        have his2 : i ≠ is := by simpa using his'
        simp only [cond_false] at ob
        cases hiw' : i == iw
        · rw [hiw'] at ob
          have hiw2 : i ≠ iw := by simpa using hiw'
          simp only [cond_false] at ob
          refine ob v w K hBw (hdv his2) (Lib.hid fun u w' hB hu => HK.out u w' ⟨hv' hiw2 u w' (hbel w' hB) (fun _ => hu), haw', hdw' hiw2, hBw.trans (hB.mono hBw.size), ?_, ?_⟩)
          · exact hsa' his2
          · rw [getD_set_ne false his2, getD_set_ne false hia2]
            intro h
            rw [hrv]
            obtain ⟨g, h1, h2, h3⟩ := hrow h
            exact ⟨g, by rw [show upd v i u ia = v ia by simp [upd, Ne.symm hia2]]; exact h1, h2, (hB.block g (Array.getElem?_eq_some_iff.1 h3).1).trans h3⟩
        · rw [hiw'] at ob
          have hiw2 : i = iw := by simpa using hiw'
          subst hiw2
          simp only [cond_true] at ob
          refine ob v w K hBw (hdv his2) (Lib.hid fun u w' hB hty hu => HK.out u w' ⟨fun j hj hja hl hlv => ?_, haw', fun _ ow how e he hb => ?_, hBw.trans hB, ?_, ?_⟩)
          · by_cases hji : j = i
            · subst hji
              rw [show upd v j u j = u by simp [upd]]
              exact hu
            · rw [show upd v i u j = v j by simp [upd, hji]]
              rw [getD_set_ne false (Ne.symm hji)] at hl
              have hlj := hlv hit
              have hca : aft.contains j = false := by
                cases hc : aft.contains j
                · rfl
                · have := haw j hj hc hl
                  rw [hif] at this
                  cases this
              exact hpure j _ w w' hj hlj hca (by simpa using hji) (by simpa using hja) (hv j hj hja hl (fun h => hlj))
          · rw [hoi] at how
            cases how
            have h1 := hdep e he hb
            by_cases hei : e.on = i
            · rw [hei]; exact hit
            · rw [getD_set_ne false (Ne.symm hei)]; exact h1
          · exact hsa' his2
          · rw [getD_set_ne false his2, getD_set_ne false hia2]
            intro h
            rw [hrv]
            obtain ⟨g, h1, h2, h3⟩ := hrow h
            exact ⟨g, by rw [show upd v i u ia = v ia by simp [upd, Ne.symm hia2]]; exact h1, h2, hty g _ h3⟩
      · rw [his'] at ob
        have his2 : i = is := by simpa using his'
        subst his2
        simp only [cond_false, cond_true] at ob
        have hLa : L.getD ia false = true := by
          rw [hoi] at hsd
          obtain ⟨e, he, h3⟩ := Array.any_eq_true.1 hsd
          rw [Bool.and_eq_true, beq_iff_eq] at h3
          have := hdep _ (Array.getElem_mem he) h3.1
          rwa [h3.2] at this
        obtain ⟨g, h1, h2, h3⟩ := hrow hLa
        rw [hif] at h3
        refine ob v w K g hBw h2 h3 h1 hdv10 (Lib.hid fun u w' hw hu => ?_)
        subst hw
        have hiw2 : i ≠ iw := Ne.symm hws
        refine HK.out u _ ⟨hv' hiw2 u _ (fun j hj h => hFs j _ w g _ hj h2 h3 h) (fun _ => hu), haw', hdw' hiw2, below_setRow hBw h2 _, ?_, ?_⟩
        · intro _
          rw [getD_set_ne false hia2, getD_set_ne false (Ne.symm hjs)]
          refine ⟨hLa, ?_⟩
          rw [hoi] at hjd
          obtain ⟨e, he, h4⟩ := Array.any_eq_true.1 hjd
          rw [Bool.and_eq_true, beq_iff_eq] at h4
          have := hdep _ (Array.getElem_mem he) h4.1
          rwa [h4.2] at this
        · intro _
          rw [hit, show upd v i u jx = v jx by simp [upd, hjs]]
          exact ⟨g, by rw [show upd v i u ia = v ia by simp [upd, Ne.symm hia2]]; exact h1, h2, setRow_heap w g Z _ t _ h3⟩
    · rw [hia'] at ob
      have hia2 : i = ia := by simpa using hia'
      subst hia2
      simp only [cond_true] at ob
      have hLs : L.getD is false = false := by
        cases h : L.getD is false
        · rfl
        · have := (hsa h).1
          rw [hif] at this
          cases this
      refine ob v w K hBw (hdv hne) (Lib.hid fun g w' hg hB hr => ?_)
      have hiw2 : i ≠ iw := Ne.symm hwa
      refine HK.out _ w' ⟨hv' hiw2 _ w' (hbel w' hB) (fun h => absurd rfl h), haw', hdw' hiw2, hBw.trans (hB.mono hBw.size), ?_, ?_⟩
      · rw [getD_set_ne false hne, hLs]
        intro h
        cases h
      · intro _
        rw [getD_set_ne false hne, hLs]
        exact ⟨g, by simp [upd], hg, hr⟩
  · intro v
    exact ⟨fun j hj _ hl => (by rw [getD_replicate_false] at hl; cases hl), fun j _ _ hl => (by rw [getD_replicate_false] at hl; cases hl), fun hl => (by rw [getD_replicate_false] at hl; cases hl), (Below.refl _ _).drew, fun hl => (by rw [getD_replicate_false] at hl; cases hl), fun hl => (by rw [getD_replicate_false] at hl; cases hl)⟩
  · intro v w ⟨hv, _, _, hBw, hsa, hrow⟩
    have hall : ∀ j, j < n → (headListed n (ops.size - n)).getD j false = true := fun j hj => by
      simp only [headListed]
      rw [Array.getD_eq_getD_getElem?, List.getElem?_toArray, List.getElem?_append_left (by simpa using hj)]
      simp [hj]
    obtain ⟨g, h1, h2, h3⟩ := hrow (hall ia hia)
    rw [hall is his] at h3
    exact hend v w g hBw (fun j hj hja hlj => hv j hj (by simpa using hja) (hall j hj) (fun _ => hlj)) h1 h2 h3
theorem conf10Rules : (∀ (ia : Nat) (live : List Nat) (F : List Fact) (v : Nat → Value) (w : World), Deps10 ia live F v w [] = True) ∧ (∀ (ia : Nat) (live : List Nat) (F : List Fact) (v : Nat → Value) (w : World) (e : Edge) (r : List Edge), Deps10 ia live F v w (e :: r) = ((Region.binds .any e = true → cond (e.on == ia) True (cond (live.contains e.on) (fp8 F e.on (v e.on) w) True)) ∧ Deps10 ia live F v w r)) ∧ (∀ x : Nat, ([] : List Nat).contains x = false) ∧ (∀ (a x : Nat) (l : List Nat), (a :: l).contains x = cond (x == a) true (l.contains x)) ∧ (∀ p q : Bool, cond true p q = p) ∧ (∀ p q : Bool, cond false p q = q) ∧ (∀ p : Prop, (p ∧ True) = p) :=
  ⟨fun _ _ _ _ _ => rfl, fun _ _ _ _ _ _ _ => rfl, fun _ => rfl, fun a x l => by rw [List.contains_cons]; cases x == a <;> rfl, fun _ _ => rfl, fun _ _ => rfl, fun p => by simp⟩
end Go.Rv
namespace Go.Rv
open Go.RowKit
set_option linter.unusedVariables false
theorem RowOf.flat {α : Type} {w : World} {n : Nat} {X : α → Array Value} {Q : α → Prop} {ad : Addr} {ms : List α} (hm : RowOf w n X Q (some ad) ms) (hK : Kin n X Q) (h0 : 0 < n) : ∀ j u, (flatM X ms)[j]? = some u → w.cell? (ad.add j) = some u := by
  have hq : ∀ y ∈ ms, Q y := hm.all
  intro j u hu
  have hj : j < ms.length * n := by
    have := (List.getElem?_eq_some_iff.1 hu).1
    rwa [flatM_length fun y hy => hK.size y (hq y hy)] at this
  obtain ⟨y, hy⟩ : ∃ y, ms[j / n]? = some y := ⟨_, List.getElem?_eq_getElem (by rwa [Nat.div_lt_iff_lt_mul h0])⟩
  obtain ⟨b, o, e, hb, hc, -⟩ := hm.at hy
  cases e
  have h1 := hc (j % n) (Nat.mod_lt _ h0)
  have h2 := flatM_at (fun y hy => hK.size y (hq y hy)) hy (Nat.mod_lt j h0)
  rw [Nat.div_add_mod' j n] at h2
  rw [add_lit, ← hu, h2, ← h1, Nat.add_assoc, Nat.div_add_mod' j n]
/-- things are appended, for which there is no room -/
theorem wpList_appendG {α : Type} {P : Program} {w : World} {ops : Array Oper} {rest : List Oper} {o : Oper} {a : Act} {Q' : Exit → Act → World → Prop} (hgd : o.guard = none) (s x : Operand) (t : TypeId)
    (ho : o.op = .call { callee := .builtin .append, args := #[s, x], argTypes := #[t, t] })
    (e : TypeId) (n : Nat) (X : α → Array Value) (Q : α → Prop) (hK : Kin n X Q) (h0 : 0 < n) (z : Value) (bytes : Nat) (ht : P.underlying t = some (.slice e)) (hinfo : (P.info? e).map (fun i => (i.zero, i.size, i.bytes)) = some (some z, n, bytes)) (hzs : z.cells.size = n)
    (g cap0 : Nat) (xs : List α) (hs : a.eval s = .slice (some ⟨g, 0, none⟩) xs.length cap0) (hown : RowOf w n X Q (some ⟨g, 0, none⟩) xs) (ad : Addr) (cap : Nat) (ms : List α) (hx : a.eval x = .slice (some ad) ms.length cap) (hm : RowOf w n X Q (some ad) ms)
    (hroom : cap0 < xs.length + ms.length) (h63 : xs.length + ms.length ≤ maxLen) (hbytes : (xs.length + ms.length) * bytes ≤ 140737488355328)
    (h : ∀ v' w', OwnM w' e n X Q w.heap.size v' (xs ++ ms) → Below w.heap.size w w' → wpList P ops Q' rest (a.put o.dst v') w') : wpList P ops Q' (o :: rest) a w := by
  obtain ⟨i, hi, hz, hsize, hby⟩ := info_parts hinfo
  subst hsize
  subst hby
  have hqx : ∀ y ∈ xs, Q y := hown.all
  have hqm : ∀ y ∈ ms, Q y := hm.all
  have hlx : (flatM X xs).length = xs.length * i.size := flatM_length fun y hy => hK.size y (hqx y hy)
  have hlm : (flatM X ms).length = ms.length * i.size := flatM_length fun y hy => hK.size y (hqm y hy)
  have hsmall : xs.length + ms.length ≤ 9223372036854775807 := by simp only [maxLen] at h63; omega
  refine wpList_plain hgd fun K hK' => ?_
  have hr := run_append_grow (P := P) w t o.type e i z ht hi hz ⟨g, 0, none⟩ xs.length cap0 (flatM X xs) hlx (hown.flat hK h0) ad ms.length cap (flatM X ms) hlm (hm.flat hK h0) (by omega) (by omega) (growslice_fits (by omega) hbytes)
  have hge := grownCap_ge w (xs.length + ms.length) cap0 e
  have hcm : grownCap w (xs.length + ms.length) cap0 e ≤ maxLen := grownCap_le_maxLen w (xs.length + ms.length) cap0 e h63
  have hlen : (flatM X (xs ++ ms)).length = (xs ++ ms).length * i.size := by rw [flatM_app, List.length_append, hlx, hlm, List.length_append, Nat.add_mul]
  unfold Oper.wp execOp
  simp only [ho, resolve, invoke, builtin, Sem.run_bind, Sem.run_pure, Result.andThen_ok, List.map_toArray, List.map_cons, List.map_nil, hs, hx, hr]
  refine hK' _ _ (h _ _ ⟨⟨hlen, .inr ⟨w.heap.size, _, _, by rw [List.length_append], Nat.le_refl _, heap_alloc_new w.drew _, by rw [List.length_append]; exact hge, hcm, ?_, ?_⟩⟩, fun y hy => ?_⟩ ((Below.refl w.heap.size w).drew.alloc (by simp) _))
  · simp only [Array.size_append, List.size_toArray, size_zeroCells, hzs, hlx, hlm, ← Nat.add_mul]
    congr 1
    omega
  · rw [← hlen, flatM_app]
    simp only [Array.toList_append, List.append_assoc]
    rw [← List.append_assoc]
    exact List.take_left
  · rcases List.mem_append.1 hy with hy | hy
    · exact hqx y hy
    · exact hqm y hy
end Go.Rv
namespace Go.Proofs.Ytjnneoejnpephaa
open Go.RowKit Go.Rv
set_option linter.unusedVariables false
set_option maxRecDepth 100000 in
set_option maxHeartbeats 400000 in
theorem rnum_any (k n : Nat) (hk : k ≤ 1000) (hn : n < 9223372036854775808) (w : World) :
    Calls Try.prog 60 #[.int .i64 k, .int .i64 n] w fun e w' => ∃ v, e = .returned v ∧ OwnB w' 5 w.heap.size v (Cod.leN k n) ∧ Below w.heap.size w w' := by
  go_enter Try.func60, Try.ntmps60
  go_wp2
  go_loopw [1, 5, 6] (fun x o i wr => ∃ j : Nat, j ≤ k ∧ i = .int .i64 j ∧ x = .int .i64 (n / 256 ^ j : Nat) ∧ OwnB wr 5 w.heap.size o (Cod.leN j n) ∧ Below w.heap.size w wr) (fun _ _ i _ => k - (intOf i).toNat)
  case atStart => exact ⟨0, by omega, rfl, by simp, OwnB.nil _ _ _, Below.refl _ _⟩
  case round =>
    obtain ⟨j, hj, rfl, rfl, ho, hB⟩ := hrel
    by_cases hlt : j < k
    · have hs := Lib.hid (div_succ n j)
      have hle := div_le n j
      have hsn := Lib.hid (Cod.leN_snoc j n)
      have hjl := Lib.hid (Cod.leN_length j n)
      generalize n / 256 ^ j = x at *
      have hx8 : x % 256 < 256 := Nat.mod_lt _ (by omega)
      have hz := hB.size
      go_wp2_with (at_builtin; refine wpList_append_bytes rfl (.tmp 12) (.tmp 16) 94 rfl 5 Try.underlying94 Try.infoU8 w.heap.size _ (Cod.leN j n) rfl (ho.below ((Below.refl _ _).alloc (Nat.le_refl _) _)) (some ⟨wr.heap.size, 0, none⟩) 1 [x % 256] rfl (one_byte_row wr _ _ hx8) (fun e => by cases e) (by rw [hjl.out]; simp; omega) (by simp; omega) ?_; intro v' w' hv hg)
      have hb2 := (hB.alloc hz _).trans ((ho.below ((Below.refl _ _).alloc (Nat.le_refl _) _)).grown hg (by simp; omega))
      go_roundw
      case rel => exact ⟨j + 1, by omega, by go_num, by rw [← hs.out]; go_num, by rw [hsn.out]; exact hv, hb2⟩
      case measure => simp [intOf]; omega
    · obtain rfl : j = k := by omega
      go_wp2
      go_ret
      exact ⟨_, rfl, ho, hB⟩
end Go.Proofs.Ytjnneoejnpephaa
namespace Sn
theorem pad44_set {l : List Nat} {k c : Nat} (hk : l[k]? = some c) (h : l.length ≤ 44) : (pad44 (l.take k)).set k c = pad44 (l.take (k + 1)) := by
  have hlt : k < l.length := (List.getElem?_eq_some_iff.1 hk).1
  have hc : l[k] = c := (List.getElem?_eq_some_iff.1 hk).2
  have h1 : (l.take k).length = k := by rw [List.length_take]; omega
  have h2 : (l.take (k + 1)).length = k + 1 := by rw [List.length_take]; omega
  unfold pad44
  rw [h1, h2, List.set_append_right _ _ (by omega), h1, Nat.sub_self, List.take_add_one, hk]
  obtain ⟨n, hn⟩ : ∃ n, 44 - k = n + 1 := ⟨44 - k - 1, by omega⟩
  rw [hn, show 44 - (k + 1) = n by omega, List.replicate_succ, List.set_cons_zero]
  simp
end Sn
namespace Go.Proofs.Ytjnneoejnpephaa
open Go.RowKit Go.Rv
set_option linter.unusedVariables false
attribute [local go_sem] Oper.semAt_some
theorem pad_cells {l : List Nat} {k c : Nat} (hk : l[k]? = some c) (h : l.length ≤ 44) : (byteCells (Sn.pad44 (l.take k))).setIfInBounds k (bv c) = byteCells (Sn.pad44 (l.take (k + 1))) := by
  rw [← Sn.pad44_set hk h]
  unfold byteCells
  rw [List.setIfInBounds_toArray, List.map_set]
  rfl
set_option maxRecDepth 100000 in
set_option maxHeartbeats 4000000 in
theorem rsbytes_any (a : Option Addr) (l : List Nat) (cap : Nat) (w : World) (hI : Bytes w a l) (hl : l.length ≤ 44) :
    Calls Try.prog 61 #[.slice a l.length cap] w fun e w' => e = .returned (.agg (byteCells (Sn.pad44 l))) ∧ Below w.heap.size w w' := by
  have hz := (zero_of_info Try.infoBody).1
  have HI := Lib.hid (fun m (h : m ≤ l.length) => size_body (Sn.pad44_length (l := l.take m) (by rw [List.length_take]; omega)))
  have HONE := Lib.hid (fun m => one_byteCells (Sn.pad44 (l.take m)))
  have HBY := Lib.hid hI
  have HPC := Lib.hid (fun k c (hk : l[k]? = some c) => pad_cells hk hl)
  have hbn : ∀ k c : Nat, l[k]? = some c → c < 256 := fun k c h => hI.1 c (List.mem_of_getElem? h)
  have h00 : byteCells (Sn.pad44 (l.take 0)) = byteCells (List.replicate 44 0) := rfl
  rw [← h00] at hz
  clear hI h00
  obtain ⟨Z, hZ⟩ : ∃ Z, byteCells (Sn.pad44 (l.take 0)) = Z := ⟨_, rfl⟩
  rw [hZ] at hz
  have HZ := Lib.hid hZ
  clear hZ
  have hB0 : Below w.heap.size w ((w.alloc (.cells Z 40)).alloc (.cells Z 40)) := ((Below.refl _ _).alloc (Nat.le_refl _) _).alloc (by simp) _
  obtain ⟨W0, hW0⟩ : ∃ W0, (w.alloc (.cells Z 40)).alloc (.cells Z 40) = W0 := ⟨_, rfl⟩
  have hS0 : W0.heap[w.heap.size]? = some (.cells Z 40 (0, 0)) := by rw [← hW0]; exact heap_alloc2_old w _ _
  have hO0 : W0.heap[w.heap.size + 1]? = some (.cells Z 40 (0, 0)) := by rw [← hW0]; exact heap_alloc2_new w _ _
  rw [hW0] at hB0
  have HW0 := Lib.hid hW0
  clear hW0
  go_enter Try.func61, Try.ntmps61
  go_wp2
  rw [HW0.out]
  go_loopw [4] (fun u wr => ∃ k : Nat, k ≤ l.length ∧ u = .int .i64 k ∧ wr.heap[w.heap.size]? = some (.cells Z 40 (0, 0)) ∧ wr.heap[w.heap.size + 1]? = some (.cells (byteCells (Sn.pad44 (l.take k))) 40 (0, 0)) ∧ Below w.heap.size w wr) (fun u _ => l.length - (intOf u).toNat)
  case atStart => exact ⟨0, by omega, rfl, hS0, by rw [HZ.out]; exact hO0, hB0⟩
  case round =>
    obtain ⟨k, hk, rfl, hS, hO, hB⟩ := hrel
    have zO : w.heap.size + 1 < wr.heap.size := (Array.getElem?_eq_some_iff.1 hO).1
    by_cases hlt : k < l.length
    · obtain ⟨b, o, c, rfl, hb, hc, hcb, hck⟩ := (HBY.out.below hB).at hlt
      have hsz : (byteCells (Sn.pad44 (l.take k))).size = 44 := by rw [size_byteCells, Sn.pad44_length (by rw [List.length_take]; omega)]
      obtain ⟨v, hv⟩ : ∃ v, (byteCells (Sn.pad44 (l.take k)))[k]? = some v := ⟨_, Array.getElem?_eq_getElem (by omega)⟩
      have d0 : wr.cell? ⟨w.heap.size + 1, k, none⟩ = some v := (cell_of_row _ _ _ _ _ _ hO).trans hv
      have d1 := frozen_of_row _ (w.heap.size + 1) k _ _ hO
      have h1 := heap_setCell_same wr (w.heap.size + 1) k _ _ (bv c) hO
      rw [HPC.out k c hck] at h1
      obtain ⟨W1, hW1⟩ : ∃ W1, wr.setCell ⟨w.heap.size + 1, k, none⟩ (bv c) = W1 := ⟨_, rfl⟩
      rw [hW1] at h1
      have hO1 : Only [w.heap.size + 1] wr W1 := by rw [← hW1]; exact (Only.refl _ _).setCell (.inl (by simp)) _
      have HS1 := Lib.hid (hO1.get hS (by simp))
      have HO1 := Lib.hid h1
      have HB1 := Lib.hid (hB.trans (hO1.below (B := w.heap.size) (by simp) hB.size))
      have HW1 := Lib.hid hW1
      have k44 : k < 44 := by omega
      clear h1 hW1 hO1 hS hO hB hv hsz hck
      go_wp2
      rw [show wr.setCell ⟨w.heap.size + 1, k, none⟩ (.int .u8 (c : Nat)) = W1 from HW1.out]
      exact ⟨⟨k + 1, by omega, by go_num, HS1.out, HO1.out, HB1.out⟩, by simp [intOf]; omega⟩
    · obtain rfl : k = l.length := by omega
      rw [List.take_length] at hO
      have hi : (Try.prog.info? 40).map (·.size) = some (byteCells (Sn.pad44 l)).size := size_body (Sn.pad44_length hl)
      have hzs : Z.size = (byteCells (Sn.pad44 l)).size := by rw [← HZ.out, size_byteCells, size_byteCells, Sn.pad44_length hl]; rfl
      have hS10 := hS
      have hone := one_byteCells (Sn.pad44 l)
      have HIX := Lib.hid hi
      have HZS := Lib.hid hzs
      have HONE1 := Lib.hid hone
      clear hi hzs hone
      go_wp2_with (first | (refine wpList_load_row rfl 40 _ rfl (w.heap.size + 1) rfl 40 _ _ _ hO Try.underlying40 rfl HIX.out ?_) | (refine wpList_store_row rfl 40 _ _ rfl w.heap.size (byteCells (Sn.pad44 l)) rfl rfl 40 Z hS HIX.out HZS.out HONE1.out ?_))
      refine bodyPost_ret (res_row rfl _ _ w.heap.size 40 (byteCells (Sn.pad44 l)) _ _ rfl (setRow_heap _ _ _ _ _ _ hS10) Try.underlying40 rfl HIX.out) rfl ?_
      exact ⟨rfl, below_setRow hB (by omega) _⟩
end Go.Proofs.Ytjnneoejnpephaa
namespace Go.Proofs.Ytjnneoejnpephaa
open Go.RowKit Go.Rv
set_option linter.unusedVariables false
attribute [local go_sem] Oper.semAt_some
set_option maxRecDepth 100000 in
set_option maxHeartbeats 4000000 in
theorem rsentry_any (e : BE) (w : World) (he : Sn.Room e) :
    Calls Try.prog 62 #[.agg (BEC e)] w fun x w' => ∃ v, x = .returned v ∧ OwnB w' 5 w.heap.size v (Sn.entB e) ∧ Below w.heap.size w w' := by
  obtain ⟨st, z, m, o, q, s⟩ := e
  obtain ⟨⟨a0, b0⟩, ⟨a1, b1⟩, ⟨a2, b2⟩, ⟨a3, b3⟩, ⟨a4, b4⟩, ⟨a5, b5⟩⟩ := he
  simp only at a0 a1 a2 a3 a4 a5 b0 b1 b2 b3 b4 b5
  obtain ⟨st, rfl⟩ := Int.eq_ofNat_of_zero_le a0
  obtain ⟨z, rfl⟩ := Int.eq_ofNat_of_zero_le a1
  obtain ⟨m, rfl⟩ := Int.eq_ofNat_of_zero_le a2
  obtain ⟨o, rfl⟩ := Int.eq_ofNat_of_zero_le a3
  obtain ⟨q, rfl⟩ := Int.eq_ofNat_of_zero_le a4
  obtain ⟨s, rfl⟩ := Int.eq_ofNat_of_zero_le a5
  have hE : Sn.entB ⟨st, z, m, o, q, s⟩ = [st] ++ Cod.leN 2 z ++ Cod.leN 2 m ++ [o] ++ Cod.leN 6 q ++ Cod.leN 4 s := by
    have e1 : Cod.leN 1 st = [st] := by simp [Cod.leN]; omega
    have e2 : Cod.leN 1 o = [o] := by simp [Cod.leN]; omega
    simp [Sn.entB, e1, e2]
  obtain ⟨q1, hq1⟩ : ∃ q, q = [st] := ⟨_, rfl⟩
  obtain ⟨q2, hq2⟩ : ∃ y, y = q1 ++ Cod.leN 2 z := ⟨_, rfl⟩
  obtain ⟨q3, hq3⟩ : ∃ y, y = q2 ++ Cod.leN 2 m := ⟨_, rfl⟩
  obtain ⟨q4, hq4⟩ : ∃ y, y = q3 ++ [o] := ⟨_, rfl⟩
  obtain ⟨q5, hq5⟩ : ∃ y, y = q4 ++ Cod.leN 6 q := ⟨_, rfl⟩
  obtain ⟨q6, hq6⟩ : ∃ y, y = q5 ++ Cod.leN 4 s := ⟨_, rfl⟩
  have l1 : q1.length = 1 := by rw [hq1]; rfl
  have l2 : q2.length = 3 := by rw [hq2]; simp [l1, Cod.leN_length]
  have l3 : q3.length = 5 := by rw [hq3]; simp [l2, Cod.leN_length]
  have l4 : q4.length = 6 := by rw [hq4]; simp [l3]
  have l5 : q5.length = 12 := by rw [hq5]; simp [l4, Cod.leN_length]
  rw [hE, ← hq1, ← hq2, ← hq3, ← hq4, ← hq5, ← hq6]
  have L1 := Lib.hid l1
  have L2 := Lib.hid l2
  have L3 := Lib.hid l3
  have L4 := Lib.hid l4
  have L5 := Lib.hid l5
  have Q1 := Lib.hid hq1
  have Q2 := Lib.hid hq2
  have Q3 := Lib.hid hq3
  have Q4 := Lib.hid hq4
  have Q5 := Lib.hid hq5
  have Q6 := Lib.hid hq6
  have HN1 := Lib.hid (fun W => rnum_any 2 z (by omega) (by omega) W)
  have HN2 := Lib.hid (fun W => rnum_any 2 m (by omega) (by omega) W)
  have HN3 := Lib.hid (fun W => rnum_any 6 q (by omega) (by omega) W)
  have HN4 := Lib.hid (fun W => rnum_any 4 s (by omega) (by omega) W)
  have hst : st < 256 := by omega
  have ho : o < 256 := by omega
  clear hE l1 l2 l3 l4 l5 hq1 hq2 hq3 hq4 hq5 hq6 a0 a1 a2 a3 a4 a5 b0 b1 b2 b3 b4 b5
  have HCE : Hid (∀ W : World, W.heap[w.heap.size]? = some (.cells (BEC ⟨st, z, m, o, q, s⟩) 104 (0, 0)) → W.cell? ⟨w.heap.size, 0, none⟩ = some (.int .i64 st) ∧ W.cell? ⟨w.heap.size, 1, none⟩ = some (.int .i64 z) ∧ W.cell? ⟨w.heap.size, 2, none⟩ = some (.int .i64 m) ∧ W.cell? ⟨w.heap.size, 3, none⟩ = some (.int .i64 o) ∧ W.cell? ⟨w.heap.size, 4, none⟩ = some (.int .i64 q) ∧ W.cell? ⟨w.heap.size, 5, none⟩ = some (.int .i64 s)) := Lib.hid (fun W hh => ⟨(cell_of_row _ _ _ _ _ _ hh).trans rfl, (cell_of_row _ _ _ _ _ _ hh).trans rfl, (cell_of_row _ _ _ _ _ _ hh).trans rfl, (cell_of_row _ _ _ _ _ _ hh).trans rfl, (cell_of_row _ _ _ _ _ _ hh).trans rfl, (cell_of_row _ _ _ _ _ _ hh).trans rfl⟩)
  generalize BEC ⟨st, z, m, o, q, s⟩ = C at *
  have hB0 : Below w.heap.size w (w.alloc (.cells C 104)) := (Below.refl _ _).alloc (Nat.le_refl _) _
  have hF0 := heap_alloc_new w (.cells C 104)
  have z0 : (w.alloc (.cells C 104)).heap.size = w.heap.size + 1 := by simp
  obtain ⟨W0, hW0⟩ : ∃ W0, w.alloc (.cells C 104) = W0 := ⟨_, rfl⟩
  rw [hW0] at hB0 hF0 z0
  obtain ⟨d0, d1, d2, d3, d4, d5⟩ := HCE.out _ hF0
  have hg1 := heap_alloc_new W0 (.cells (byteCells q1) 5)
  have hq1b : byteCells q1 = #[.int .u8 (st : Nat)] := by rw [Q1.out]; rfl
  have hba := (Below.refl W0.heap.size W0).alloc (Nat.le_refl _) (.cells (byteCells q1) 5)
  have zz1 : (W0.alloc (.cells (byteCells q1) 5)).heap.size = W0.heap.size + 1 := by simp
  rw [hq1b] at hba zz1
  have hown1 : OwnB (W0.alloc (.cells #[.int .u8 (st : Nat)] 5)) 5 (w.heap.size + 1) (.slice (some ⟨w.heap.size + 1, 0, none⟩) 1 1) q1 := by
    have := OwnB.row (e := 5) (base := w.heap.size + 1) (g := W0.heap.size) (by omega) hg1 (by rw [Q1.out]; intro c hc; simp at hc; omega) (by rw [L1.out]; unfold maxLen; omega)
    rwa [L1.out, hq1b, z0] at this
  obtain ⟨W1, hW1⟩ : ∃ W1, W0.alloc (.cells #[.int .u8 (st : Nat)] 5) = W1 := ⟨_, rfl⟩
  rw [hW1] at hown1 hba zz1
  have HW0 := Lib.hid hW0
  have HW1 := Lib.hid hW1
  have hF1 := (hba.block w.heap.size (by omega)).trans hF0
  have hBw1 := hB0.trans (hba.mono (by omega))
  have hsz1 : w.heap.size + 1 ≤ W1.heap.size := by omega
  clear hg1 hq1b hba hW1 hW0 zz1
  clear hF0 hB0
  go_enter Try.func62, Try.ntmps62
  go_upto_region 1 with (fail)
  rw [HW0.out]
  go_wp2_with fail
  try rw [HW1.out]
  refine (HN1.out _).mono ?_
  rintro x w2 ⟨v2, rfl, ho2, hB2⟩
  obtain ⟨a2, c2, rfl, hb2, hn2, -⟩ := ho2.bytes
  have hFx := (hB2.block w.heap.size (by omega)).trans hF1
  have hownx := hown1.below hB2
  have hBwx := hBw1.trans (hB2.mono (by omega))
  have hszx : w.heap.size + 1 ≤ w2.heap.size := Nat.le_trans hsz1 hB2.size
  clear hF1 hown1 hBw1 hsz1
  go_wp2_with (at_builtin; refine wpList_append_bytes rfl (.tmp 8) (.tmp 11) 94 rfl 5 Try.underlying94 Try.infoU8 (w.heap.size + 1) _ q1 rfl hownx a2 c2 (Cod.leN 2 z) rfl hb2 hn2 (by rw [L1.out, Cod.leN_length]; omega) hszx ?_; intro v3 w3 hv3 hg3; have hb3 := hownx.grown hg3 hszx; have hF2 := (hb3.block w.heap.size (by omega)).trans hFx; have hBw2 := hBwx.trans (hb3.mono (by omega)); have hsz2 := Nat.le_trans hszx hb3.size; rw [← Q2.out] at hv3; have hown2 := hv3; obtain ⟨d0, d1, d2, d3, d4, d5⟩ := HCE.out _ hF2)
  clear hb3 hFx hownx hBwx hszx ho2 hB2 hb2 hn2 hg3 hv3
  refine (HN2.out _).mono ?_
  rintro x w2 ⟨v2, rfl, ho2, hB2⟩
  obtain ⟨a2, c2, rfl, hb2, hn2, -⟩ := ho2.bytes
  have hFx := (hB2.block w.heap.size (by omega)).trans hF2
  have hownx := hown2.below hB2
  have hBwx := hBw2.trans (hB2.mono (by omega))
  have hszx : w.heap.size + 1 ≤ w2.heap.size := Nat.le_trans hsz2 hB2.size
  clear hF2 hown2 hBw2 hsz2
  go_upto_region 4 with (at_builtin; refine wpList_append_bytes rfl (.tmp 13) (.tmp 16) 94 rfl 5 Try.underlying94 Try.infoU8 (w.heap.size + 1) _ q2 rfl hownx a2 c2 (Cod.leN 2 m) rfl hb2 hn2 (by rw [L2.out, Cod.leN_length]; omega) hszx ?_; intro v3 w3 hv3 hg3; have hb3 := hownx.grown hg3 hszx; have hF3 := (hb3.block w.heap.size (by omega)).trans hFx; have hBw3 := hBwx.trans (hb3.mono (by omega)); have hsz3 := Nat.le_trans hszx hb3.size; rw [← Q3.out] at hv3; have hown3 := hv3; obtain ⟨d0, d1, d2, d3, d4, d5⟩ := HCE.out _ hF3)
  clear hb3 hFx hownx hBwx hszx ho2 hB2 hb2 hn2 hg3 hv3
  have hal : Below w3.heap.size w3 (w3.alloc (.cells #[.int .u8 (o : Nat)] 5)) := (Below.refl _ _).alloc (Nat.le_refl _) _
  have hrow : Bytes (w3.alloc (.cells #[.int .u8 (o : Nat)] 5)) (some ⟨w3.heap.size, 0, none⟩) [o] := byteCells_row (l := [o]) (heap_alloc_new _ _) (by intro c hc; simp at hc; omega)
  have hFx := (hal.block w.heap.size (by omega)).trans hF3
  have hownx := hown3.below hal
  have hBwx := hBw3.trans (hal.mono (by omega))
  have hszx : w.heap.size + 1 ≤ (w3.alloc (.cells #[.int .u8 (o : Nat)] 5)).heap.size := Nat.le_trans hsz3 hal.size
  clear hF3 hown3 hBw3 hsz3
  go_wp2_with (at_builtin; refine wpList_append_bytes rfl (.tmp 18) (.tmp 22) 94 rfl 5 Try.underlying94 Try.infoU8 (w.heap.size + 1) _ q3 rfl hownx (some ⟨w3.heap.size, 0, none⟩) 1 [o] rfl hrow (fun e => by cases e) (by rw [L3.out]; simp) hszx ?_; intro v3 w3' hv3 hg3; have hb3 := hownx.grown hg3 hszx; have hF4 := (hb3.block w.heap.size (by omega)).trans hFx; have hBw4 := hBwx.trans (hb3.mono (by omega)); have hsz4 := Nat.le_trans hszx hb3.size; rw [← Q4.out] at hv3; have hown4 := hv3; obtain ⟨d0, d1, d2, d3, d4, d5⟩ := HCE.out _ hF4)
  clear hb3 hFx hownx hBwx hszx hal hrow hg3 hv3
  refine (HN3.out _).mono ?_
  rintro x w2 ⟨v2, rfl, ho2, hB2⟩
  obtain ⟨a2, c2, rfl, hb2, hn2, -⟩ := ho2.bytes
  have hFx := (hB2.block w.heap.size (by omega)).trans hF4
  have hownx := hown4.below hB2
  have hBwx := hBw4.trans (hB2.mono (by omega))
  have hszx : w.heap.size + 1 ≤ w2.heap.size := Nat.le_trans hsz4 hB2.size
  clear hF4 hown4 hBw4 hsz4
  go_wp2_with (at_builtin; refine wpList_append_bytes rfl (.tmp 24) (.tmp 27) 94 rfl 5 Try.underlying94 Try.infoU8 (w.heap.size + 1) _ q4 rfl hownx a2 c2 (Cod.leN 6 q) rfl hb2 hn2 (by rw [L4.out, Cod.leN_length]; omega) hszx ?_; intro v3 w3 hv3 hg3; have hb3 := hownx.grown hg3 hszx; have hF5 := (hb3.block w.heap.size (by omega)).trans hFx; have hBw5 := hBwx.trans (hb3.mono (by omega)); have hsz5 := Nat.le_trans hszx hb3.size; rw [← Q5.out] at hv3; have hown5 := hv3; obtain ⟨d0, d1, d2, d3, d4, d5⟩ := HCE.out _ hF5)
  clear hb3 hFx hownx hBwx hszx ho2 hB2 hb2 hn2 hg3 hv3
  refine (HN4.out _).mono ?_
  rintro x w2 ⟨v2, rfl, ho2, hB2⟩
  obtain ⟨a2, c2, rfl, hb2, hn2, -⟩ := ho2.bytes
  have hFx := (hB2.block w.heap.size (by omega)).trans hF5
  have hownx := hown5.below hB2
  have hBwx := hBw5.trans (hB2.mono (by omega))
  have hszx : w.heap.size + 1 ≤ w2.heap.size := Nat.le_trans hsz5 hB2.size
  clear hF5 hown5 hBw5 hsz5
  go_wp2_with (at_builtin; refine wpList_append_bytes rfl (.tmp 29) (.tmp 32) 94 rfl 5 Try.underlying94 Try.infoU8 (w.heap.size + 1) _ q5 rfl hownx a2 c2 (Cod.leN 4 s) rfl hb2 hn2 (by rw [L5.out, Cod.leN_length]; omega) hszx ?_; intro v3 w3 hv3 hg3; have hb3 := hownx.grown hg3 hszx; have hF6 := (hb3.block w.heap.size (by omega)).trans hFx; have hBw6 := hBwx.trans (hb3.mono (by omega)); have hsz6 := Nat.le_trans hszx hb3.size; rw [← Q6.out] at hv3; have hown6 := hv3)
  clear hb3 hFx hownx hBwx hszx ho2 hB2 hb2 hn2 hg3 hv3
  go_ret
  exact ⟨_, rfl, hown6.mono (by omega), hBw6⟩
end Go.Proofs.Ytjnneoejnpephaa
namespace Sn
open Go.Proofs.Ytjnneoejnpephaa
theorem pad44_zeros (l : List Nat) {k : Nat} (h : l.length + k ≤ 44) : pad44 (l ++ List.replicate k 0) = pad44 l := by
  unfold pad44
  rw [List.append_assoc, List.length_append, List.length_replicate, List.replicate_append_replicate, show k + (44 - (l.length + k)) = 44 - l.length by omega]
theorem entB_zero : entB BE.zero = List.replicate 16 0 := by decide
theorem doc_two {es : List BE} {j : Nat} (hj : j + 1 < 256) : pad44 ([j + 1] ++ entB (entAt es (2 * j)) ++ entB (entAt es (2 * j + 1))) = pad44 (partB es (j + 1)) := by
  rw [partB_eq]
  have e1 : Cod.leN 1 (j + 1) = [j + 1] := by simp [Cod.leN]; omega
  rw [e1]
theorem doc_one {es : List BE} {j : Nat} (hj : j + 1 < 256) (h : es.length ≤ 2 * j + 1) : pad44 ([j + 1] ++ entB (entAt es (2 * j))) = pad44 (partB es (j + 1)) := by
  rw [← doc_two hj]
  have e2 : entAt es (2 * j + 1) = BE.zero := by unfold entAt; rw [List.getElem?_eq_none (by omega)]; rfl
  rw [e2, entB_zero, pad44_zeros _ (by simp [entB_length])]
theorem entAt_eq {es : List BE} {k : Nat} {x : BE} (h : es[k]? = some x) : entAt es k = x := by unfold entAt; rw [h]; rfl
end Sn
namespace Go.Proofs.Ytjnneoejnpephaa
open Go.RowKit Go.Rv Frm
set_option linter.unusedVariables false
attribute [local go_sem] Oper.semAt_some
def Fact.rowSl (B : Nat) (C : Array Value) (t : TypeId) : Fact := ⟨fun u w => ∃ g, u = .slice (some ⟨g, 0, none⟩) 1 1 ∧ B ≤ g ∧ w.heap[g]? = some (.cells C t (0, 0)), fun u w w' ⟨g, e, hb, h⟩ hB => ⟨g, e, hb, (hB.block g (Array.getElem?_eq_some_iff.1 h).1).trans h⟩⟩
theorem Try.infoF3 : (Try.prog.info? 65).map (fun i => (i.zero, i.size)) = some (some (.agg (FC Fr.zero)), 49) := by kernel_rfl
theorem Try.infoE11 : (Try.prog.info? 104).map (·.size) = some 6 := by kernel_rfl
set_option maxRecDepth 100000 in
theorem built_headr (z e s : Int) (b : List Nat) (hl : b.length = 44) : Try.prog.built 65 [(0, .int .i64 4), (1, .int .i64 z), (3, .int .i64 e), (4, .int .i64 s), (5, .agg (byteCells b))] = some (FC ⟨4, z, 0, e, s, b⟩) := by
  obtain ⟨f, rfl⟩ := list_fn b 44 hl
  kernel_rfl
set_option maxRecDepth 100000 in
theorem built_partr (z o e s : Int) (b : List Nat) (hl : b.length = 44) : Try.prog.built 65 [(0, .int .i64 5), (1, .int .i64 z), (2, .int .i64 o), (3, .int .i64 e), (4, .int .i64 s), (5, .agg (byteCells b))] = some (FC ⟨5, z, o, e, s, b⟩) := by
  obtain ⟨f, rfl⟩ := list_fn b 44 hl
  kernel_rfl
/-- a slice of one of the document's frames is made -/
theorem wpList_slice1r {w : World} {ops : Array Oper} {rest : List Oper} {o : Oper} {a : Act} {Q : Exit → Act → World → Prop} (hg : o.guard = none) (x : Operand) (ho : o.op = .buildSlice 63 1 #[(0, x)]) (f : Fr) (hf : f.body.length = 44) (hx : a.eval x = .agg (FC f))
    (h : wpList Try.prog ops Q rest (a.put o.dst (.slice (some ⟨w.heap.size, 0, none⟩) 1 1)) (w.alloc (.cells (FC f) 65))) : wpList Try.prog ops Q (o :: rest) a w := by
  have hi := Try.infoF3
  cases hie : Try.prog.info? 65 with
  | none => rw [hie] at hi; cases hi
  | some ie =>
    rw [hie, Option.map_some, Option.some.injEq, Prod.mk.injEq] at hi
    obtain ⟨hz, hs⟩ := hi
    refine wpList_buildSlice hg 63 65 1 #[(0, x)] ho (FC f) ie (.agg (FC Fr.zero)) Try.underlying63 hie hz (by rw [hs]; decide) (by rw [hs]; decide) ?_ h
    rw [hs]
    obtain ⟨k, z, o, e, s, b⟩ := f
    have h1 := filled_frame k z o e s b hf _ rfl
    simp only [List.map_toArray, List.map_cons, List.map_nil, hx]
    exact h1
set_option maxRecDepth 100000 in
set_option maxHeartbeats 16000000 in
theorem rsframes_core (w : World) (gen epoch : Int) (nx dd z s b p o : Nat) (a : Option Addr) (cap : Nat) (es : List BE) (hr : RowOf w 6 BEC (fun _ => True) a es) (hrm : ∀ e ∈ es, Sn.Room e) (hn : nx < 281474976710656) (hd : dd < 256) (hz : z < 256) (hs : s < 256) (hb : b < 65536) (hp : p < 256) (ho : o < 256) (he : es.length ≤ 256) (zone : Int) (n : Nat) (hnn : n = 1 + (es.length + 1) / 2) :
    Calls Try.prog 31 #[.agg (RC gen epoch nx ⟨dd, z, s, b, p, o⟩ (.slice a es.length cap)), .int .i64 zone] w fun x w' => ∃ v, x = .returned v ∧ OwnM w' 65 49 FC (fun f => f.body.length = 44) w.heap.size v (Sn.frames gen epoch nx ⟨dd, z, s, b, p, o⟩ es zone n) ∧ Below w.heap.size w w' := by
  obtain ⟨q1, hq1⟩ : ∃ y, y = Cod.leN 6 nx := ⟨_, rfl⟩
  obtain ⟨q2, hq2⟩ : ∃ y, y = q1 ++ [dd, z, s] := ⟨_, rfl⟩
  obtain ⟨q3, hq3⟩ : ∃ y, y = q2 ++ Cod.leN 2 b := ⟨_, rfl⟩
  obtain ⟨q4, hq4⟩ : ∃ y, y = q3 ++ [p, o] := ⟨_, rfl⟩
  have hE : Sn.headB nx ⟨dd, z, s, b, p, o⟩ = q4 := by
    have e0 : ∀ c : Nat, c < 256 → Cod.leN 1 c = [c] := fun c h => by simp [Cod.leN]; omega
    rw [hq4, hq3, hq2, hq1]
    simp [Sn.headB, e0 dd hd, e0 z hz, e0 s hs, e0 p hp, e0 o ho]
  have l1 : q1.length = 6 := by rw [hq1]; simp [Cod.leN_length]
  have l2 : q2.length = 9 := by rw [hq2]; simp [l1]
  have l3 : q3.length = 11 := by rw [hq3]; simp [l2, Cod.leN_length]
  have l4 : q4.length = 13 := by rw [hq4]; simp [l3]
  have L1 := Lib.hid l1
  have L2 := Lib.hid l2
  have L3 := Lib.hid l3
  have L4 := Lib.hid l4
  have Q1 := Lib.hid hq1
  have Q2 := Lib.hid hq2
  have Q3 := Lib.hid hq3
  have Q4 := Lib.hid hq4
  have HN1 := Lib.hid (fun W => rnum_any 6 nx (by omega) (by omega) W)
  have HN2 := Lib.hid (fun W => rnum_any 2 b (by omega) (by omega) W)
  have HRB := Lib.hid (fun (ac : Option Addr) (l : List Nat) (c : Nat) (W : World) (h : Bytes W ac l) (hl : l.length ≤ 44) => rsbytes_any ac l c W h hl)
  have HRE := Lib.hid (fun (e : BE) (W : World) (h : Sn.Room e) => rsentry_any e W h)
  have HRM := Lib.hid hrm
  have HR0 := Lib.hid hr
  obtain ⟨F0, hF0⟩ : ∃ F0 : Fr, Sn.headF gen epoch nx ⟨dd, z, s, b, p, o⟩ zone = F0 := ⟨_, rfl⟩
  have hbh := built_headr zone epoch gen (Sn.pad44 q4) (Sn.pad44_length (by omega))
  have hf0 : (⟨4, zone, 0, epoch, gen, Sn.pad44 q4⟩ : Fr) = F0 := by rw [← hF0]; unfold Sn.headF; rw [hE]
  have hl0 : F0.body.length = 44 := by rw [← hf0]; exact Sn.pad44_length (by omega)
  rw [hf0] at hbh
  have HL0 := Lib.hid hl0
  have HBH := Lib.hid hbh
  have HF1 : Hid (Sn.frames gen epoch nx ⟨dd, z, s, b, p, o⟩ es zone 1 = [F0]) := Lib.hid (by rw [← hF0]; simp [Sn.frames])
  have HFS := Lib.hid (fun (i : Nat) (h : 1 ≤ i) => Sn.frames_succ gen epoch nx ⟨dd, z, s, b, p, o⟩ es zone h)
  have HFL := Lib.hid (fun (i : Nat) (h : 1 ≤ i) => Sn.frames_length gen epoch nx ⟨dd, z, s, b, p, o⟩ es zone h)
  have HIR : Hid ((Try.prog.info? 65).map (fun i => (i.zero, i.size, i.bytes)) = some (some (.agg (FC Fr.zero)), 49, 88)) := Lib.hid (by kernel_rfl)
  have HIE := Lib.hid Try.infoE11
  generalize Sn.frames gen epoch nx ⟨dd, z, s, b, p, o⟩ es zone = FRS at *
  clear hE l1 l2 l3 l4 hq1 hq2 hq3 hq4 hrm hr hF0 hf0 hbh hl0
  have HCE : Hid (∀ W : World, W.heap[w.heap.size]? = some (.cells (RC gen epoch nx ⟨dd, z, s, b, p, o⟩ (.slice a es.length cap)) 32 (0, 0)) → W.cell? ⟨w.heap.size, 0, none⟩ = some (.int .i64 gen) ∧ W.cell? ⟨w.heap.size, 1, none⟩ = some (.int .i64 epoch) ∧ W.cell? ⟨w.heap.size, 2, none⟩ = some (.int .i64 (nx : Nat)) ∧ W.cell? ⟨w.heap.size, 3, none⟩ = some (.int .i64 (dd : Nat)) ∧ W.cell? ⟨w.heap.size, 4, none⟩ = some (.int .i64 (z : Nat)) ∧ W.cell? ⟨w.heap.size, 5, none⟩ = some (.int .i64 (s : Nat)) ∧ W.cell? ⟨w.heap.size, 6, none⟩ = some (.int .i64 (b : Nat)) ∧ W.cell? ⟨w.heap.size, 7, none⟩ = some (.int .i64 (p : Nat)) ∧ W.cell? ⟨w.heap.size, 8, none⟩ = some (.int .i64 (o : Nat)) ∧ W.cell? ⟨w.heap.size, 9, none⟩ = some (.slice a es.length cap)) := Lib.hid (fun W hh => ⟨(cell_of_row _ _ _ _ _ _ hh).trans rfl, (cell_of_row _ _ _ _ _ _ hh).trans rfl, (cell_of_row _ _ _ _ _ _ hh).trans rfl, (cell_of_row _ _ _ _ _ _ hh).trans rfl, (cell_of_row _ _ _ _ _ _ hh).trans rfl, (cell_of_row _ _ _ _ _ _ hh).trans rfl, (cell_of_row _ _ _ _ _ _ hh).trans rfl, (cell_of_row _ _ _ _ _ _ hh).trans rfl, (cell_of_row _ _ _ _ _ _ hh).trans rfl, (cell_of_row _ _ _ _ _ _ hh).trans rfl⟩)
  generalize RC gen epoch nx ⟨dd, z, s, b, p, o⟩ (.slice a es.length cap) = C at *
  have hB0 : Below w.heap.size w (w.alloc (.cells C 32)) := (Below.refl _ _).alloc (Nat.le_refl _) _
  have hF0 := heap_alloc_new w (.cells C 32)
  have z0 : (w.alloc (.cells C 32)).heap.size = w.heap.size + 1 := by simp
  obtain ⟨W0, hW0⟩ : ∃ W0, w.alloc (.cells C 32) = W0 := ⟨_, rfl⟩
  rw [hW0] at hB0 hF0 z0
  obtain ⟨d0, d1, d2, d3, d4, d5, d6, d7, d8, d9⟩ := HCE.out _ hF0
  have HW0 := Lib.hid hW0
  clear hW0
  go_enter Try.func31, Try.ntmps31
  go_upto_region 1 with (fail)
  rw [HW0.out]
  go_wp2_with fail
  refine (HN1.out _).mono ?_
  rintro x w3 ⟨v2, rfl, ho2, hB2⟩
  have hF1 := (hB2.block w.heap.size (by omega)).trans hF0
  have hown1 := ho2.mono (show w.heap.size + 1 ≤ W0.heap.size by omega)
  rw [← Q1.out] at hown1
  have hBw1 := hB0.trans (hB2.mono (by omega))
  have hsz1 : w.heap.size + 1 ≤ w3.heap.size := Nat.le_trans (by omega) hB2.size
  clear hF0 hB0 z0 ho2 hB2 d0 d1 d2 d3 d4 d5 d6 d7 d8 d9
  obtain ⟨d0, d1, d2, d3, d4, d5, d6, d7, d8, d9⟩ := HCE.out _ hF1
  have hal : Below w3.heap.size w3 (w3.alloc (.cells #[.int .u8 (dd : Nat), .int .u8 (z : Nat), .int .u8 (s : Nat)] 5)) := (Below.refl _ _).alloc (Nat.le_refl _) _
  have hrow : Bytes (w3.alloc (.cells #[.int .u8 (dd : Nat), .int .u8 (z : Nat), .int .u8 (s : Nat)] 5)) (some ⟨w3.heap.size, 0, none⟩) [dd, z, s] := byteCells_row (l := [dd, z, s]) (heap_alloc_new _ _) (by intro c hc; simp at hc; omega)
  have hFx := (hal.block w.heap.size (by omega)).trans hF1
  have hownx := hown1.below hal
  have hBwx := hBw1.trans (hal.mono (by omega))
  have hszx : w.heap.size + 1 ≤ (w3.alloc (.cells #[.int .u8 (dd : Nat), .int .u8 (z : Nat), .int .u8 (s : Nat)] 5)).heap.size := Nat.le_trans hsz1 hal.size
  clear hF1 hown1 hBw1 hsz1
  go_wp2_with (at_builtin; refine wpList_append_bytes rfl (.tmp 12) (.tmp 25) 94 rfl 5 Try.underlying94 Try.infoU8 (w.heap.size + 1) _ q1 rfl hownx (some ⟨w3.heap.size, 0, none⟩) 3 [dd, z, s] rfl hrow (fun e => by cases e) (by rw [L1.out]; simp) hszx ?_; intro v3 w3' hv3 hg3; have hb3 := hownx.grown hg3 hszx; have hF2 := (hb3.block w.heap.size (by omega)).trans hFx; have hBw2 := hBwx.trans (hb3.mono (by omega)); have hsz2 := Nat.le_trans hszx hb3.size; rw [← Q2.out] at hv3; have hown2 := hv3; obtain ⟨d0, d1, d2, d3, d4, d5, d6, d7, d8, d9⟩ := HCE.out _ hF2)
  clear hb3 hFx hownx hBwx hszx hal hrow hg3 hv3
  refine (HN2.out _).mono ?_
  rintro x w2 ⟨v2, rfl, ho2, hB2⟩
  obtain ⟨a2, c2, rfl, hb2, hn2, -⟩ := ho2.bytes
  have hFx := (hB2.block w.heap.size (by omega)).trans hF2
  have hownx := hown2.below hB2
  have hBwx := hBw2.trans (hB2.mono (by omega))
  have hszx : w.heap.size + 1 ≤ w2.heap.size := Nat.le_trans hsz2 hB2.size
  clear hF2 hown2 hBw2 hsz2
  go_upto_region 4 with (at_builtin; refine wpList_append_bytes rfl (.tmp 27) (.tmp 31) 94 rfl 5 Try.underlying94 Try.infoU8 (w.heap.size + 1) _ q2 rfl hownx a2 c2 (Cod.leN 2 b) rfl hb2 hn2 (by rw [L2.out, Cod.leN_length]; omega) hszx ?_; intro v3 w3 hv3 hg3; have hb3 := hownx.grown hg3 hszx; have hF3 := (hb3.block w.heap.size (by omega)).trans hFx; have hBw3 := hBwx.trans (hb3.mono (by omega)); have hsz3 := Nat.le_trans hszx hb3.size; rw [← Q3.out] at hv3; have hown3 := hv3; obtain ⟨d0, d1, d2, d3, d4, d5, d6, d7, d8, d9⟩ := HCE.out _ hF3)
  clear hb3 hFx hownx hBwx hszx ho2 hB2 hb2 hn2 hg3 hv3
  have hal : Below w3.heap.size w3 (w3.alloc (.cells #[.int .u8 (p : Nat), .int .u8 (o : Nat)] 5)) := (Below.refl _ _).alloc (Nat.le_refl _) _
  have hrow : Bytes (w3.alloc (.cells #[.int .u8 (p : Nat), .int .u8 (o : Nat)] 5)) (some ⟨w3.heap.size, 0, none⟩) [p, o] := byteCells_row (l := [p, o]) (heap_alloc_new _ _) (by intro c hc; simp at hc; omega)
  have hFx := (hal.block w.heap.size (by omega)).trans hF3
  have hownx := hown3.below hal
  have hBwx := hBw3.trans (hal.mono (by omega))
  have hszx : w.heap.size + 1 ≤ (w3.alloc (.cells #[.int .u8 (p : Nat), .int .u8 (o : Nat)] 5)).heap.size := Nat.le_trans hsz3 hal.size
  clear hF3 hown3 hBw3 hsz3
  go_wp2_with (at_builtin; refine wpList_append_bytes rfl (.tmp 33) (.tmp 42) 94 rfl 5 Try.underlying94 Try.infoU8 (w.heap.size + 1) _ q3 rfl hownx (some ⟨w3.heap.size, 0, none⟩) 2 [p, o] rfl hrow (fun e => by cases e) (by rw [L3.out]; simp) hszx ?_; intro v3 w3' hv3 hg3; have hb3 := hownx.grown hg3 hszx; have hF4 := (hb3.block w.heap.size (by omega)).trans hFx; have hBw4 := hBwx.trans (hb3.mono (by omega)); have hsz4 := Nat.le_trans hszx hb3.size; rw [← Q4.out] at hv3; have hown4 := hv3; obtain ⟨d0, d1, d2, d3, d4, d5, d6, d7, d8, d9⟩ := HCE.out _ hF4)
  clear hb3 hFx hownx hBwx hszx hal hrow hg3 hv3
  obtain ⟨ac, cc, rfl, hbc, hnc, -⟩ := hown4.bytes
  rw [L4.out]
  obtain ⟨W4, hW4⟩ : ∃ W4 : World, W4 = w3' := ⟨_, rfl⟩
  rw [← hW4] at hF4 hBw4 hsz4 hbc ⊢
  have HF4 := Lib.hid hF4
  have HB4 := Lib.hid hBw4
  have HBC := Lib.hid hbc
  obtain ⟨X0, hX0⟩ : ∃ X0, FC F0 = X0 := ⟨_, rfl⟩
  rw [hX0] at HBH
  have HX0 := Lib.hid hX0
  obtain ⟨BH, hBH⟩ : ∃ BH, byteCells (Sn.pad44 q4) = BH := ⟨_, rfl⟩
  rw [hBH] at HBH
  have HRH : Hid (∀ W, Below W4.heap.size W4 W → Calls Try.prog 61 #[.slice ac 13 cc] W fun e w' => e = .returned (.agg BH) ∧ Below W.heap.size W w') := Lib.hid (fun W hW => by have := HRB.out ac q4 cc W (HBC.out.below hW) (by rw [L4.out]; omega); rwa [L4.out, hBH] at this)
  clear hF4 hBw4 hown4 hbc hW4 hX0 hBH d0 d1 d2 d3 d4 d5 d6 d7 d8 d9
  refine wp_region_conf2 9 [Fact.eq (.int .i64 zone), Fact.eq (.pointer (some ⟨w.heap.size, 1, none⟩)), Fact.eq (.int .i64 epoch), Fact.eq (.pointer (some ⟨w.heap.size, 0, none⟩)), Fact.eq (.int .i64 gen), Fact.eq (.slice ac 13 cc), Fact.eq (.agg BH), Fact.eq (.agg X0), Fact.rowSl W4.heap.size X0 65] ?raA (by kernel_rfl) (by kernel_rfl) ?rahA ?raho ?rahend
  case rahA =>
    intro vv
    simp only [putRules, Nat.reduceAdd]
    rfl
  case raho =>
    refine ⟨?_, ?_, ?_, ?_, ?_, ?_, ?_, ?_, ?_, trivial⟩
    · intro vv W K hB hd HK
      simp only [confRules] at HK
      clear hd
      go_wp2
      refine HK.out _ _ (Below.refl _ _) ?_
      rfl
    · intro vv W K hB hd HK
      simp only [confRules] at HK
      clear hd
      go_wp2
      refine HK.out _ _ (Below.refl _ _) ?_
      rfl
    · intro vv W K hB hd HK
      simp only [confRules] at hd HK
      have h1 := hd
      clear hd
      simp only [h1] at HK ⊢
      clear h1
      have hT := HCE.out _ ((hB.block w.heap.size (by omega)).trans HF4.out)
      obtain ⟨d0, d1, d2, d3, d4, d5, d6, d7, d8, d9⟩ := hT
      clear d0 d2 d3 d4 d5 d6 d7 d8 d9
      go_wp2
      refine HK.out _ _ (Below.refl _ _) ?_
      rfl
    · intro vv W K hB hd HK
      simp only [confRules] at HK
      clear hd
      go_wp2
      refine HK.out _ _ (Below.refl _ _) ?_
      rfl
    · intro vv W K hB hd HK
      simp only [confRules] at hd HK
      have h3 := hd
      clear hd
      simp only [h3] at HK ⊢
      clear h3
      have hT := HCE.out _ ((hB.block w.heap.size (by omega)).trans HF4.out)
      obtain ⟨d0, d1, d2, d3, d4, d5, d6, d7, d8, d9⟩ := hT
      clear d1 d2 d3 d4 d5 d6 d7 d8 d9
      go_wp2
      refine HK.out _ _ (Below.refl _ _) ?_
      rfl
    · intro vv W K hB hd HK
      simp only [confRules] at HK
      clear hd
      go_wp2
      refine HK.out _ _ (Below.refl _ _) ?_
      rfl
    · intro vv W K hB hd HK
      simp only [confRules] at hd HK
      have h5 := hd
      clear hd
      simp only [h5] at HK ⊢
      clear h5
      go_wp2_with (refine (HRH.out _ hB).mono ?_; rintro e w9 ⟨rfl, hB9⟩)
      refine HK.out _ _ hB9 ?_
      rfl
    · intro vv W K hB hd HK
      simp only [confRules] at hd HK
      obtain ⟨h0, h2, h4, h6⟩ := hd
      simp only [h0, h2, h4, h6] at HK ⊢
      clear h0 h2 h4 h6
      go_wp2_with (refine wpList_build_on (by rfl) 65 _ rfl #[(0, .int .i64 4), (1, .int .i64 zone), (3, .int .i64 epoch), (4, .int .i64 gen), (5, .agg BH)] (by simp [Act.eval]) X0 HBH.out ?_)
      refine HK.out _ _ (Below.refl _ _) ?_
      rfl
    · intro vv W K hB hd HK
      simp only [confRules] at hd HK
      have h7 := hd
      clear hd
      simp only [h7] at HK ⊢
      clear h7
      go_wp2_with (refine wpList_slice1r rfl (.tmp 51) rfl F0 HL0.out (congrArg Value.agg HX0.out.symm) ?_; rw [HX0.out])
      refine HK.out _ _ ((Below.refl _ _).alloc (Nat.le_refl _) _) ?_
      exact ⟨_, rfl, hB.size, heap_alloc_new _ _⟩
  case rahend =>
    intro vv W hB hf
    obtain ⟨g8, e8, l8, r8⟩ := hf 8 (by decide)
    simp only [e8, dropRules]
    clear hf e8
    have zW := hB.size
    have HX := Lib.hid ((hB.block w.heap.size (by omega)).trans HF4.out)
    have HBW := Lib.hid (HB4.out.trans (hB.mono HB4.out.size))
    have HOWN : Hid (OwnM W 65 49 FC (fun f => f.body.length = 44) (w.heap.size + 1) (.slice (some ⟨g8, 0, none⟩) 1 1) (FRS 1)) := Lib.hid (by
      rw [HF1.out]
      refine ⟨⟨by rw [flatM_one, Array.length_toList, FC_size, HL0.out]; rfl, .inr ⟨g8, 1, X0, rfl, by omega, r8, Nat.le_refl _, by unfold maxLen; omega, ?_, ?_⟩⟩, by simpa using HL0.out⟩
      · rw [← HX0.out, FC_size, HL0.out]
      · rw [flatM_one, HX0.out, List.take_of_length_le]
        rw [Array.length_toList, ← HX0.out, FC_size, HL0.out]
        simp)
    clear hB r8 l8
    go_wp2
    go_loopw [6, 7] (fun v u wr => ∃ k : Nat, 1 ≤ k ∧ k ≤ n ∧ u = .int .i64 k ∧ OwnM wr 65 49 FC (fun f => f.body.length = 44) (w.heap.size + 1) v (FRS k) ∧ wr.heap[w.heap.size]? = some (.cells C 32 (0, 0)) ∧ Below w.heap.size w wr) (fun _ u _ => n - (intOf u).toNat)
    case atStart => exact ⟨1, by omega, by omega, rfl, HOWN.out, HX.out, HBW.out⟩
    case round =>
      obtain ⟨k, hk1, hk2, rfl, hown, hF, hBr⟩ := hrel
      have zr := hBr.size
      have zx : w.heap.size < wr.heap.size := (Array.getElem?_eq_some_iff.1 hF).1
      obtain ⟨j, hj⟩ : ∃ j, k = j + 1 := ⟨k - 1, by omega⟩
      have hj1 : k ≤ j + 1 := by omega
      have hj2 : j + 1 ≤ k := by omega
      have HJ := Lib.hid hj
      clear hj
      have HF := Lib.hid hF
      have HB := Lib.hid hBr
      have HOW := Lib.hid hown
      have HKS := Lib.hid (HFS.out k hk1)
      have HLK := Lib.hid (HFL.out k hk1)
      obtain ⟨FR, hFR⟩ : ∃ FR, FRS k = FR := ⟨_, rfl⟩
      rw [hFR] at HOW HKS HLK
      obtain ⟨d0, d1, d2, d3, d4, d5, d6, d7, d8, d9⟩ := HCE.out _ hF
      have HFR := Lib.hid hFR
      clear hF hBr hown hFR
      by_cases hlt : 2 * j < es.length
      · obtain ⟨x1, hx1⟩ : ∃ x, es[2 * j]? = some x := ⟨_, List.getElem?_eq_getElem hlt⟩
        have ex1 := Sn.entAt_eq hx1
        have hr1 := HRM.out x1 (List.mem_of_getElem? hx1)
        obtain ⟨bb, oo, rfl, hbl, -, -⟩ := HR0.out.at hx1
        have hg1 : ∀ W, Below w.heap.size w W → W.rangeAt bb (oo + (2 * k - 2) * 6) (BEC x1).toList := fun W hW => by rw [show 2 * k - 2 = 2 * j by omega]; exact (HR0.out.below hW).range hx1 rfl
        have hc1 : ∀ W, Calls Try.prog 62 #[.agg (BEC x1).toList.toArray] W fun x w' => ∃ v, x = .returned v ∧ OwnB w' 5 W.heap.size v (Sn.entB x1) ∧ Below W.heap.size W w' := fun W => HRE.out x1 W hr1
        have hi1 : (Try.prog.info? 104).map (·.size) = some (BEC x1).toList.length := HIE.out
        obtain ⟨X1, hX1⟩ : ∃ X, (BEC x1).toList = X := ⟨_, rfl⟩
        rw [hX1] at hg1 hc1 hi1
        have HG1 := Lib.hid hg1
        have HC1 := Lib.hid hc1
        have HI1 := Lib.hid hi1
        have LE1 := Lib.hid (Sn.entB_length x1)
        obtain ⟨W1, hW1⟩ : ∃ W1, wr.alloc (.cells #[.int .u8 (k : Nat)] 5) = W1 := ⟨_, rfl⟩
        have hb1 : Below wr.heap.size wr W1 := by rw [← hW1]; exact (Below.refl _ _).alloc (Nat.le_refl _) _
        have hown1 : OwnB W1 5 wr.heap.size (.slice (some ⟨wr.heap.size, 0, none⟩) 1 1) [k] := by
          rw [← hW1]
          exact OwnB.row (l := [k]) (Nat.le_refl _) (heap_alloc_new _ _) (by intro c hc; simp at hc; omega) (by unfold maxLen; simp)
        have HW1 := Lib.hid hW1
        clear hX1 hg1 hc1 hi1 hW1 hr1 hx1 hbl
        by_cases hlt2 : 2 * j + 1 < es.length
        · obtain ⟨x2, hx2⟩ : ∃ x, es[2 * j + 1]? = some x := ⟨_, List.getElem?_eq_getElem hlt2⟩
          have ex2 := Sn.entAt_eq hx2
          have hr2 := HRM.out x2 (List.mem_of_getElem? hx2)
          have hg2 : ∀ W, Below w.heap.size w W → W.rangeAt bb (oo + (2 * k - 1) * 6) (BEC x2).toList := fun W hW => by rw [show 2 * k - 1 = 2 * j + 1 by omega]; exact (HR0.out.below hW).range hx2 rfl
          have hc2 : ∀ W, Calls Try.prog 62 #[.agg (BEC x2).toList.toArray] W fun x w' => ∃ v, x = .returned v ∧ OwnB w' 5 W.heap.size v (Sn.entB x2) ∧ Below W.heap.size W w' := fun W => HRE.out x2 W hr2
          have hi2 : (Try.prog.info? 104).map (·.size) = some (BEC x2).toList.length := HIE.out
          obtain ⟨X2, hX2⟩ : ∃ X, (BEC x2).toList = X := ⟨_, rfl⟩
          rw [hX2] at hg2 hc2 hi2
          have HG2 := Lib.hid hg2
          have HC2 := Lib.hid hc2
          have HI2 := Lib.hid hi2
          have LE2 := Lib.hid (Sn.entB_length x2)
          have hpad : Sn.pad44 ([k] ++ Sn.entB x1 ++ Sn.entB x2) = Sn.pad44 (Sn.partB es k) := by
            have := Sn.doc_two (es := es) (j := j) (by omega)
            rw [ex1, ex2, ← HJ.out] at this
            exact this
          have HPAD := Lib.hid hpad
          clear hX2 hg2 hc2 hi2 hr2 hx2 hpad
          go_upto_region 10 with (fail)
          rw [HW1.out]
          clear d0 d1 d2 d3 d4 d5 d6 d7 d8 d9
          obtain ⟨d0, d1, d2, d3, d4, d5, d6, d7, d8, d9⟩ := HCE.out _ ((hb1.block w.heap.size zx).trans HF.out)
          go_wp2_with (refine wpList_load_mid rfl 104 _ rfl bb (oo + (2 * k - 2) * 6) rfl X1 _ (HG1.out _ (HB.out.trans (hb1.mono HB.out.size))) Try.underlying104 rfl HI1.out ?_)
          refine (HC1.out _).mono ?_
          rintro y1 w2 ⟨v2, rfl, ho2, hB2⟩
          obtain ⟨a2, c2, rfl, hb2', hn2, -⟩ := ho2.bytes
          have hownx := hown1.below hB2
          have hbx := hb1.trans (hB2.mono hb1.size)
          have hszx := hbx.size
          clear hown1 ho2 hB2
          go_upto_region 12 with (at_builtin; refine wpList_append_bytes rfl (.tmp 65) (.tmp 73) 94 rfl 5 Try.underlying94 Try.infoU8 wr.heap.size _ [k] rfl hownx a2 c2 (Sn.entB x1) rfl hb2' hn2 (by simp [LE1.out]) hszx ?_; intro v2 W2 hown2 hg3; have hb2 := hbx.trans (hownx.grown hg3 hszx); obtain ⟨d0, d1, d2, d3, d4, d5, d6, d7, d8, d9⟩ := HCE.out _ ((hb2.block w.heap.size zx).trans HF.out); clear hg3 hb2' hn2 hownx hbx)
          go_wp2_with (refine wpList_load_mid rfl 104 _ rfl bb (oo + (2 * k - 1) * 6) rfl X2 _ (HG2.out _ (HB.out.trans (hb2.mono HB.out.size))) Try.underlying104 rfl HI2.out ?_)
          refine (HC2.out _).mono ?_
          rintro y2 w2 ⟨v2, rfl, ho2, hB2⟩
          obtain ⟨a2, c2, rfl, hb2', hn2, -⟩ := ho2.bytes
          have hownx := hown2.below hB2
          have hbx := hb2.trans (hB2.mono hb2.size)
          have hszx := hbx.size
          clear hown2 ho2 hB2
          go_upto_region 13 with (at_builtin; refine wpList_append_bytes rfl (.tmp 82) (.tmp 90) 94 rfl 5 Try.underlying94 Try.infoU8 wr.heap.size _ ([k] ++ Sn.entB x1) rfl hownx a2 c2 (Sn.entB x2) rfl hb2' hn2 (by simp [LE1.out, LE2.out]) hszx ?_; intro v3 W3 hown3 hg3; have hb3 := hbx.trans (hownx.grown hg3 hszx); obtain ⟨d0, d1, d2, d3, d4, d5, d6, d7, d8, d9⟩ := HCE.out _ ((hb3.block w.heap.size zx).trans HF.out); clear hg3 hb2' hn2 hownx hbx)
          obtain ⟨ac', cc', rfl, hbc, hnc, -⟩ := hown3.bytes
          have hql : ([k] ++ Sn.entB x1 ++ Sn.entB x2).length = 33 := by simp [LE1.out, LE2.out]
          have HBC := Lib.hid hbc
          have HBN := Lib.hid hb3
          have HOWN' := Lib.hid (HOW.out.below hb3)
          have HFn := Lib.hid ((hb3.block w.heap.size zx).trans HF.out)
          have zn := hb3.size
          obtain ⟨NF, hNF⟩ : ∃ NF, Sn.partF gen epoch es zone k = NF := ⟨_, rfl⟩
          have hnl : NF.body.length = 44 := by rw [← hNF]; exact Sn.pad44_length (by rw [Sn.partB_length]; omega)
          have hbp := built_partr zone k epoch gen (Sn.pad44 ([k] ++ Sn.entB x1 ++ Sn.entB x2)) (Sn.pad44_length (by rw [hql]; omega))
          rw [show (⟨5, zone, (k : Nat), epoch, gen, Sn.pad44 ([k] ++ Sn.entB x1 ++ Sn.entB x2)⟩ : Fr) = NF by rw [HPAD.out]; exact hNF] at hbp
          rw [hNF] at HKS
          have HRH' : Hid (∀ W, Below W3.heap.size W3 W → Calls Try.prog 61 #[.slice ac' 33 cc'] W fun e w' => e = .returned (.agg (byteCells (Sn.pad44 ([k] ++ Sn.entB x1 ++ Sn.entB x2)))) ∧ Below W.heap.size W w') := Lib.hid (fun W hW => by have := HRB.out ac' ([k] ++ Sn.entB x1 ++ Sn.entB x2) cc' W (HBC.out.below hW) (by rw [hql]; omega); rwa [hql] at this)
          obtain ⟨XP, hXP⟩ : ∃ XP, FC NF = XP := ⟨_, rfl⟩
          obtain ⟨BQ, hBQ⟩ : ∃ BQ, byteCells (Sn.pad44 ([k] ++ Sn.entB x1 ++ Sn.entB x2)) = BQ := ⟨_, rfl⟩
          rw [hXP, hBQ] at hbp
          rw [hBQ] at HRH'
          rw [hql]
          have HBP := Lib.hid hbp
          have HXP := Lib.hid hXP
          have HNL := Lib.hid hnl
          clear hbp hXP hBQ hNF hnl hql hown3 hb3 hbc hnc d0 d1 d2 d3 d4 d5 d6 d7 d8 d9
          refine wp_region_conf2 11 [Fact.eq u6, Fact.eq (.int .i64 zone), Fact.eq (.int .i64 (k : Nat)), Fact.eq (.pointer (some ⟨w.heap.size, 1, none⟩)), Fact.eq (.int .i64 epoch), Fact.eq (.pointer (some ⟨w.heap.size, 0, none⟩)), Fact.eq (.int .i64 gen), Fact.eq (.slice ac' 33 cc'), Fact.eq (.agg BQ), Fact.eq (.agg XP), Fact.rowSl W3.heap.size XP 65] ?rbA (by kernel_rfl) (by kernel_rfl) ?rbhA ?rbho ?rbhend
          case rbhA =>
            intro vv
            simp only [putRules, Nat.reduceAdd]
            rfl
          case rbho =>
            refine ⟨?_, ?_, ?_, ?_, ?_, ?_, ?_, ?_, ?_, ?_, ?_, trivial⟩
            · intro vv W K hB hd HK
              simp only [confRules] at HK
              clear hd
              go_wp2
              refine HK.out _ _ (Below.refl _ _) ?_
              rfl
            · intro vv W K hB hd HK
              simp only [confRules] at HK
              clear hd
              go_wp2
              refine HK.out _ _ (Below.refl _ _) ?_
              rfl
            · intro vv W K hB hd HK
              simp only [confRules] at HK
              clear hd
              go_wp2
              refine HK.out _ _ (Below.refl _ _) ?_
              rfl
            · intro vv W K hB hd HK
              simp only [confRules] at HK
              clear hd
              go_wp2
              refine HK.out _ _ (Below.refl _ _) ?_
              rfl
            · intro vv W K hB hd HK
              simp only [confRules] at hd HK
              have h3 := hd
              clear hd
              simp only [h3] at HK ⊢
              clear h3
              have hT := HCE.out _ ((hB.block w.heap.size (by omega)).trans HFn.out)
              obtain ⟨d0, d1, d2, d3, d4, d5, d6, d7, d8, d9⟩ := hT
              clear d0 d2 d3 d4 d5 d6 d7 d8 d9
              go_wp2
              refine HK.out _ _ (Below.refl _ _) ?_
              rfl
            · intro vv W K hB hd HK
              simp only [confRules] at HK
              clear hd
              go_wp2
              refine HK.out _ _ (Below.refl _ _) ?_
              rfl
            · intro vv W K hB hd HK
              simp only [confRules] at hd HK
              have h5 := hd
              clear hd
              simp only [h5] at HK ⊢
              clear h5
              have hT := HCE.out _ ((hB.block w.heap.size (by omega)).trans HFn.out)
              obtain ⟨d0, d1, d2, d3, d4, d5, d6, d7, d8, d9⟩ := hT
              clear d1 d2 d3 d4 d5 d6 d7 d8 d9
              go_wp2
              refine HK.out _ _ (Below.refl _ _) ?_
              rfl
            · intro vv W K hB hd HK
              simp only [confRules] at HK
              clear hd
              go_wp2
              refine HK.out _ _ (Below.refl _ _) ?_
              rfl
            · intro vv W K hB hd HK
              simp only [confRules] at hd HK
              have h7 := hd
              clear hd
              simp only [h7] at HK ⊢
              clear h7
              go_wp2_with (refine (HRH'.out _ hB).mono ?_; rintro e w9 ⟨rfl, hB9⟩)
              refine HK.out _ _ hB9 ?_
              rfl
            · intro vv W K hB hd HK
              simp only [confRules] at hd HK
              obtain ⟨h1, h2, h4, h6, h8⟩ := hd
              simp only [h1, h2, h4, h6, h8] at HK ⊢
              clear h1 h2 h4 h6 h8
              go_wp2_with (refine wpList_build_on (by rfl) 65 _ rfl #[(0, .int .i64 5), (1, .int .i64 zone), (2, .int .i64 k), (3, .int .i64 epoch), (4, .int .i64 gen), (5, .agg BQ)] (by simp [Act.eval]) XP HBP.out ?_)
              refine HK.out _ _ (Below.refl _ _) ?_
              rfl
            · intro vv W K hB hd HK
              simp only [confRules] at hd HK
              have h9 := hd
              clear hd
              simp only [h9] at HK ⊢
              clear h9
              go_wp2_with (refine wpList_slice1r rfl (.tmp 101) rfl NF HNL.out (congrArg Value.agg HXP.out.symm) ?_; rw [HXP.out])
              refine HK.out _ _ ((Below.refl _ _).alloc (Nat.le_refl _) _) ?_
              exact ⟨_, rfl, hB.size, heap_alloc_new _ _⟩
          case rbhend =>
            intro vv W hB hf
            have e0 := hf 0 (by decide)
            obtain ⟨g10, e10, l10, r10⟩ := hf 10 (by decide)
            simp only [endRules] at e0
            simp only [e0, e10, dropRules]
            clear hf e0 e10
            have zW2 := hB.size
            have hO := HOWN'.out.below hB
            have hBt := HBN.out.trans (hB.mono zn)
            have hrow : RowOf W 49 FC (fun f => f.body.length = 44) (some ⟨g10, 0, none⟩) [NF] := one_rowOf (t := 65) (fr := (0, 0)) (by rw [HXP.out]; exact r10) HNL.out
            have hbase : w.heap.size + 1 ≤ W.heap.size := by omega
            go_wp2_with (at_builtin; refine wpList_appendM rfl (.tmp 92) (.tmp 102) 63 rfl 65 49 FC (fun f => f.body.length = 44) kinF (by decide) (.agg (FC Fr.zero)) 88 Try.underlying63 HIR.out rfl (w.heap.size + 1) _ FR rfl hO (some ⟨g10, 0, none⟩) 1 [NF] (by rfl) hrow (by simp) (by have := HLK.out; simp; unfold maxLen; omega) (by have := HLK.out; simp; omega) hbase ?_; intro v12 w12 hv12 hg12 _)
            have hO12 := hO.grown hg12 hbase
            have HF12 := Lib.hid ((hO12.block w.heap.size (by omega)).trans ((hBt.block w.heap.size zx).trans HF.out))
            have HB12 := Lib.hid ((HB.out.trans (hBt.mono HB.out.size)).trans (hO12.mono (by omega)))
            have HV12 := Lib.hid hv12
            clear hv12 hg12 hO12 hO hBt hrow hB
            go_roundw
            case rel => exact ⟨k + 1, by omega, by omega, by go_num, by rw [HKS.out]; exact HV12.out, HF12.out, HB12.out⟩
            case measure => simp [intOf]; omega
        · have hpad : Sn.pad44 ([k] ++ Sn.entB x1) = Sn.pad44 (Sn.partB es k) := by
            have := Sn.doc_one (es := es) (j := j) (by omega) (by omega)
            rw [ex1, ← HJ.out] at this
            exact this
          have HPAD := Lib.hid hpad
          clear hpad
          go_upto_region 10 with (fail)
          rw [HW1.out]
          clear d0 d1 d2 d3 d4 d5 d6 d7 d8 d9
          obtain ⟨d0, d1, d2, d3, d4, d5, d6, d7, d8, d9⟩ := HCE.out _ ((hb1.block w.heap.size zx).trans HF.out)
          go_wp2_with (refine wpList_load_mid rfl 104 _ rfl bb (oo + (2 * k - 2) * 6) rfl X1 _ (HG1.out _ (HB.out.trans (hb1.mono HB.out.size))) Try.underlying104 rfl HI1.out ?_)
          refine (HC1.out _).mono ?_
          rintro y1 w2 ⟨v2, rfl, ho2, hB2⟩
          obtain ⟨a2, c2, rfl, hb2', hn2, -⟩ := ho2.bytes
          have hownx := hown1.below hB2
          have hbx := hb1.trans (hB2.mono hb1.size)
          have hszx := hbx.size
          clear hown1 ho2 hB2
          go_upto_region 13 with (at_builtin; refine wpList_append_bytes rfl (.tmp 65) (.tmp 73) 94 rfl 5 Try.underlying94 Try.infoU8 wr.heap.size _ [k] rfl hownx a2 c2 (Sn.entB x1) rfl hb2' hn2 (by simp [LE1.out]) hszx ?_; intro v2 W2 hown2 hg3; have hb2 := hbx.trans (hownx.grown hg3 hszx); obtain ⟨d0, d1, d2, d3, d4, d5, d6, d7, d8, d9⟩ := HCE.out _ ((hb2.block w.heap.size zx).trans HF.out); clear hg3 hb2' hn2 hownx hbx)
          obtain ⟨ac', cc', rfl, hbc, hnc, -⟩ := hown2.bytes
          have hql : ([k] ++ Sn.entB x1).length = 17 := by simp [LE1.out]
          have HBC := Lib.hid hbc
          have HBN := Lib.hid hb2
          have HOWN' := Lib.hid (HOW.out.below hb2)
          have HFn := Lib.hid ((hb2.block w.heap.size zx).trans HF.out)
          have zn := hb2.size
          obtain ⟨NF, hNF⟩ : ∃ NF, Sn.partF gen epoch es zone k = NF := ⟨_, rfl⟩
          have hnl : NF.body.length = 44 := by rw [← hNF]; exact Sn.pad44_length (by rw [Sn.partB_length]; omega)
          have hbp := built_partr zone k epoch gen (Sn.pad44 ([k] ++ Sn.entB x1)) (Sn.pad44_length (by rw [hql]; omega))
          rw [show (⟨5, zone, (k : Nat), epoch, gen, Sn.pad44 ([k] ++ Sn.entB x1)⟩ : Fr) = NF by rw [HPAD.out]; exact hNF] at hbp
          rw [hNF] at HKS
          have HRH' : Hid (∀ W, Below W2.heap.size W2 W → Calls Try.prog 61 #[.slice ac' 17 cc'] W fun e w' => e = .returned (.agg (byteCells (Sn.pad44 ([k] ++ Sn.entB x1)))) ∧ Below W.heap.size W w') := Lib.hid (fun W hW => by have := HRB.out ac' ([k] ++ Sn.entB x1) cc' W (HBC.out.below hW) (by rw [hql]; omega); rwa [hql] at this)
          obtain ⟨XP, hXP⟩ : ∃ XP, FC NF = XP := ⟨_, rfl⟩
          obtain ⟨BQ, hBQ⟩ : ∃ BQ, byteCells (Sn.pad44 ([k] ++ Sn.entB x1)) = BQ := ⟨_, rfl⟩
          rw [hXP, hBQ] at hbp
          rw [hBQ] at HRH'
          rw [hql]
          have HBP := Lib.hid hbp
          have HXP := Lib.hid hXP
          have HNL := Lib.hid hnl
          clear hbp hXP hBQ hNF hnl hql hown2 hb2 hbc hnc d0 d1 d2 d3 d4 d5 d6 d7 d8 d9
          refine wp_region_conf2 11 [Fact.eq u6, Fact.eq (.int .i64 zone), Fact.eq (.int .i64 (k : Nat)), Fact.eq (.pointer (some ⟨w.heap.size, 1, none⟩)), Fact.eq (.int .i64 epoch), Fact.eq (.pointer (some ⟨w.heap.size, 0, none⟩)), Fact.eq (.int .i64 gen), Fact.eq (.slice ac' 17 cc'), Fact.eq (.agg BQ), Fact.eq (.agg XP), Fact.rowSl W2.heap.size XP 65] ?rcA (by kernel_rfl) (by kernel_rfl) ?rchA ?rcho ?rchend
          case rchA =>
            intro vv
            simp only [putRules, Nat.reduceAdd]
            rfl
          case rcho =>
            refine ⟨?_, ?_, ?_, ?_, ?_, ?_, ?_, ?_, ?_, ?_, ?_, trivial⟩
            · intro vv W K hB hd HK
              simp only [confRules] at HK
              clear hd
              go_wp2
              refine HK.out _ _ (Below.refl _ _) ?_
              rfl
            · intro vv W K hB hd HK
              simp only [confRules] at HK
              clear hd
              go_wp2
              refine HK.out _ _ (Below.refl _ _) ?_
              rfl
            · intro vv W K hB hd HK
              simp only [confRules] at HK
              clear hd
              go_wp2
              refine HK.out _ _ (Below.refl _ _) ?_
              rfl
            · intro vv W K hB hd HK
              simp only [confRules] at HK
              clear hd
              go_wp2
              refine HK.out _ _ (Below.refl _ _) ?_
              rfl
            · intro vv W K hB hd HK
              simp only [confRules] at hd HK
              have h3 := hd
              clear hd
              simp only [h3] at HK ⊢
              clear h3
              have hT := HCE.out _ ((hB.block w.heap.size (by omega)).trans HFn.out)
              obtain ⟨d0, d1, d2, d3, d4, d5, d6, d7, d8, d9⟩ := hT
              clear d0 d2 d3 d4 d5 d6 d7 d8 d9
              go_wp2
              refine HK.out _ _ (Below.refl _ _) ?_
              rfl
            · intro vv W K hB hd HK
              simp only [confRules] at HK
              clear hd
              go_wp2
              refine HK.out _ _ (Below.refl _ _) ?_
              rfl
            · intro vv W K hB hd HK
              simp only [confRules] at hd HK
              have h5 := hd
              clear hd
              simp only [h5] at HK ⊢
              clear h5
              have hT := HCE.out _ ((hB.block w.heap.size (by omega)).trans HFn.out)
              obtain ⟨d0, d1, d2, d3, d4, d5, d6, d7, d8, d9⟩ := hT
              clear d1 d2 d3 d4 d5 d6 d7 d8 d9
              go_wp2
              refine HK.out _ _ (Below.refl _ _) ?_
              rfl
            · intro vv W K hB hd HK
              simp only [confRules] at HK
              clear hd
              go_wp2
              refine HK.out _ _ (Below.refl _ _) ?_
              rfl
            · intro vv W K hB hd HK
              simp only [confRules] at hd HK
              have h7 := hd
              clear hd
              simp only [h7] at HK ⊢
              clear h7
              go_wp2_with (refine (HRH'.out _ hB).mono ?_; rintro e w9 ⟨rfl, hB9⟩)
              refine HK.out _ _ hB9 ?_
              rfl
            · intro vv W K hB hd HK
              simp only [confRules] at hd HK
              obtain ⟨h1, h2, h4, h6, h8⟩ := hd
              simp only [h1, h2, h4, h6, h8] at HK ⊢
              clear h1 h2 h4 h6 h8
              go_wp2_with (refine wpList_build_on (by rfl) 65 _ rfl #[(0, .int .i64 5), (1, .int .i64 zone), (2, .int .i64 k), (3, .int .i64 epoch), (4, .int .i64 gen), (5, .agg BQ)] (by simp [Act.eval]) XP HBP.out ?_)
              refine HK.out _ _ (Below.refl _ _) ?_
              rfl
            · intro vv W K hB hd HK
              simp only [confRules] at hd HK
              have h9 := hd
              clear hd
              simp only [h9] at HK ⊢
              clear h9
              go_wp2_with (refine wpList_slice1r rfl (.tmp 101) rfl NF HNL.out (congrArg Value.agg HXP.out.symm) ?_; rw [HXP.out])
              refine HK.out _ _ ((Below.refl _ _).alloc (Nat.le_refl _) _) ?_
              exact ⟨_, rfl, hB.size, heap_alloc_new _ _⟩
          case rchend =>
            intro vv W hB hf
            have e0 := hf 0 (by decide)
            obtain ⟨g10, e10, l10, r10⟩ := hf 10 (by decide)
            simp only [endRules] at e0
            simp only [e0, e10, dropRules]
            clear hf e0 e10
            have zW2 := hB.size
            have hO := HOWN'.out.below hB
            have hBt := HBN.out.trans (hB.mono zn)
            have hrow : RowOf W 49 FC (fun f => f.body.length = 44) (some ⟨g10, 0, none⟩) [NF] := one_rowOf (t := 65) (fr := (0, 0)) (by rw [HXP.out]; exact r10) HNL.out
            have hbase : w.heap.size + 1 ≤ W.heap.size := by omega
            go_wp2_with (at_builtin; refine wpList_appendM rfl (.tmp 92) (.tmp 102) 63 rfl 65 49 FC (fun f => f.body.length = 44) kinF (by decide) (.agg (FC Fr.zero)) 88 Try.underlying63 HIR.out rfl (w.heap.size + 1) _ FR rfl hO (some ⟨g10, 0, none⟩) 1 [NF] (by rfl) hrow (by simp) (by have := HLK.out; simp; unfold maxLen; omega) (by have := HLK.out; simp; omega) hbase ?_; intro v12 w12 hv12 hg12 _)
            have hO12 := hO.grown hg12 hbase
            have HF12 := Lib.hid ((hO12.block w.heap.size (by omega)).trans ((hBt.block w.heap.size zx).trans HF.out))
            have HB12 := Lib.hid ((HB.out.trans (hBt.mono HB.out.size)).trans (hO12.mono (by omega)))
            have HV12 := Lib.hid hv12
            clear hv12 hg12 hO12 hO hBt hrow hB
            go_roundw
            case rel => exact ⟨k + 1, by omega, by omega, by go_num, by rw [HKS.out]; exact HV12.out, HF12.out, HB12.out⟩
            case measure => simp [intOf]; omega
      · have hkn : k = n := by omega
        have HKN := Lib.hid hkn
        clear hkn
        go_wp2
        go_ret
        obtain rfl : k = n := HKN.out
        rw [HFR.out]
        exact ⟨_, rfl, HOW.out.mono (show w.heap.size ≤ w.heap.size + 1 by omega), HB.out⟩
theorem rsframes_any (w : World) (gen epoch next : Int) (g : Geo.G) (v : Value) (base : Nat) (es : List BE) (h : OwnM w 104 6 BEC (fun _ => True) base v es) (hg : Geo.right g = true) (hM : MapOk g es) (hn : 1 ≤ next ∧ next ≤ 281474976710655) (zone : Int) :
    Calls Try.prog 31 #[.agg (RC gen epoch next g v), .int .i64 zone] w fun x w' => ∃ u, x = .returned u ∧ OwnM w' 65 49 FC (fun f => f.body.length = 44) w.heap.size u (Sn.frames gen epoch next g es zone (Sn.nParts g)) ∧ Below w.heap.size w w' := by
  obtain ⟨a, cap, rfl, hr, -⟩ := h.shape kinR
  have hs := ((Geo.right_iff g).1 hg).1
  have hrm : ∀ e ∈ es, Sn.Room e := fun e he => Sn.room_of_right hs (hM.ok e he).1
  have hl : (es.length : Int) = g.b := hM.len
  have hp := Sn.nParts_eq hs
  generalize Sn.nParts g = n at hp ⊢
  obtain ⟨dd, z, s, b, p, o⟩ := g
  obtain ⟨⟨s1, s2⟩, ⟨s3, s4⟩, ⟨s5, s6⟩, ⟨s7, s8⟩, ⟨s9, s10⟩, ⟨s11, s12⟩⟩ := hs
  simp only at s1 s2 s3 s4 s5 s6 s7 s8 s9 s10 s11 s12 hl hp
  obtain ⟨dd, rfl⟩ := Int.eq_ofNat_of_zero_le (show 0 ≤ dd by omega)
  obtain ⟨z, rfl⟩ := Int.eq_ofNat_of_zero_le (show 0 ≤ z by omega)
  obtain ⟨s, rfl⟩ := Int.eq_ofNat_of_zero_le (show 0 ≤ s by omega)
  obtain ⟨b, rfl⟩ := Int.eq_ofNat_of_zero_le (show 0 ≤ b by omega)
  obtain ⟨p, rfl⟩ := Int.eq_ofNat_of_zero_le (show 0 ≤ p by omega)
  obtain ⟨o, rfl⟩ := Int.eq_ofNat_of_zero_le (show 0 ≤ o by omega)
  obtain ⟨nx, rfl⟩ := Int.eq_ofNat_of_zero_le (show 0 ≤ next by omega)
  exact rsframes_core w gen epoch nx dd z s b p o a cap es hr hrm (by omega) (by omega) (by omega) (by omega) (by omega) (by omega) (by omega) (by omega) zone n (by omega)
end Go.Proofs.Ytjnneoejnpephaa
namespace Go.Proofs.Ytjnneoejnpephaa
open Go.RowKit Go.Rv Frm
set_option linter.unusedVariables false
attribute [local go_sem] Oper.semAt_some
theorem lits_rf (f : Fr) (hb : Body f.body) (hn : Num64 f) : Try.prog.keyLits 3 65 (FC f).toList = some (frLits f) := by
  obtain ⟨n0, n1, n2, n3, n4⟩ := hn
  have k1 : Try.prog.cellsOf 3 = 1 := by kernel_rfl
  have k44 : Try.prog.cellsOf 40 = 44 := by kernel_rfl
  have k49 : Try.prog.cellsOf 65 = 49 := by kernel_rfl
  have hlen : (FC f).toList.length = 49 := by rw [Array.length_toList, FC_size, hb.1]
  have c0 : ((FC f).toList.drop 0).take 1 = [.int .i64 f.kind] := by simp [FC]
  have c1 : ((FC f).toList.drop 1).take 1 = [.int .i64 f.zone] := by simp [FC]
  have c2 : ((FC f).toList.drop 2).take 1 = [.int .i64 f.off] := by simp [FC]
  have c3 : ((FC f).toList.drop 3).take 1 = [.int .i64 f.epoch] := by simp [FC]
  have c4 : ((FC f).toList.drop 4).take 1 = [.int .i64 f.seq] := by simp [FC]
  have c5 : ((FC f).toList.drop 5).take 44 = (byteCells f.body).toList := by
    simp [FC]
    rw [List.take_of_length_le (by rw [Array.length_toList, size_byteCells, hb.1]; omega)]
  have i : ∀ n : Int, (Lit.int .i64 n).wf = true → Try.prog.keyLits 2 3 [.int .i64 n] = some [.int .i64 n] := by
    intro n hn
    simp only [Program.keyLits, Try.underlying3, hn, and_self, if_true]
  have hB := lits_bytes Try.underlying40 Try.underlying5 (by kernel_rfl) k44 f.body hb.1 hb.2 0
  unfold Program.keyLits
  simp only [Try.underlying65, k49, hlen]
  rw [if_pos ⟨trivial, by decide +kernel⟩]
  simp only [List.mapM_cons, List.mapM_nil, k1, k44, c0, c1, c2, c3, c4, c5, i _ n0, i _ n1, i _ n2, i _ n3, i _ n4, hB]
  simp [frLits]
theorem eq_rf (f g : Fr) (hf : Body f.body) (hg : Body g.body) (nf : Num64 f) (ng : Num64 g) (b : Bool) (hb : b = true ↔ f = g) (w : World) :
    (Op.equalIn 10000 65 (.agg (FC f)) (.agg (FC g))).run Try.prog w = .ok b w := by
  have hF : ∀ f : Fr, Body f.body → (Value.agg (FC f)).formed Try.prog 65 = true := by
    intro l hl
    simp only [Value.formed, Try.underlying65, FC_size, hl.1]
    kernel_rfl
  exact eq_deep (by kernel_rfl) (hF f hf) (hF g hg) (lits_rf f hf nf) (lits_rf g hg ng) b (hb.trans ⟨fun h => by rw [h], frLits_inj⟩) w
theorem _root_.Go.Rv.RowOf.take {α : Type} {w : World} {n : Nat} {X : α → Array Value} {Q : α → Prop} {a : Option Addr} {xs : List α} (h : RowOf w n X Q a xs) (q : Nat) : RowOf w n X Q a (xs.take q) := by
  rcases h with h | ⟨b, o, e, hb, hc⟩
  · exact .inl (by simp [h])
  · refine .inr ⟨b, o, e, hb, fun k x hk => hc k x ?_⟩
    rw [List.getElem?_take] at hk
    split at hk
    · exact hk
    · cases hk
theorem sok_cases (s : Sn.S) (zone : Int) (hg : Geo.right s.g = true) : (s.right = false ∧ s.er zone = 10 ∧ s.fr zone = []) ∨ (s.right = true ∧ s.er zone = 10 ∧ s.fr zone = [] ∧ decide (zone < 0) = true) ∨ (s.right = true ∧ s.er zone = 10 ∧ s.fr zone = [] ∧ decide (zone < 0) = false ∧ decide (s.g.d * s.g.z ≤ zone) = true) ∨ (s.right = true ∧ s.er zone = 0 ∧ s.fr zone = s.frames zone ∧ s.ok zone = true ∧ decide (zone < 0) = false ∧ decide (s.g.d * s.g.z ≤ zone) = false) := by
  have hsm := ((Geo.right_iff _).1 hg).1
  have hs4 := hsm.2.2.1
  have hok : s.ok zone = (s.right && (decide (0 ≤ zone) && decide (zone < s.g.d * s.g.z))) := by
    unfold Sn.S.ok holdsG
    rw [hg, Bool.true_and]
    congr 1
    rw [Bool.eq_iff_iff]
    simp only [Bool.and_eq_true, Geo.inB_iff, decide_eq_true_eq]
    omega
  unfold Sn.S.er Sn.S.fr
  rw [hok]
  simp only [decide_eq_true_eq, decide_eq_false_iff_not]
  cases hr : s.right
  · left; simp
  · right
    by_cases h1 : zone < 0
    · left
      have : decide (0 ≤ zone) = false := decide_eq_false (by omega)
      simp [this, h1]
    · right
      have e1 : decide (0 ≤ zone) = true := decide_eq_true (by omega)
      by_cases h2 : zone < s.g.d * s.g.z
      · right
        have e2 : decide (zone < s.g.d * s.g.z) = true := decide_eq_true h2
        simp only [e1, e2, Bool.and_self, if_true, true_and]
        omega
      · left
        have e2 : decide (zone < s.g.d * s.g.z) = false := decide_eq_false h2
        simp only [e1, e2, Bool.and_false, Bool.false_eq_true, if_false, true_and]
        omega
set_option maxRecDepth 100000 in
set_option maxHeartbeats 32000000 in
theorem sn_frames_walk (w : World) (g : Geo.G) (a1 : Option Addr) (l1 : List (Int × BE)) (c1 : Nat) (gen epoch next zone cut : Int) (hI1 : RowOf w 7 opC Op64 a1 l1) :
    Calls Try.prog 8 #[.agg (GC g), .slice a1 l1.length c1, .int .i64 gen, .int .i64 epoch, .int .i64 next, .int .i64 zone, .int .i64 cut] w fun e w' => e = .returned (.bool true) ∧ Below w.heap.size w w' := by
  have HA := Lib.hid (fun W => sn_anchor W)
  have HGI := Lib.hid (gsize (g := g))
  have HMA : Hid (∀ W, Below w.heap.size w W → Calls Try.prog 16 #[.agg (GC g), .slice a1 l1.length c1, .int .i64 gen, .int .i64 epoch, .int .i64 next] W (MadePost W g l1 gen epoch next)) := Lib.hid (fun W hW => made12_any g a1 l1 c1 gen epoch next W (hI1.below hW))
  have HGRI := Lib.hid (fun (W : World) => gright_any g W)
  have HGC : Hid (∀ W : World, W.heap[w.heap.size]? = some (.cells (GC g) 23 (0, 0)) → W.cell? ⟨w.heap.size, 0, none⟩ = some (.int .i64 g.d) ∧ W.cell? ⟨w.heap.size, 1, none⟩ = some (.int .i64 g.z)) := Lib.hid (fun W h => ⟨(cell_of_row _ _ _ _ _ _ h).trans rfl, (cell_of_row _ _ _ _ _ _ h).trans rfl⟩)
  have hzs := (zero_of_info Try.infoSnz).1
  have hzr := (zero_of_info Try.infoRS).1
  have hzf := (zero_of_info Try.infoFrame).1
  have HIR : Hid ((Try.prog.info? 42).map (fun i => (i.zero, i.size, i.bytes)) = some (some (.agg (FC Fr.zero)), 49, 88)) := Lib.hid (by kernel_rfl)
  have hal := (Below.refl w.heap.size w).alloc (Nat.le_refl _) (.cells (GC g) 23)
  have hnew := heap_alloc_new w (.cells (GC g) 23)
  clear hI1
  obtain ⟨GX, hGX⟩ : ∃ GX, GC g = GX := ⟨_, rfl⟩
  rw [hGX] at HGI HMA HGRI HGC hal hnew ⊢
  clear hGX
  go_enter Try.func8, Try.ntmps8
  go_wp2_with fail
  refine (HA.out _).mono ?_
  rintro e w0 ⟨rfl, hB0⟩
  have HG0 := Lib.hid ((hB0.block w.heap.size (by simp)).trans hnew)
  have HB0 := Lib.hid (hal.trans (hB0.mono hal.size))
  have zw0 : w.heap.size < w0.heap.size := (Array.getElem?_eq_some_iff.1 HG0.out).1
  clear hal hnew hB0
  go_wp2_with (refine wpList_row_on (by rfl) 23 _ rfl w.heap.size rfl 23 _ _ _ HG0.out Try.underlying23 rfl HGI.out ?_)
  refine (HMA.out _ HB0.out).mono ?_
  rintro eaA waA ⟨SA, TA, okA, rfl, ⟨i1, i2, i3⟩, ⟨j1, j2, j3⟩, hBA, hcA⟩
  have HIA := Lib.hid i1
  have HOA := Lib.hid i2
  have HZA := Lib.hid i3
  have HJA := Lib.hid j1
  have HPA := Lib.hid j2
  have HYA := Lib.hid j3
  have HCA := Lib.hid hcA
  have zbA := hBA.size
  obtain ⟨VA, hVA⟩ : ∃ V, (waA.alloc (.cells SZ 28)).alloc (.cells RZ 32) = V := ⟨_, rfl⟩
  have hvA : VA.heap[waA.heap.size]? = some (.cells SZ 28 (0, 0)) := by rw [← hVA]; exact heap_alloc2_old _ _ _
  have huA : VA.heap[waA.heap.size + 1]? = some (.cells RZ 32 (0, 0)) := by rw [← hVA]; exact heap_alloc2_new _ _ _
  have hbA : Below waA.heap.size waA VA := by rw [← hVA]; exact ((Below.refl _ _).alloc (Nat.le_refl _) _).alloc (by simp) _
  obtain ⟨UA, hUA⟩ : ∃ U, VA.setRow waA.heap.size SA = U := ⟨_, rfl⟩
  have hsA : Only [waA.heap.size] VA UA := by rw [← hUA]; exact only_setRow _ _ _
  have hrA : UA.heap[waA.heap.size]? = some (.cells SA 28 (0, 0)) := by rw [← hUA]; exact setRow_heap _ _ _ _ _ _ hvA
  have hqA := hsA.get huA (by simp)
  obtain ⟨WA, hWA⟩ : ∃ W, UA.setRow (waA.heap.size + 1) TA = W := ⟨_, rfl⟩
  have htA : Only [waA.heap.size + 1] UA WA := by rw [← hWA]; exact only_setRow _ _ _
  have HQAwA := Lib.hid (htA.get hrA (by simp))
  have HTTA : Hid (WA.heap[waA.heap.size + 1]? = some (.cells TA 32 (0, 0))) := Lib.hid (by rw [← hWA]; exact setRow_heap _ _ _ _ _ _ hqA)
  have hxA : Below waA.heap.size waA WA := hbA.trans ((hsA.below (B := waA.heap.size) (by simp) hbA.size).trans (htA.below (B := waA.heap.size) (by simp) (by have := hsA.size; have := hbA.size; omega)))
  have hyA := hBA.trans (hxA.mono zbA)
  have HGA := Lib.hid ((hyA.block w.heap.size (by omega)).trans HG0.out)
  have HBA := Lib.hid (HB0.out.trans (hyA.mono HB0.out.size))
  have HXA := Lib.hid hxA
  have HYYA := Lib.hid hyA
  have HVA := Lib.hid hVA
  have HUA := Lib.hid hUA
  have HWA := Lib.hid hWA
  have HH1A := Lib.hid hvA
  have HH2A := Lib.hid hqA
  have zzA : waA.heap.size + 1 < WA.heap.size := (Array.getElem?_eq_some_iff.1 HTTA.out).1
  clear i1 i2 i3 j1 j2 j3 hBA hcA hVA hvA huA hbA hUA hsA hrA hqA hWA htA hxA hyA
  go_upto_region 4 with (first | (rw [show (waA.alloc (.cells SZ 28)).alloc (.cells RZ 32) = VA from HVA.out]; refine wpList_store_row rfl 28 _ _ rfl waA.heap.size SA rfl rfl 28 SZ HH1A.out HIA.out HZA.out HOA.out ?_; rw [HUA.out]) | (refine wpList_store_row rfl 32 _ _ rfl (waA.heap.size + 1) TA rfl rfl 32 RZ HH2A.out HJA.out HYA.out HPA.out ?_; rw [HWA.out]))
  have hca := HCA.out
  rcases hca with ⟨rfl, hno⟩ | ⟨rfl, hgr, hla, pa, lea, lla, va, hSA, hTA, hsa, hown, qa1, qa2, qa3⟩
  · have hno' : Geo.right g = false ∨ (Geo.right g = true ∧ decide ((60 : Int) < (l1.length : Int)) = true) := by
      cases h : Geo.right g
      · exact .inl rfl
      · rcases hno with h' | h'
        · rw [h] at h'; cases h'
        · exact .inr ⟨rfl, decide_eq_true (by omega)⟩
    obtain ⟨rg, hrg⟩ : ∃ rg, Geo.right g = rg := ⟨_, rfl⟩
    rw [hrg] at HGRI hno'
    clear hno hrg
    go_wp2_with (refine wpList_row_on (by rfl) 23 _ rfl w.heap.size rfl 23 _ _ _ HGA.out Try.underlying23 rfl HGI.out ?_)
    refine (HGRI.out _).mono ?_
    rintro e5 w5 ⟨rfl, hB5⟩
    have HB5 := Lib.hid (HBA.out.trans (hB5.mono HBA.out.size))
    clear hB5
    rcases hno' with rfl | ⟨rfl, t0⟩
    · go_wp2
      go_ret
      exact ⟨rfl, HB5.out⟩
    · go_wp2
      go_ret
      exact ⟨rfl, HB5.out⟩
  obtain ⟨sa, hsaE⟩ : ∃ sa, Sn.made g l1 gen epoch next = sa := ⟨_, rfl⟩
  have hag : sa.g = g ∧ sa.gen = gen ∧ sa.epoch = epoch ∧ sa.next = next := by rw [← hsaE]; exact ⟨rfl, rfl, rfl, rfl⟩
  rw [hsaE] at hSA hsa hown
  have hsm := ((Geo.right_iff _).1 hgr).1
  have hlen : sa.es.length ≤ 100000 := by have h3 := hsa.ok.len; have := ((Geo.right_iff _).1 hsa.hg).1.2.2.2.1.2; omega
  have HSA := Lib.hid (hsa.below HXA.out)
  have HRA : Hid (∀ W, SnIs W pa lea lla g.b.toNat (nz g) sa → Calls Try.prog 18 #[.agg SA] W fun e w' => e = .returned (.bool sa.right) ∧ Below W.heap.size W w') := Lib.hid (fun W h => by rw [hSA]; exact sright_any W pa lea lla _ _ sa.g sa.es _ h.bm hlen sa.gen sa.epoch sa.next)
  have HFA : Hid (∀ W, SnIs W pa lea lla g.b.toNat (nz g) sa → Calls Try.prog 17 #[.agg SA, .int .i64 zone] W (FramesPost W sa zone)) := Lib.hid (fun W h => by rw [hSA]; exact sframes_any W pa lea lla _ _ sa h zone)
  have HSM : Hid (∀ (W : World) (p' le' ll' ce' cl' : Nat), SnIs W pa lea lla g.b.toNat (nz g) sa → SnIs W p' le' ll' ce' cl' sa → Calls Try.prog 26 #[.agg (SC sa p'), .agg SA] W fun e w' => e = .returned (.bool true) ∧ Below W.heap.size W w') := Lib.hid (fun W p' le' ll' ce' cl' h h' => by rw [hSA]; have := ssame_any W p' le' ll' ce' cl' pa lea lla _ _ sa sa h' h; simpa using this)
  have HRR : Hid (∀ W, Below waA.heap.size waA W → Calls Try.prog 22 #[.agg TA] W fun e w' => e = .returned (.bool sa.right) ∧ Below W.heap.size W w') := Lib.hid (fun W hW => by
    rw [hTA]
    have := rsright_any W gen epoch next g va w0.heap.size sa.es (hown.below hW) hlen
    unfold Sn.S.right
    rw [hag.2.1, hag.2.2.1, hag.2.2.2]
    exact this)
  have HFF : Hid (sa.right = true → ∀ W, Below waA.heap.size waA W → Calls Try.prog 31 #[.agg TA, .int .i64 zone] W fun x w' => ∃ u, x = .returned u ∧ OwnM w' 65 49 FC (fun f => f.body.length = 44) W.heap.size u (sa.frames zone) ∧ Below W.heap.size W w') := Lib.hid (fun hr W hW => by
    rw [hTA]
    have hn := (Sn.nums_iff.1 (Sn.right_iff.1 (show Sn.right sa.gen sa.epoch sa.next sa.es = true from hr)).1).2.2
    rw [hag.2.2.2] at hn
    have := rsframes_any W gen epoch next g va w0.heap.size sa.es (hown.below hW) hgr (by have := hsa.ok; rwa [hag.1] at this) hn zone
    unfold Sn.S.frames
    rw [hag.1, hag.2.1, hag.2.2.1, hag.2.2.2]
    exact this)
  have HGR := Lib.hid hgr
  have HAG := Lib.hid hag.1
  have hdz : 0 ≤ g.d * g.z ∧ g.d * g.z ≤ 512 := by have := Geo.dz_bd hsm; omega
  have hcase := sok_cases sa zone hsa.hg
  rw [hag.1] at hcase
  have HCASE := Lib.hid hcase
  have HSAE := Lib.hid hSA
  clear hgr hla hSA hTA hsa hown hlen hsaE hag hsm hcase
  go_wp2_with (refine wpList_row_on (by rfl) 28 _ rfl waA.heap.size rfl 28 _ _ _ HQAwA.out Try.underlying28 rfl HIA.out ?_)
  refine (HFA.out _ HSA.out).mono ?_
  rintro e7 w7 ⟨v7, rfl, ho7, hB7⟩
  have z7 := hB7.size
  have HSA7 := Lib.hid (HSA.out.below hB7)
  have HTA7 := Lib.hid ((hB7.block waA.heap.size (by omega)).trans HQAwA.out)
  have HTR7 := Lib.hid ((hB7.block (waA.heap.size + 1) (by omega)).trans HTTA.out)
  have HG7 := Lib.hid ((hB7.block w.heap.size (by omega)).trans HGA.out)
  have HB7 := Lib.hid (HBA.out.trans (hB7.mono HBA.out.size))
  have HX7 := Lib.hid (HXA.out.trans (hB7.mono HXA.out.size))
  have HO7 := Lib.hid ho7
  have hcase := HCASE.out
  obtain ⟨r, hr⟩ : ∃ r, sa.right = r := ⟨_, rfl⟩
  obtain ⟨er, her⟩ : ∃ er, sa.er zone = er := ⟨_, rfl⟩
  obtain ⟨fr, hfr⟩ : ∃ fr, sa.fr zone = fr := ⟨_, rfl⟩
  rw [hr] at HRA HRR HFF hcase
  rw [hfr] at HO7 hcase
  rw [her] at hcase ⊢
  have HSR := Lib.hid hr
  clear ho7 hB7 hr her hfr
  go_upto_region 7 with (fail)
  refine wp_region_conf2 4 [Fact.eq (.agg SA), Fact.eq (.bool r), Fact.eq (.agg TA), Fact.eq (.bool r)] ?raA (by kernel_rfl) (by kernel_rfl) ?rahA ?raho ?rahend
  case rahA =>
    intro vv
    simp only [putRules, Nat.reduceAdd]
    rfl
  case raho =>
    refine ⟨?_, ?_, ?_, ?_, trivial⟩
    · intro vv W K hB hd HK
      simp only [confRules] at HK
      clear hd
      have hT := (hB.block waA.heap.size (by omega)).trans HTA7.out
      go_wp2_with (refine wpList_row_on (by rfl) 28 _ rfl waA.heap.size rfl 28 _ _ _ hT Try.underlying28 rfl HIA.out ?_)
      refine HK.out _ _ (Below.refl _ _) ?_
      rfl
    · intro vv W K hB hd HK
      simp only [confRules] at hd HK
      have h0 := hd
      clear hd
      simp only [h0] at HK ⊢
      clear h0
      have hT := HSA7.out.below hB
      go_wp2_with (refine (HRA.out _ hT).mono ?_; rintro e w9 ⟨rfl, hB9⟩)
      refine HK.out _ _ hB9 ?_
      rfl
    · intro vv W K hB hd HK
      simp only [confRules] at HK
      clear hd
      have hT := (hB.block (waA.heap.size + 1) (by omega)).trans HTR7.out
      go_wp2_with (refine wpList_row_on (by rfl) 32 _ rfl (waA.heap.size + 1) rfl 32 _ _ _ hT Try.underlying32 rfl HJA.out ?_)
      refine HK.out _ _ (Below.refl _ _) ?_
      rfl
    · intro vv W K hB hd HK
      simp only [confRules] at hd HK
      obtain ⟨h2, h1⟩ := hd
      simp only [h2, h1] at HK ⊢
      clear h2 h1
      have hT := HX7.out.trans (hB.mono HX7.out.size)
      go_wp2_with (refine (HRR.out _ hT).mono ?_; rintro e w9 ⟨rfl, hB9⟩)
      refine HK.out _ _ hB9 ?_
      rfl
  case rahend =>
    intro vv W hB hf
    have e1 := hf 1 (by decide)
    have e3 := hf 3 (by decide)
    simp only [endRules] at e1 e3
    simp only [e1, e3, dropRules]
    clear hf e1 e3
    have z8 := hB.size
    have HSA8 := Lib.hid (HSA7.out.below hB)
    have HTA8 := Lib.hid ((hB.block waA.heap.size (by omega)).trans HTA7.out)
    have HTR8 := Lib.hid ((hB.block (waA.heap.size + 1) (by omega)).trans HTR7.out)
    have HG8 := Lib.hid ((hB.block w.heap.size (by omega)).trans HG7.out)
    have HB8 := Lib.hid (HB7.out.trans (hB.mono HB7.out.size))
    have HX8 := Lib.hid (HX7.out.trans (hB.mono HX7.out.size))
    have HO8 := Lib.hid (HO7.out.below hB)
    have t1 : (r != r) = false := by simp
    clear hB
    obtain ⟨ad7, cp7, rfl, -, -, -, -, -⟩ := HO8.out.shape kinF
    rcases hcase with ⟨rfl, rfl, rfl⟩ | ⟨rfl, rfl, rfl, t2⟩ | ⟨rfl, rfl, rfl, t2, t3⟩ | ⟨rfl, rfl, rfl, hok, t2, t3⟩
    · go_wp2_with (refine wpList_row_on (by rfl) 32 _ rfl (waA.heap.size + 1) rfl 32 _ _ _ HTR8.out Try.underlying32 rfl HJA.out ?_)
      refine (HRR.out _ HX8.out).mono ?_
      rintro e9 w9 ⟨rfl, hB9⟩
      have HB9 := Lib.hid (HB8.out.trans (hB9.mono HB8.out.size))
      clear hB9
      go_wp2
      go_ret
      exact ⟨rfl, HB9.out⟩
    · go_wp2_with (refine wpList_row_on (by rfl) 32 _ rfl (waA.heap.size + 1) rfl 32 _ _ _ HTR8.out Try.underlying32 rfl HJA.out ?_)
      refine (HRR.out _ HX8.out).mono ?_
      rintro e9 w9 ⟨rfl, hB9⟩
      have HB9 := Lib.hid (HB8.out.trans (hB9.mono HB8.out.size))
      clear hB9
      go_wp2
      go_ret
      exact ⟨rfl, HB9.out⟩
    · go_wp2_with (refine wpList_row_on (by rfl) 32 _ rfl (waA.heap.size + 1) rfl 32 _ _ _ HTR8.out Try.underlying32 rfl HJA.out ?_)
      refine (HRR.out _ HX8.out).mono ?_
      rintro e9 w9 ⟨rfl, hB9⟩
      have HB9 := Lib.hid (HB8.out.trans (hB9.mono HB8.out.size))
      obtain ⟨c0, c1'⟩ := HGC.out _ ((hB9.block w.heap.size (by omega)).trans HG8.out)
      clear hB9
      go_wp2
      go_ret
      exact ⟨rfl, HB9.out⟩
    · have hga : Geo.right sa.g = true := by rw [HAG.out]; exact HGR.out
      have hlx := Sn.S.frames_length sa ((Geo.right_iff _).1 hga).1 zone
      rw [HAG.out] at hlx
      have hm64 := Sn.nParts_64 HGR.out
      have hm2 := (Sn.nParts_two ((Geo.right_iff _).1 HGR.out).1).1
      have HQX : Hid (∀ f ∈ sa.frames zone, FrQ f) := Lib.hid (fun f hf => ⟨(Sn.frames_right hga hok f hf).1, (Sn.frames_right hga hok f hf).2.1⟩)
      have HRD : Hid (∀ r, Sn.readS (sa.frames zone ++ r) = some sa) := Lib.hid (fun r => Sn.read_frames hga HSA.out.ok hok r)
      have HCUT : Hid (∀ k, k < Sn.nParts g → Sn.readS ((sa.frames zone).take k) = none) := Lib.hid (fun k hk => Sn.read_cut hga HSR.out (by rw [HAG.out]; exact hk))
      obtain ⟨fx, hfx⟩ : ∃ l, sa.frames zone = l := ⟨_, rfl⟩
      rw [hfx] at HO8 hlx HQX HRD HCUT HFF ⊢
      obtain ⟨m, hm⟩ : ∃ m, Sn.nParts g = m := ⟨_, rfl⟩
      rw [hm] at hlx hm64 hm2 HCUT
      have HLX := Lib.hid hlx
      obtain ⟨ax', cx', e8', hrx, hnx, hcx, hcmx, -⟩ := HO8.out.shape kinF
      cases e8'
      have HRX8 := Lib.hid hrx
      have HNX := Lib.hid hnx
      have HCX := Lib.hid hcx
      clear hga hok hfx hm hlx hrx hnx hcx
      go_wp2_with (refine wpList_row_on (by rfl) 32 _ rfl (waA.heap.size + 1) rfl 32 _ _ _ HTR8.out Try.underlying32 rfl HJA.out ?_)
      refine (HRR.out _ HX8.out).mono ?_
      rintro e9 w9 ⟨rfl, hB9⟩
      have z9 := hB9.size
      have HTR9 := Lib.hid ((hB9.block (waA.heap.size + 1) (by omega)).trans HTR8.out)
      have HTA9 := Lib.hid ((hB9.block waA.heap.size (by omega)).trans HTA8.out)
      have HSA9 := Lib.hid (HSA8.out.below hB9)
      have HX9 := Lib.hid (HX8.out.trans (hB9.mono HX8.out.size))
      have HB9 := Lib.hid (HB8.out.trans (hB9.mono HB8.out.size))
      have HRX9 := Lib.hid (HRX8.out.below hB9)
      obtain ⟨c0, c1'⟩ := HGC.out _ ((hB9.block w.heap.size (by omega)).trans HG8.out)
      clear hB9
      go_wp2_with (refine wpList_row_on (by rfl) 32 _ rfl (waA.heap.size + 1) rfl 32 _ _ _ HTR9.out Try.underlying32 rfl HJA.out ?_)
      refine (HFF.out (by first | rfl | trivial) _ HX9.out).mono ?_
      rintro e10 w10 ⟨v10, rfl, ho10, hB10⟩
      have z10 := hB10.size
      have HTA10 := Lib.hid ((hB10.block waA.heap.size (by omega)).trans HTA9.out)
      have HSA10 := Lib.hid (HSA9.out.below hB10)
      have HB10 := Lib.hid (HB9.out.trans (hB10.mono HB9.out.size))
      have HRX10 := Lib.hid (HRX9.out.below hB10)
      obtain ⟨ad10, cp10, rfl, hrw10, -, -, -, -⟩ := ho10.shape kinF
      have HRW10 := Lib.hid hrw10
      rw [HLX.out]
      clear c0 c1' t1 t2 t3 ho10 hB10 hrw10
      go_wp2
      go_loopw [99] (fun u wr => ∃ j : Nat, j ≤ m ∧ u = .int .i64 j ∧ Below w10.heap.size w10 wr) (fun u _ => m - (intOf u).toNat)
      case atStart => exact ⟨0, Nat.zero_le _, rfl, Below.refl _ _⟩
      case round =>
        obtain ⟨j, hj, rfl, hBr⟩ := hrel
        have zr := hBr.size
        have HBR := Lib.hid hBr
        clear hBr
        by_cases hjt : j < m
        · obtain ⟨x, hx⟩ : ∃ x, fx[j]? = some x := ⟨_, List.getElem?_eq_getElem (by rw [HLX.out]; exact hjt)⟩
          have hqx := HQX.out x (List.mem_of_getElem? hx)
          obtain ⟨bx, ox, rfl, -, -, -⟩ := HRX10.out.at hx
          obtain ⟨bY, oY, rfl, -, -, -⟩ := HRW10.out.at hx
          have hgx := (HRX10.out.below HBR.out).range hx (by rw [FC_size, hqx.1.1])
          have hgy : ∀ W', Below wr.heap.size wr W' → W'.rangeAt bY (oY + j * 49) (FC x).toList := fun W' hW => ((HRW10.out.below HBR.out).below hW).range hx (by rw [FC_size, hqx.1.1])
          have hix : (Try.prog.info? 42).map (·.size) = some (FC x).toList.length := by rw [FC_len hqx.1.1]; exact (zero_of_info Try.infoFrame).2
          have hi3 : (Try.prog.info? 65).map (·.size) = some (FC x).toList.length := by rw [FC_len hqx.1.1]; exact (zero_of_info Try.infoF3).2
          have hicx := size_frq hqx.1.1
          have hocx := FC_one x
          have hzcx : (FC Fr.zero).size = (FC x).size := by rw [FC_size, FC_size]; show 5 + 44 = 5 + x.body.length; rw [hqx.1.1]
          have HEQ := Lib.hid (fun W => eq_rf x x hqx.1 hqx.1 hqx.2 hqx.2 true (by simp) W)
          obtain ⟨XL, hXL⟩ : ∃ XL, (FC x).toList = XL := ⟨_, rfl⟩
          have hXC : FC x = XL.toArray := by rw [← hXL]
          rw [hXL] at hgx hgy hix hi3
          rw [hXC] at hicx HEQ hocx hzcx
          have HGX := Lib.hid hgx
          have HGY := Lib.hid hgy
          have HIXL := Lib.hid hix
          have HI3 := Lib.hid hi3
          have HICX := Lib.hid hicx
          have HOCX := Lib.hid hocx
          have HZCX := Lib.hid hzcx
          obtain ⟨W9, hW9⟩ : ∃ W9, wr.alloc (.cells XL.toArray 42) = W9 := ⟨_, rfl⟩
          have hb9 : Below wr.heap.size wr W9 := by rw [← hW9]; exact (Below.refl _ _).alloc (Nat.le_refl _) _
          have hF9 : W9.heap[wr.heap.size]? = some (.cells XL.toArray 42 (0, 0)) := by rw [← hW9]; exact heap_alloc_new wr _
          have zF9 : wr.heap.size < W9.heap.size := (Array.getElem?_eq_some_iff.1 hF9).1
          have HB9' := Lib.hid hb9
          have HF9 := Lib.hid hF9
          have HW9 := Lib.hid hW9
          have t0 : decide ((j : Int) < (m : Int)) = true := decide_eq_true (by omega)
          clear hx hqx hgx hgy hix hi3 hicx hocx hzcx hXL hXC hW9 hb9 hF9
          go_upto_region 17 with (first | (refine wpList_load_mid rfl 42 _ rfl bx (ox + j * 49) rfl XL _ HGX.out Try.underlying42 rfl HIXL.out ?_) | (refine wpList_store_row rfl 42 _ _ rfl wr.heap.size XL.toArray rfl rfl 42 (FC Fr.zero) (heap_alloc_new wr _) HICX.out HZCX.out HOCX.out ?_; rw [World.setRow_alloc_new]))
          rw [HW9.out]
          clear t0
          rw [put_none]
          refine wp_region_conf2 5 [Fact.eq (.agg XL.toArray), Fact.eq (.slice (some ⟨bY, oY, none⟩) m cp10), Fact.eq (.int .i64 (j : Nat)), Fact.eq (.pointer (some ⟨bY, oY + j * 49, none⟩)), Fact.eq (.agg XL.toArray)] ?rbA (by kernel_rfl) (by kernel_rfl) ?rbhA ?rbho ?rbhend
          case rbhA =>
            intro vv
            simp only [putRules, Nat.reduceAdd]
            rfl
          case rbho =>
            refine ⟨?_, ?_, ?_, ?_, ?_, trivial⟩
            · intro vv W K hB hd HK
              simp only [confRules] at HK
              clear hd
              have hT := (hB.block wr.heap.size zF9).trans HF9.out
              go_wp2_with (refine wpList_row_on (by rfl) 42 _ rfl wr.heap.size rfl 42 _ _ _ hT Try.underlying42 rfl HICX.out ?_)
              refine HK.out _ _ (Below.refl _ _) ?_
              rfl
            · intro vv W K hB hd HK
              simp only [confRules] at HK
              clear hd
              go_wp2
              refine HK.out _ _ (Below.refl _ _) ?_
              rfl
            · intro vv W K hB hd HK
              simp only [confRules] at HK
              clear hd
              go_wp2
              refine HK.out _ _ (Below.refl _ _) ?_
              rfl
            · intro vv W K hB hd HK
              simp only [confRules] at hd HK
              obtain ⟨h1, h2⟩ := hd
              simp only [h1, h2] at HK ⊢
              clear h1 h2
              go_wp2
              refine HK.out _ _ (Below.refl _ _) ?_
              rfl
            · intro vv W K hB hd HK
              simp only [confRules] at hd HK
              have h3 := hd
              clear hd
              simp only [h3] at HK ⊢
              clear h3
              have hT := HGY.out _ (HB9'.out.trans (hB.mono HB9'.out.size))
              go_wp2_with (refine wpList_load_mid rfl 65 _ rfl bY (oY + j * 49) rfl XL _ hT Try.underlying65 rfl HI3.out ?_)
              refine HK.out _ _ (Below.refl _ _) ?_
              rfl
          case rbhend =>
            intro vv W hB hf
            have e0 := hf 0 (by decide)
            have e4 := hf 4 (by decide)
            simp only [endRules] at e0 e4
            simp only [e0, e4, dropRules]
            clear hf e0 e4
            have HBW := Lib.hid (HB9'.out.trans (hB.mono HB9'.out.size))
            clear hB
            go_wp2_with (refine wpList_neq_on (by rfl) 65 65 _ _ rfl XL.toArray XL.toArray rfl rfl (by kernel_rfl) true HEQ.out ?_)
            go_roundw
            case rel => exact ⟨j + 1, by omega, by go_num, HBR.out.trans (HBW.out.mono HBR.out.size)⟩
            case measure => simp [intOf]; omega
        · obtain rfl : j = m := by omega
          have HTAr := Lib.hid ((HBR.out.block waA.heap.size (by omega)).trans HTA10.out)
          have HSAr := Lib.hid (HSA10.out.below HBR.out)
          have HBr := Lib.hid (HB10.out.trans (HBR.out.mono HB10.out.size))
          have HRXr := Lib.hid (HRX10.out.below HBR.out)
          have HRDW : Hid (Calls Try.prog 27 #[.slice ad7 j cp7] wr (ReadPost wr fx)) := Lib.hid (by
            have := sread_any wr ad7 fx cp7 (HRXr.out.imp HQX.out) (by rw [HLX.out]; omega) HCX.out hcmx
            rwa [HLX.out] at this)
          have HSI : Hid (∀ p, (Try.prog.info? 28).map (·.size) = some (SC sa p).size) := Lib.hid (fun p => snsize _ _ _ _)
          have HSO : Hid (∀ p, (SC sa p).all (·.oneCell') = true) := Lib.hid (fun p => by simp [SC, SnC, Value.oneCell'])
          have HSZ : Hid (∀ p, SZ.size = (SC sa p).size) := Lib.hid (fun p => rfl)
          go_wp2_with fail
          refine HRDW.out.mono ?_
          rintro e11 w11 ⟨hB11, ⟨s', p1, le1, ll1, ce1, cl1, hs', rfl, hsn, -, -, -⟩ | ⟨hs', -⟩⟩
          rotate_left
          · exfalso
            have := HRD.out []
            rw [List.append_nil, hs'] at this
            cases this
          obtain rfl : s' = sa := by
            have := HRD.out []
            rw [List.append_nil, hs'] at this
            exact Option.some.inj this
          have z11 := hB11.size
          obtain ⟨W12, hW12⟩ : ∃ W12, w11.alloc (.cells (SC s' p1) 28) = W12 := ⟨_, rfl⟩
          have hb12 : Below w11.heap.size w11 W12 := by rw [← hW12]; exact (Below.refl _ _).alloc (Nat.le_refl _) _
          have HT12 : Hid (W12.heap[w11.heap.size]? = some (.cells (SC s' p1) 28 (0, 0))) := Lib.hid (by rw [← hW12]; exact heap_alloc_new w11 _)
          have zT12 : w11.heap.size < W12.heap.size := (Array.getElem?_eq_some_iff.1 HT12.out).1
          have hb := hB11.trans (hb12.mono z11)
          have HSN12 := Lib.hid (hsn.below hb12)
          have HTA12 := Lib.hid ((hb.block waA.heap.size (by omega)).trans HTAr.out)
          have HSA12 := Lib.hid (HSAr.out.below hb)
          have HB12 := Lib.hid (HBr.out.trans (hb.mono HBr.out.size))
          have HRX12 := Lib.hid (HRXr.out.below hb)
          have HW12 := Lib.hid hW12
          obtain ⟨W13, hW13⟩ : ∃ W13, W12.alloc (.cells #[] 42) = W13 := ⟨_, rfl⟩
          have hb13 : Below W12.heap.size W12 W13 := by rw [← hW13]; exact (Below.refl _ _).alloc (Nat.le_refl _) _
          have hz13 : W13.heap[W12.heap.size]? = some (.cells #[] 42 (0, 0)) := by rw [← hW13]; exact heap_alloc_new W12 _
          have HF13 := Lib.hid (OwnM.fresh W13 42 49 FC (fun f => f.body.length = 44) (Nat.le_refl W12.heap.size) hz13)
          have HRX13 := Lib.hid (HRX12.out.below hb13)
          have HB13 := Lib.hid hb13
          have HW13 := Lib.hid hW13
          have z13 := hb13.size
          clear hs' hsn hB11 hW12 hb12 hb hW13 hb13 hz13
          obtain ⟨L2, hL2⟩ : ∃ l, l = fx ++ fx := ⟨_, rfl⟩
          obtain ⟨q2, hq2⟩ : ∃ q, L2.length = q := ⟨_, rfl⟩
          have HL2 := Lib.hid hL2
          have HQ2 := Lib.hid hq2
          have hq100 : L2.length ≤ 100000 := by rw [hL2, List.length_append, HLX.out]; omega
          have HRD2 : Hid (∀ a c W, RowOf W 49 FC (fun f => f.body.length = 44) a L2 → L2.length ≤ c → c ≤ 9223372036854775807 → Calls Try.prog 27 #[.slice a q2 c] W (ReadPost W L2)) := Lib.hid (fun a c W hR hc hm => by
            have := sread_any W a L2 c (hR.imp (fun f hf => HQX.out f (by rw [hL2] at hf; simpa using hf))) hq100 hc hm
            rwa [hq2] at this)
          clear hL2 hq2 hq100
          go_upto_region 21 with (refine wpList_store_row rfl 28 _ _ rfl w11.heap.size (SC s' p1) rfl rfl 28 SZ (heap_alloc_new w11 _) (HSI.out _) (HSZ.out _) (HSO.out _) ?_; rw [World.setRow_alloc_new])
          rw [HW12.out]
          go_wp2_with (at_builtin; rw [HW13.out]; refine wpList_appendM rfl (.tmp 117) (.tmp 118) 35 rfl 42 49 FC (fun f => f.body.length = 44) kinF (by decide) (.agg (FC Fr.zero)) 88 Try.underlying35 HIR.out rfl W12.heap.size (.slice (some ⟨W12.heap.size, 0, none⟩) 0 0) [] rfl HF13.out ad7 cp7 fx (by rw [HLX.out]; rfl) HRX13.out HNX.out (by have := HLX.out; unfold maxLen; simp; omega) (by have := HLX.out; simp; omega) z13 ?_; intro v14 w14 hv14 hg14 _; rw [List.nil_append] at hv14; have hb14 := HB13.out.trans (HF13.out.grown hg14 z13); have hr14 := HRX12.out.below hb14; have z14 := hb14.size; go_wp2_with (at_builtin; refine wpList_appendM rfl (.tmp 119) (.tmp 120) 35 rfl 42 49 FC (fun f => f.body.length = 44) kinF (by decide) (.agg (FC Fr.zero)) 88 Try.underlying35 HIR.out rfl W12.heap.size v14 fx rfl hv14 ad7 cp7 fx (by rw [HLX.out]; rfl) hr14 HNX.out (by unfold maxLen; rw [HLX.out]; omega) (by rw [HLX.out]; omega) z14 ?_; intro v15 w15 hv15 hg15 _; have hb15 := hb14.trans (hv14.grown hg15 z14); rw [← HL2.out] at hv15; obtain ⟨a15, c15, e15, hr15, hn15, hc15, hm15, -⟩ := hv15.shape kinF; rw [HQ2.out] at e15; subst e15))
          have HB15 := Lib.hid hb15
          clear hb14 hr14 hv14 hg14 hv15 hg15 hb15
          refine (HRD2.out a15 c15 _ hr15 hc15 hm15).mono ?_
          rintro e16 w16 ⟨hB16, ⟨s'', p2, le2, ll2, ce2, cl2, hs2, rfl, hsn2, -, -, -⟩ | ⟨hs2, -⟩⟩
          rotate_left
          · exfalso
            have := HRD.out fx
            rw [← HL2.out, hs2] at this
            cases this
          obtain rfl : s' = s'' := by
            have := HRD.out fx
            rw [← HL2.out, hs2] at this
            exact (Option.some.inj this).symm
          have z15 := HB15.out.size
          have z16 := hB16.size
          obtain ⟨W17, hW17⟩ : ∃ W17, w16.alloc (.cells (SC s' p2) 28) = W17 := ⟨_, rfl⟩
          have hb17 : Below w16.heap.size w16 W17 := by rw [← hW17]; exact (Below.refl _ _).alloc (Nat.le_refl _) _
          have HT17 : Hid (W17.heap[w16.heap.size]? = some (.cells (SC s' p2) 28 (0, 0))) := Lib.hid (by rw [← hW17]; exact heap_alloc_new w16 _)
          have zT17 : w16.heap.size < W17.heap.size := (Array.getElem?_eq_some_iff.1 HT17.out).1
          have hb := HB15.out.trans ((hB16.trans (hb17.mono z16)).mono z15)
          have HSY17 := Lib.hid (HSN12.out.below hb)
          have HSM17 := Lib.hid (hsn2.below hb17)
          have HTY17 := Lib.hid ((hb.block w11.heap.size zT12).trans HT12.out)
          have HTA17 := Lib.hid ((hb.block waA.heap.size (by omega)).trans HTA12.out)
          have HSA17 := Lib.hid (HSA12.out.below hb)
          have HRX17 := Lib.hid (HRX12.out.below hb)
          have HB17 := Lib.hid (HB12.out.trans (hb.mono HB12.out.size))
          have HW17 := Lib.hid hW17
          clear hs2 hsn2 hB16 hW17 hb17 hb hr15 hn15 hc15 hm15
          go_upto_region 22 with (refine wpList_store_row rfl 28 _ _ rfl w16.heap.size (SC s' p2) rfl rfl 28 SZ (heap_alloc_new w16 _) (HSI.out _) (HSZ.out _) (HSO.out _) ?_; rw [World.setRow_alloc_new])
          rw [HW17.out]
          go_wp2_with (first | (refine wpList_row_on (by rfl) 28 _ rfl w11.heap.size rfl 28 _ _ _ HTY17.out Try.underlying28 rfl (HSI.out _) ?_) | (refine wpList_row_on (by rfl) 28 _ rfl waA.heap.size rfl 28 _ _ _ HTA17.out Try.underlying28 rfl HIA.out ?_))
          refine (HSM.out _ _ _ _ _ _ HSA17.out HSY17.out).mono ?_
          rintro e18 w18 ⟨rfl, hB18⟩
          have HTA18 := Lib.hid ((hB18.block waA.heap.size (by omega)).trans HTA17.out)
          have HTM18 := Lib.hid ((hB18.block w16.heap.size zT17).trans HT17.out)
          have HSA18 := Lib.hid (HSA17.out.below hB18)
          have HSM18 := Lib.hid (HSM17.out.below hB18)
          have HRX18 := Lib.hid (HRX17.out.below hB18)
          have HB18 := Lib.hid (HB17.out.trans (hB18.mono HB17.out.size))
          clear hB18
          go_wp2_with (first | (refine wpList_row_on (by rfl) 28 _ rfl w16.heap.size rfl 28 _ _ _ HTM18.out Try.underlying28 rfl (HSI.out _) ?_) | (refine wpList_row_on (by rfl) 28 _ rfl waA.heap.size rfl 28 _ _ _ HTA18.out Try.underlying28 rfl HIA.out ?_))
          refine (HSM.out _ _ _ _ _ _ HSA18.out HSM18.out).mono ?_
          rintro e19 w19 ⟨rfl, hB19⟩
          have HRX19 := Lib.hid (HRX18.out.below hB19)
          have HB19 := Lib.hid (HB18.out.trans (hB19.mono HB18.out.size))
          clear hB19
          go_upto_region 25 with (fail)
          obtain ⟨q, hq⟩ : ∃ q : Nat, max (min cut ((j : Int) - 1)) 0 = (q : Int) := ⟨(max (min cut ((j : Int) - 1)) 0).toNat, by omega⟩
          have hqj : q < j := by omega
          rw [hq]
          have hjc : j ≤ cp7 := by rw [← HLX.out]; exact HCX.out
          have hqc : q ≤ cp7 := by omega
          obtain ⟨x0, hx0⟩ : ∃ x, fx[0]? = some x := ⟨_, List.getElem?_eq_getElem (by rw [HLX.out]; omega)⟩
          obtain ⟨bx, ox, rfl, -, -, -⟩ := HRX19.out.at hx0
          have HRD3 : Hid (Calls Try.prog 27 #[.slice (some ⟨bx, ox, none⟩) q cp7] w19 (ReadPost w19 (fx.take q))) := Lib.hid (by
            have hl : (fx.take q).length = q := by rw [List.length_take, HLX.out]; omega
            have := sread_any w19 (some ⟨bx, ox, none⟩) (fx.take q) cp7 ((HRX19.out.take q).imp (fun f hf => HQX.out f (List.mem_of_mem_take hf))) (by rw [hl]; omega) (by rw [hl]; exact hqc) hcmx
            rwa [hl] at this)
          have HSZI := Lib.hid (zero_of_info Try.infoSnz).2
          have HSZO : Hid (SZ.all (·.oneCell') = true) := Lib.hid (by simp [SZ, Value.oneCell'])
          have HQJ := Lib.hid hqj
          clear hq hx0 hqj hjc
          go_wp2_with fail
          refine HRD3.out.mono ?_
          rintro e20 w20 ⟨hB20, ⟨s3, p3, le3, ll3, ce3, cl3, hs3, -⟩ | ⟨-, rfl⟩⟩
          · exfalso
            rw [HCUT.out q HQJ.out] at hs3
            cases hs3
          have HB20 := Lib.hid (HB19.out.trans ((hB20.alloc hB20.size (.cells SZ 28)).mono HB19.out.size))
          clear hB20
          go_wp2_with (refine wpList_store_row rfl 28 _ _ rfl w20.heap.size SZ rfl rfl 28 SZ (heap_alloc_new w20 _) HSZI.out rfl HSZO.out ?_; rw [World.setRow_alloc_new])
          go_ret
          exact ⟨rfl, HB20.out⟩
end Go.Proofs.Ytjnneoejnpephaa
namespace Go.Proofs.Ytjnneoejnpephaa
open Go.RowKit Go.Rv
set_option linter.unusedVariables false
set_option maxRecDepth 100000 in
set_option maxHeartbeats 400000 in
theorem rread_any (a : Option Addr) (l : List Nat) (cap : Nat) (w : World) (hb : Bytes w a l) (hlen : l.length ≤ 7) :
    Calls Try.prog 67 #[.slice a l.length cap] w fun e w' => e = .returned (.int .i64 (Cod.rd l : Nat)) ∧ w = w' := by
  go_enter Try.func67, Try.ntmps67
  go_wp2
  go_loop [3, 4] (fun v i => ∃ k : Nat, k ≤ l.length ∧ i = .int .i64 ((k : Int) - 1) ∧ v = .int .i64 (Cod.rd (l.drop k) : Nat)) (fun _ i => (intOf i + 1).toNat)
  case atStart => exact ⟨l.length, by omega, rfl, by simp [Cod.rd]⟩
  case round =>
    obtain ⟨k, hk, rfl, rfl⟩ := hrel
    by_cases hlt : 0 < k
    · obtain ⟨j, rfl⟩ : ∃ j, k = j + 1 := ⟨k - 1, by omega⟩
      obtain ⟨b1, o1, c, rfl, hbl, hc, hc8, hlk⟩ := hb.at (show j < l.length by omega)
      have hs := Lib.hid (Cod.rd_drop l j c hlk)
      have hlt := Cod.rd_drop_lt l hb.1 (j + 1)
      have hpw := (Cod.pow_le (l.length - (j + 1)) (by omega)).1
      have hpw6 := Cod.pw_le6 (l.length - (j + 1)) (by omega)
      unfold Cod.pw at hpw6
      have hx : Cod.rd (l.drop (j + 1)) < 281474976710656 := Nat.lt_of_lt_of_le hlt hpw6
      clear hlt hpw hpw6 hlk
      generalize Cod.rd (l.drop (j + 1)) = x at *
      have e1 : ((j + 1 : Nat) : Int) - 1 = (j : Int) := by omega
      rw [e1]
      go_wp2
      go_round
      case rel => exact ⟨j, by omega, rfl, by rw [hs.out]; go_num⟩
      case measure => simp [intOf]
    · obtain rfl : k = 0 := by omega
      go_wp2
      go_ret
      exact ⟨by simp, rfl⟩
end Go.Proofs.Ytjnneoejnpephaa
namespace Go.Proofs.Ytjnneoejnpephaa
open Go.RowKit Go.Rv
set_option linter.unusedVariables false
theorem xorG2 (a : Nat) (ha : a < 2 ^ 32) : bits .xor .u32 ((a : Int) / 2) 2197175160 = (((a / 2) ^^^ Crc.G : Nat) : Int) := xorG a ha
theorem xor_rc (r c : Nat) (hr : r < 2 ^ 32) (hc : c < 256) : bits .xor .u32 (r : Int) (c : Int) = ((r ^^^ c : Nat) : Int) :=
  u32_xor_nat r c (by simpa using hr) (by omega)
set_option maxRecDepth 100000 in
set_option maxHeartbeats 400000 in
theorem rstep_any (r c : Nat) (hr : r < 2 ^ 32) (hc : c < 256) (w : World) :
    Calls Try.prog 109 #[.int .u32 r, .int .u8 c] w fun e w' => e = .returned (.int .u32 (Crc.step r c : Nat)) ∧ w = w' := by
  have ex := xor_rc r c hr hc
  have hq : r ^^^ c < 2 ^ 32 := Nat.xor_lt_two_pow hr (by omega)
  have hst : Crc.step r c = Crc.hn 8 (r ^^^ c) := rfl
  rw [hst]
  clear hst
  generalize r ^^^ c = q at *
  go_enter Try.func109, Try.ntmps109
  go_wp2
  go_loop [0, 5] (fun t i => ∃ m : Nat, m ≤ 8 ∧ i = .int .i64 m ∧ t = .int .u32 (Crc.hn m q : Nat)) (fun _ i => 8 - (intOf i).toNat)
  case atStart => exact ⟨0, by omega, rfl, rfl⟩
  case round =>
    obtain ⟨m, hm, rfl, rfl⟩ := hrel
    have hl := Crc.hn_lt m hq
    by_cases hm8 : m < 8
    · have hs : Hid (Crc.hn (m + 1) q = if Crc.hn m q % 2 = 1 then (Crc.hn m q / 2) ^^^ Crc.G else Crc.hn m q / 2) := by
        show Crc.hn (m + 1) q = _
        rw [Crc.hn_add]; rfl
      by_cases h1 : Crc.hn m q % 2 = 1
      · have e2 := xorG _ hl
        have e1 : (((Crc.hn m q : Nat) : Int) % 2 == 1) = true := by simp; omega
        have h1' := Lib.hid h1
        clear h1
        go_wp2
        go_round
        case rel => exact ⟨m + 1, by omega, by go_num, by rw [hs.out, if_pos h1'.out]⟩
        case measure => simp [intOf]; omega
      · have e1 : (((Crc.hn m q : Nat) : Int) % 2 == 1) = false := by simp; omega
        go_wp2
        go_round
        case rel => exact ⟨m + 1, by omega, by go_num, by rw [hs.out, if_neg h1]; rfl⟩
        case measure => simp [intOf]; omega
    · obtain rfl : m = 8 := by omega
      go_wp2
      go_ret
      exact ⟨rfl, rfl⟩
set_option maxRecDepth 100000 in
set_option maxHeartbeats 400000 in
theorem rover_any (r : Nat) (a : Option Addr) (l : List Nat) (cap : Nat) (hr : r < 2 ^ 32) (w : World) (hb : Bytes w a l) (hlen : l.length ≤ 9223372036854775807) :
    Calls Try.prog 88 #[.int .u32 r, .slice a l.length cap] w fun e w' => e = .returned (.int .u32 (Crc.over r l : Nat)) ∧ w = w' := by
  go_enter Try.func88, Try.ntmps88
  go_wp2
  go_loop [0, 5] (fun q i => ∃ k : Nat, k ≤ l.length ∧ i = .int .i64 k ∧ q = .int .u32 (Crc.over r (l.take k) : Nat)) (fun _ i => l.length - (intOf i).toNat)
  case atStart => exact ⟨0, by omega, rfl, rfl⟩
  case round =>
    obtain ⟨k, hk, rfl, rfl⟩ := hrel
    by_cases hlt : k < l.length
    · obtain ⟨b, o, c, rfl, hbl, hc, hc8, hlk⟩ := hb.at hlt
      have hs := Lib.hid (over_take_succ r l k c hlk)
      have hl32 := over_take_lt hr hb.1 k
      clear hlk
      generalize Crc.over r (l.take k) = q at *
      go_wp2_with (first | (go_at_call 109; refine (rstep_any _ _ hl32 hc8 _).mono ?_; rintro e w1 ⟨rfl, rfl⟩))
      go_round
      case rel => exact ⟨k + 1, by omega, by go_num, by rw [hs.out]⟩
      case measure => simp [intOf]; omega
    · obtain rfl : k = l.length := by omega
      go_wp2
      go_ret
      exact ⟨by first | rfl | (rw [List.take_length]; rfl), rfl⟩
theorem sub_ones_i (x : Nat) (hx : x < 2 ^ 32) : (4294967295 : Int) - (x : Int) = ((x ^^^ Crc.ones : Nat) : Int) := by
  rw [← Crc.sub_ones hx]
  unfold Crc.ones
  omega
set_option maxRecDepth 100000 in
set_option maxHeartbeats 400000 in
theorem rsum_any (a : Option Addr) (l : List Nat) (cap : Nat) (w : World) (hb : Bytes w a l) (hlen : l.length ≤ 9223372036854775807) :
    Calls Try.prog 68 #[.slice a l.length cap] w fun e w' => e = .returned (.int .u32 (Crc.sum l : Nat)) ∧ w = w' := by
  have ho : Crc.over Crc.ones l < 2 ^ 32 := Crc.over_lt Crc.ones_lt hb.1
  have hx := sub_ones_i (Crc.over Crc.ones l) ho
  have hs : Crc.sum l = Crc.over Crc.ones l ^^^ Crc.ones := rfl
  rw [← hs] at hx
  have HX := Lib.hid hx
  clear hs hx
  have hc := fun w0 h0 => rover_any 4294967295 a l cap (by omega) w0 h0 hlen
  rw [show Crc.over 4294967295 l = Crc.over Crc.ones l from rfl] at hc
  generalize Crc.over Crc.ones l = q at *
  have HC := Lib.hid hc
  clear hc
  go_enter Try.func68, Try.ntmps68
  go_wp2_with (go_at_call 88; refine (HC.out _ hb).mono ?_; rintro e w1 ⟨rfl, rfl⟩)
  go_ret
  refine ⟨?_, rfl⟩
  rw [← HX.out]
  rfl
end Go.Proofs.Ytjnneoejnpephaa
namespace Go.Proofs.Ytjnneoejnpephaa
open Go.RowKit Go.Rv Frm
set_option linter.unusedVariables false
set_option maxRecDepth 100000 in
set_option maxHeartbeats 4000000 in
theorem rfright_at (k z o e s : Int) (C : Array Value) (d : Bool) (hd : d = decide (1 ≤ k ∧ k ≤ 5 ∧ 0 ≤ z ∧ z ≤ 65535 ∧ 0 ≤ o ∧ o ≤ 65535 ∧ 1 ≤ e ∧ e ≤ 4294967295 ∧ 0 ≤ s ∧ s ≤ 281474976710655)) (w : World)
    (c0 : (w.alloc (.cells C 65)).cell? ⟨w.heap.size, 0, none⟩ = some (.int .i64 k)) (c1 : (w.alloc (.cells C 65)).cell? ⟨w.heap.size, 1, none⟩ = some (.int .i64 z)) (c2 : (w.alloc (.cells C 65)).cell? ⟨w.heap.size, 2, none⟩ = some (.int .i64 o)) (c3 : (w.alloc (.cells C 65)).cell? ⟨w.heap.size, 3, none⟩ = some (.int .i64 e)) (c4 : (w.alloc (.cells C 65)).cell? ⟨w.heap.size, 4, none⟩ = some (.int .i64 s)) :
    Calls Try.prog 69 #[.agg C] w fun e w' => e = .returned (.bool d) ∧ Below w.heap.size w w' := by
  have hB : Below w.heap.size w (w.alloc (.cells C 65)) := (Below.refl _ _).alloc (Nat.le_refl _) _
  by_cases h0 : 1 ≤ k
  case neg =>
    have HD : Hid (d = false) := by rw [hd]; exact decide_eq_false (by rintro ⟨a0, a1, a2, a3, a4, a5, a6, a7, a8, a9⟩; exact h0 a0)
    have t0 : decide (1 ≤ k) = false := decide_eq_false h0
    clear hd h0
    go_enter Try.func69, Try.ntmps69
    go_wp2
    go_ret
    exact ⟨by rw [HD.out]; rfl, hB⟩
  by_cases h1 : k ≤ 5
  case neg =>
    have HD : Hid (d = false) := by rw [hd]; exact decide_eq_false (by rintro ⟨a0, a1, a2, a3, a4, a5, a6, a7, a8, a9⟩; exact h1 a1)
    have t0 : decide (1 ≤ k) = true := decide_eq_true h0
    have t1 : decide (k ≤ 5) = false := decide_eq_false h1
    clear hd h0 h1
    go_enter Try.func69, Try.ntmps69
    go_wp2
    go_ret
    exact ⟨by rw [HD.out]; rfl, hB⟩
  by_cases h2 : 0 ≤ z
  case neg =>
    have HD : Hid (d = false) := by rw [hd]; exact decide_eq_false (by rintro ⟨a0, a1, a2, a3, a4, a5, a6, a7, a8, a9⟩; exact h2 a2)
    have t0 : decide (1 ≤ k) = true := decide_eq_true h0
    have t1 : decide (k ≤ 5) = true := decide_eq_true h1
    have t2 : decide (0 ≤ z) = false := decide_eq_false h2
    clear hd h0 h1 h2
    go_enter Try.func69, Try.ntmps69
    go_wp2
    go_ret
    exact ⟨by rw [HD.out]; rfl, hB⟩
  by_cases h3 : z ≤ 65535
  case neg =>
    have HD : Hid (d = false) := by rw [hd]; exact decide_eq_false (by rintro ⟨a0, a1, a2, a3, a4, a5, a6, a7, a8, a9⟩; exact h3 a3)
    have t0 : decide (1 ≤ k) = true := decide_eq_true h0
    have t1 : decide (k ≤ 5) = true := decide_eq_true h1
    have t2 : decide (0 ≤ z) = true := decide_eq_true h2
    have t3 : decide (z ≤ 65535) = false := decide_eq_false h3
    clear hd h0 h1 h2 h3
    go_enter Try.func69, Try.ntmps69
    go_wp2
    go_ret
    exact ⟨by rw [HD.out]; rfl, hB⟩
  by_cases h4 : 0 ≤ o
  case neg =>
    have HD : Hid (d = false) := by rw [hd]; exact decide_eq_false (by rintro ⟨a0, a1, a2, a3, a4, a5, a6, a7, a8, a9⟩; exact h4 a4)
    have t0 : decide (1 ≤ k) = true := decide_eq_true h0
    have t1 : decide (k ≤ 5) = true := decide_eq_true h1
    have t2 : decide (0 ≤ z) = true := decide_eq_true h2
    have t3 : decide (z ≤ 65535) = true := decide_eq_true h3
    have t4 : decide (0 ≤ o) = false := decide_eq_false h4
    clear hd h0 h1 h2 h3 h4
    go_enter Try.func69, Try.ntmps69
    go_wp2
    go_ret
    exact ⟨by rw [HD.out]; rfl, hB⟩
  by_cases h5 : o ≤ 65535
  case neg =>
    have HD : Hid (d = false) := by rw [hd]; exact decide_eq_false (by rintro ⟨a0, a1, a2, a3, a4, a5, a6, a7, a8, a9⟩; exact h5 a5)
    have t0 : decide (1 ≤ k) = true := decide_eq_true h0
    have t1 : decide (k ≤ 5) = true := decide_eq_true h1
    have t2 : decide (0 ≤ z) = true := decide_eq_true h2
    have t3 : decide (z ≤ 65535) = true := decide_eq_true h3
    have t4 : decide (0 ≤ o) = true := decide_eq_true h4
    have t5 : decide (o ≤ 65535) = false := decide_eq_false h5
    clear hd h0 h1 h2 h3 h4 h5
    go_enter Try.func69, Try.ntmps69
    go_wp2
    go_ret
    exact ⟨by rw [HD.out]; rfl, hB⟩
  by_cases h6 : 1 ≤ e
  case neg =>
    have HD : Hid (d = false) := by rw [hd]; exact decide_eq_false (by rintro ⟨a0, a1, a2, a3, a4, a5, a6, a7, a8, a9⟩; exact h6 a6)
    have t0 : decide (1 ≤ k) = true := decide_eq_true h0
    have t1 : decide (k ≤ 5) = true := decide_eq_true h1
    have t2 : decide (0 ≤ z) = true := decide_eq_true h2
    have t3 : decide (z ≤ 65535) = true := decide_eq_true h3
    have t4 : decide (0 ≤ o) = true := decide_eq_true h4
    have t5 : decide (o ≤ 65535) = true := decide_eq_true h5
    have t6 : decide (1 ≤ e) = false := decide_eq_false h6
    clear hd h0 h1 h2 h3 h4 h5 h6
    go_enter Try.func69, Try.ntmps69
    go_wp2
    go_ret
    exact ⟨by rw [HD.out]; rfl, hB⟩
  by_cases h7 : e ≤ 4294967295
  case neg =>
    have HD : Hid (d = false) := by rw [hd]; exact decide_eq_false (by rintro ⟨a0, a1, a2, a3, a4, a5, a6, a7, a8, a9⟩; exact h7 a7)
    have t0 : decide (1 ≤ k) = true := decide_eq_true h0
    have t1 : decide (k ≤ 5) = true := decide_eq_true h1
    have t2 : decide (0 ≤ z) = true := decide_eq_true h2
    have t3 : decide (z ≤ 65535) = true := decide_eq_true h3
    have t4 : decide (0 ≤ o) = true := decide_eq_true h4
    have t5 : decide (o ≤ 65535) = true := decide_eq_true h5
    have t6 : decide (1 ≤ e) = true := decide_eq_true h6
    have t7 : decide (e ≤ 4294967295) = false := decide_eq_false h7
    clear hd h0 h1 h2 h3 h4 h5 h6 h7
    go_enter Try.func69, Try.ntmps69
    go_wp2
    go_ret
    exact ⟨by rw [HD.out]; rfl, hB⟩
  by_cases h8 : 0 ≤ s
  case neg =>
    have HD : Hid (d = false) := by rw [hd]; exact decide_eq_false (by rintro ⟨a0, a1, a2, a3, a4, a5, a6, a7, a8, a9⟩; exact h8 a8)
    have t0 : decide (1 ≤ k) = true := decide_eq_true h0
    have t1 : decide (k ≤ 5) = true := decide_eq_true h1
    have t2 : decide (0 ≤ z) = true := decide_eq_true h2
    have t3 : decide (z ≤ 65535) = true := decide_eq_true h3
    have t4 : decide (0 ≤ o) = true := decide_eq_true h4
    have t5 : decide (o ≤ 65535) = true := decide_eq_true h5
    have t6 : decide (1 ≤ e) = true := decide_eq_true h6
    have t7 : decide (e ≤ 4294967295) = true := decide_eq_true h7
    have t8 : decide (0 ≤ s) = false := decide_eq_false h8
    clear hd h0 h1 h2 h3 h4 h5 h6 h7 h8
    go_enter Try.func69, Try.ntmps69
    go_wp2
    go_ret
    exact ⟨by rw [HD.out]; rfl, hB⟩
  by_cases h9 : s ≤ 281474976710655
  case neg =>
    have HD : Hid (d = false) := by rw [hd]; exact decide_eq_false (by rintro ⟨a0, a1, a2, a3, a4, a5, a6, a7, a8, a9⟩; exact h9 a9)
    have t0 : decide (1 ≤ k) = true := decide_eq_true h0
    have t1 : decide (k ≤ 5) = true := decide_eq_true h1
    have t2 : decide (0 ≤ z) = true := decide_eq_true h2
    have t3 : decide (z ≤ 65535) = true := decide_eq_true h3
    have t4 : decide (0 ≤ o) = true := decide_eq_true h4
    have t5 : decide (o ≤ 65535) = true := decide_eq_true h5
    have t6 : decide (1 ≤ e) = true := decide_eq_true h6
    have t7 : decide (e ≤ 4294967295) = true := decide_eq_true h7
    have t8 : decide (0 ≤ s) = true := decide_eq_true h8
    have t9 : decide (s ≤ 281474976710655) = false := decide_eq_false h9
    clear hd h0 h1 h2 h3 h4 h5 h6 h7 h8 h9
    go_enter Try.func69, Try.ntmps69
    go_wp2
    go_ret
    exact ⟨by rw [HD.out]; rfl, hB⟩
  have HD : Hid (d = true) := by rw [hd]; exact decide_eq_true ⟨h0, h1, h2, h3, h4, h5, h6, h7, h8, h9⟩
  have t0 : decide (1 ≤ k) = true := decide_eq_true h0
  have t1 : decide (k ≤ 5) = true := decide_eq_true h1
  have t2 : decide (0 ≤ z) = true := decide_eq_true h2
  have t3 : decide (z ≤ 65535) = true := decide_eq_true h3
  have t4 : decide (0 ≤ o) = true := decide_eq_true h4
  have t5 : decide (o ≤ 65535) = true := decide_eq_true h5
  have t6 : decide (1 ≤ e) = true := decide_eq_true h6
  have t7 : decide (e ≤ 4294967295) = true := decide_eq_true h7
  have t8 : decide (0 ≤ s) = true := decide_eq_true h8
  have t9 : decide (s ≤ 281474976710655) = true := decide_eq_true h9
  clear hd h0 h1 h2 h3 h4 h5 h6 h7 h8 h9
  go_enter Try.func69, Try.ntmps69
  go_wp2
  go_ret
  exact ⟨by rw [HD.out]; rfl, hB⟩
theorem rfright_any (f : Fr) (w : World) :
    Calls Try.prog 69 #[.agg (FC f)] w fun e w' => e = .returned (.bool (rightF f)) ∧ Below w.heap.size w w' := by
  obtain ⟨c0, c1, c2, c3, c4⟩ := frame_cells (heap_alloc_new w (.cells (FC f) 65))
  exact rfright_at f.kind f.zone f.off f.epoch f.seq (FC f) (rightF f) rfl w c0 c1 c2 c3 c4
end Go.Proofs.Ytjnneoejnpephaa
namespace Go.Proofs.Ytjnneoejnpephaa
open Go.RowKit Go.Rv Frm
set_option linter.unusedVariables false
theorem Try.infoRf : (Try.prog.info? 65).map (fun i => (i.zero, i.size)) = some (some (.agg (FC Fr.zero)), 49) := by kernel_rfl
theorem size_rf {f : Fr} (h : f.body.length = 44) : (Try.prog.info? 65).map (·.size) = some (FC f).size := by rw [FC_size, h]; exact (zero_of_info Try.infoRf).2
theorem le4_leN (y : Nat) : Crc.le4 y = Cod.leN 4 y := by
  simp [Crc.le4, Cod.leN, Nat.div_div_eq_div_mul]
theorem sum_same (s : List Nat) (hl : s.length = 64) (hs : ∀ c ∈ s, c < 256) (y : Nat) (hy : y < 2 ^ 32) : Cod.rd (s.drop 60) = y ↔ s.drop 60 = Crc.le4 y := by
  have hd : (s.drop 60).length = 4 := by rw [List.length_drop, hl]
  have h1 := Cod.leN_rd (s.drop 60) (fun c hc => hs c (List.mem_of_mem_drop hc))
  rw [hd] at h1
  constructor
  · intro h
    rw [h] at h1
    rw [le4_leN]
    exact h1.symm
  · intro h
    rw [h, le4_leN]
    exact Cod.rd_leN 4 y (by omega)
def Fact.rowRf (B : Nat) (C : Array Value) (t : TypeId) : Fact := ⟨fun u w => ∃ g, u = .pointer (some ⟨g, 0, none⟩) ∧ B ≤ g ∧ w.heap[g]? = some (.cells C t (0, 0)), fun u w w' ⟨g, e, hb, h⟩ hB => ⟨g, e, hb, (hB.block g (Array.getElem?_eq_some_iff.1 h).1).trans h⟩⟩
theorem built_rf (k z o e s : Int) : Try.prog.built 65 [(0, .int .i64 k), (1, .int .i64 z), (2, .int .i64 o), (3, .int .i64 e), (4, .int .i64 s)] = some (FC ⟨k, z, o, e, s, List.replicate 44 0⟩) := by kernel_rfl
/-- the body, k bytes of it filled -/
def partB (l : List Nat) (k : Nat) : List Nat := l.take k ++ List.replicate (44 - k) 0
theorem partB_length (l : List Nat) (k : Nat) (hl : l.length = 44) (h : k ≤ 44) : (partB l k).length = 44 := by simp [partB, hl]; omega
theorem partB_set (l : List Nat) (k : Nat) (hl : l.length = 44) (h : k < 44) : (partB l k).set k (l.getD k 0) = partB l (k + 1) := by
  unfold partB
  rw [List.set_append_right _ _ (by simp [hl]; omega), List.length_take, hl, show k - min k 44 = 0 by omega, show 44 - k = (44 - (k + 1)) + 1 by omega, List.replicate_succ, List.set_cons_zero, List.take_succ_eq_append_getElem (show k < l.length by omega), List.append_assoc, List.getD_eq_getElem?_getD, List.getElem?_eq_getElem (show k < l.length by omega)]
  rfl
theorem partB_all (l : List Nat) (hl : l.length = 44) : partB l 44 = l := by simp [partB, List.take_of_length_le (show l.length ≤ 44 by omega)]
theorem FC_set_body (f : Fr) (k c : Nat) : (FC f).setIfInBounds (5 + k) (.int .u8 (c : Nat)) = FC { f with body := f.body.set k c } := by
  apply Array.toList_inj.1
  simp only [FC, Array.toList_setIfInBounds, Array.toList_append]
  rw [List.set_append_right _ _ (by simp)]
  simp [byteCells, List.map_set]
set_option maxRecDepth 100000 in
set_option maxHeartbeats 4000000 in
theorem rfread_core (s : List Nat) (w : World) (hl : s.length = 64) (hs : ∀ c ∈ s, c < 256) :
    Calls Try.prog 39 #[.agg (byteCells s)] w (FrmPost (decF s) w) := by
  have hz := (zero_of_info Try.infoRf).1
  have HIZ := Lib.hid (size_rf (f := Fr.zero) (by simp [Fr.zero]))
  have hone := FC_one Fr.zero
  have hB0 := ((Below.refl w.heap.size w).alloc (Nat.le_refl _) (.cells (byteCells s) 76)).alloc (by simp) (.cells (FC Fr.zero) 65)
  have hA0 : ((w.alloc (.cells (byteCells s) 76)).alloc (.cells (FC Fr.zero) 65)).heap[w.heap.size]? = some (.cells (byteCells s) 76) := (((Below.refl (w.alloc (.cells (byteCells s) 76)).heap.size (w.alloc (.cells (byteCells s) 76))).alloc (Nat.le_refl _) (.cells (FC Fr.zero) 65)).block _ (by simp)).trans (heap_alloc_new w _)
  have hC0 : ((w.alloc (.cells (byteCells s) 76)).alloc (.cells (FC Fr.zero) 65)).heap[w.heap.size + 1]? = some (.cells (FC Fr.zero) 65) := by have := heap_alloc_new (w.alloc (.cells (byteCells s) 76)) (.cells (FC Fr.zero) 65); rwa [World.size_alloc] at this
  have hb := byteCells_row hA0 hs
  have hb60 := hb.drop 60
  rw [Nat.zero_add] at hb60
  have hbt := hb.take 60
  have hl60 : (s.drop 60).length = 4 := by rw [List.length_drop, hl]
  have hlt : (s.take 60).length = 60 := by rw [List.length_take, hl]; rfl
  obtain ⟨x, hx⟩ : ∃ x, Cod.rd (s.drop 60) = x := ⟨_, rfl⟩
  obtain ⟨y, hy⟩ : ∃ y, Crc.sum (s.take 60) = y := ⟨_, rfl⟩
  have H60 := Lib.hid (fun (W : World) h => (rread_any (some ⟨w.heap.size, 60, none⟩) (s.drop 60) 4 W h (by omega)).mono (fun e w' h => (show e = .returned (.int .i64 (Cod.rd (s.drop 60) : Nat)) ∧ w' = W from ⟨h.1, h.2.symm⟩)))
  have HT := Lib.hid (fun (W : World) h => (rsum_any (some ⟨w.heap.size, 0, none⟩) (s.take 60) 64 W h (by omega)).mono (fun e w' h => (show e = .returned (.int .u32 (Crc.sum (s.take 60) : Nat)) ∧ w' = W from ⟨h.1, h.2.symm⟩)))
  rw [hl60, hx] at H60
  rw [hlt, hy] at HT
  have HB := Lib.hid hb
  have HB60 := Lib.hid hb60
  have HBT := Lib.hid hbt
  have HX := Lib.hid hx
  have HY := Lib.hid hy
  clear hx hy hb60 hbt hb
  obtain ⟨ZF, hZF⟩ : ∃ Z, FC Fr.zero = Z := ⟨_, rfl⟩
  have HZF := Lib.hid hZF
  rw [hZF] at hz HIZ hone hB0 hA0 hC0 HB HB60 HBT
  clear hZF
  go_enter Try.func39, Try.ntmps39
  go_wp2_with fail
  go_quiet (first | (go_at_call 67; exact Calls.quiet_of_same (H60.out _ (HB60.out.below (below_drewN (Below.refl _ _) _)))) | (go_at_call 68; exact Calls.quiet_of_same (HT.out _ (HBT.out.below (below_drewN (Below.refl _ _) _)))))
  have hy32 : y < 2 ^ 32 := by rw [← HY.out]; exact Crc.sum_lt (fun c hc => hs c (List.mem_of_mem_take hc))
  have hwy : wrap64 (y : Int) = (y : Int) := by unfold wrap64; omega
  have HS := Lib.hid hs
  have HZ := Lib.hid hz
  by_cases hxy : x = y
  · have t1 : ((x : Int) != (y : Int)) = false := by rw [hxy]; simp
    have HD : Hid (decF s = if verF (s.take 60) = 1 ∧ rightF (parseF (s.take 60)) = true then (parseF (s.take 60), 0) else (Fr.zero, 10)) := Lib.hid (by
      unfold decF
      rw [if_pos ((sum_same s hl hs y hy32).1 (by rw [HX.out]; exact hxy) |>.trans (by rw [HY.out]))])
    have HL := Lib.hid hl
    have hA1 : ((((w.alloc (.cells (byteCells s) 76)).alloc (.cells ZF 65))).drewN nq).heap[w.heap.size]? = some (.cells (byteCells s) 76) := hA0
    have hC1 : ((((w.alloc (.cells (byteCells s) 76)).alloc (.cells ZF 65))).drewN nq).heap[w.heap.size + 1]? = some (.cells ZF 65) := hC0
    have hB1 : Below w.heap.size w ((((w.alloc (.cells (byteCells s) 76)).alloc (.cells ZF 65))).drewN nq) := below_drewN hB0 _
    have zz : ((((w.alloc (.cells (byteCells s) 76)).alloc (.cells ZF 65))).drewN nq).heap.size = w.heap.size + 1 + 1 := by simp
    go_wp2_with fail
    rw [show ((x : Int) != wrap64 (y : Int)) = false by rw [hwy]; exact t1]
    obtain ⟨W0, hW0⟩ : ∃ W0, ((((w.alloc (.cells (byteCells s) 76)).alloc (.cells ZF 65))).drewN nq) = W0 := ⟨_, rfl⟩
    rw [hW0] at hA1 hC1 hB1 zz ⊢
    have HA1 := Lib.hid hA1
    have HC1 := Lib.hid hC1
    have HB1 := Lib.hid hB1
    have n0 : w.heap.size < W0.heap.size := by omega
    have n1 : w.heap.size + 1 < W0.heap.size := by omega
    have HZZ := Lib.hid zz
    clear hW0 t1 hxy hs hl hA0 hC0 hB0 hA1 hC1 hB1 zz hy32 hwy H60 HT HB60 HBT HB hl60 hlt
    have HBW := Lib.hid (fun (W : World) (h : W.heap[w.heap.size]? = some (.cells (byteCells s) 76 (0, 0))) => byteCells_row h HS.out)
    have hrd := fun (a b : Nat) (h : b ≤ 7) (hab : a + b ≤ 64) (cap : Nat) (W : World) (hb : Bytes W (some ⟨w.heap.size, 0, none⟩) s) => (show Calls Try.prog 67 #[.slice (some ⟨w.heap.size, a, none⟩) b cap] W fun e w' => e = .returned (.int .i64 (Cod.rd ((s.drop a).take b) : Nat)) ∧ W = w' by
      have hb2 := (hb.drop a).take b
      rw [Nat.zero_add] at hb2
      have hlen : ((s.drop a).take b).length = b := by rw [List.length_take, List.length_drop, HL.out]; omega
      have := rread_any (some ⟨w.heap.size, a, none⟩) ((s.drop a).take b) cap W hb2 (by omega)
      rwa [hlen] at this)
    have HRD := Lib.hid hrd
    clear hrd
    obtain ⟨k0, hk0⟩ : ∃ k0, s.getD 0 0 = k0 := ⟨_, rfl⟩
    have HK0 := Lib.hid hk0
    have HC0 := Lib.hid (fun (W : World) (j : Nat) (h : W.heap[w.heap.size]? = some (.cells (byteCells s) 76 (0, 0))) (hj : j < 64) => (show W.cell? ⟨w.heap.size, j, none⟩ = some (.int .u8 (s.getD j 0 : Nat)) from (cell_of_row _ _ _ _ _ _ h).trans (byteCells_at s j (by rw [HL.out]; exact hj))))
    obtain ⟨BS, hBS⟩ : ∃ BS, byteCells s = BS := ⟨_, rfl⟩
    rw [hBS] at HA1 HBW HC0
    clear hk0 hBS
    have hk256 : k0 < 256 := by
      rw [← HK0.out, List.getD_eq_getElem?_getD, List.getElem?_eq_getElem (by rw [HL.out]; omega)]
      exact HS.out _ (List.getElem_mem _)
    obtain ⟨f0, hf0⟩ : ∃ f0 : Fr, f0 = ⟨(k0 : Nat), (Cod.rd ((s.drop 2).take 2) : Nat), (Cod.rd ((s.drop 4).take 2) : Nat), (Cod.rd ((s.drop 6).take 4) : Nat), (Cod.rd ((s.drop 10).take 6) : Nat), List.replicate 44 0⟩ := ⟨_, rfl⟩
    have hbu := built_rf (k0 : Nat) (Cod.rd ((s.drop 2).take 2) : Nat) (Cod.rd ((s.drop 4).take 2) : Nat) (Cod.rd ((s.drop 6).take 4) : Nat) (Cod.rd ((s.drop 10).take 6) : Nat)
    rw [← hf0] at hbu
    have hfl0 : f0.body.length = 44 := by rw [hf0]; simp
    have HFL0 := Lib.hid hfl0
    have HIX0 := Lib.hid (size_rf hfl0)
    have H1X0 := Lib.hid (FC_one f0)
    have HZX0 : Hid (ZF.size = (FC f0).size) := Lib.hid (by have h1 := HIZ.out; rw [HIX0.out] at h1; simpa using h1.symm)
    have HF0 := Lib.hid hf0
    obtain ⟨X0, hX0⟩ : ∃ X0, FC f0 = X0 := ⟨_, rfl⟩
    rw [hX0] at hbu HIX0 H1X0 HZX0
    have HX0 := Lib.hid hX0
    have HBU := Lib.hid hbu
    have HZB : Hid (W0.heap.size ≤ W0.heap.size) := Lib.hid (Nat.le_refl _)
    clear hf0 hbu hfl0 hX0
    refine wp_region_conf2 17 [Fact.eq ?rax0, Fact.eq ?rax1, Fact.eq ?rax2, Fact.eq ?rax3, Fact.eq ?rax4, Fact.eq ?rax5, Fact.eq ?rax6, Fact.eq ?rax7, Fact.eq ?rax8, Fact.eq ?rax9, Fact.eq ?rax10, Fact.eq ?rax11, Fact.eq ?rax12, Fact.eq ?rax13, Fact.eq ?rax14, Fact.eq (.agg X0), Fact.rowRf W0.heap.size ZF 65] ?raA (by kernel_rfl) (by kernel_rfl) ?rahA ?raho ?rahend
    case rahA =>
      intro vv
      simp only [putRules, Nat.reduceAdd]
      rfl
    case raho =>
      refine ⟨?_, ?_, ?_, ?_, ?_, ?_, ?_, ?_, ?_, ?_, ?_, ?_, ?_, ?_, ?_, ?_, ?_, trivial⟩
      · intro vv W K hB hd HK
        simp only [confRules] at HK
        clear hd
        go_wp2
        refine HK.out _ _ (Below.refl _ _) ?_
        rfl
      · intro vv W K hB hd HK
        simp only [confRules] at hd HK
        have h0 := hd
        clear hd
        simp only [h0] at HK ⊢
        clear h0
        have hT := HC0.out W 0 ((hB.block w.heap.size n0).trans HA1.out) (by omega)
        rw [HK0.out] at hT
        go_wp2
        refine HK.out _ _ (Below.refl _ _) ?_
        rfl
      · intro vv W K hB hd HK
        simp only [confRules] at hd HK
        have h1 := hd
        clear hd
        simp only [h1] at HK ⊢
        clear h1
        go_wp2
        refine HK.out _ _ (Below.refl _ _) ?_
        rfl
      · intro vv W K hB hd HK
        simp only [confRules] at HK
        clear hd
        go_wp2
        refine HK.out _ _ (Below.refl _ _) ?_
        rfl
      · intro vv W K hB hd HK
        simp only [confRules] at hd HK
        have h3 := hd
        clear hd
        simp only [h3] at HK ⊢
        clear h3
        go_wp2
        refine HK.out _ _ (Below.refl _ _) ?_
        rfl
      · intro vv W K hB hd HK
        simp only [confRules] at hd HK
        have h4 := hd
        clear hd
        simp only [h4] at HK ⊢
        clear h4
        have hT := HBW.out W ((hB.block w.heap.size n0).trans HA1.out)
        go_wp2_with (refine (HRD.out 2 2 (by omega) (by omega) _ _ hT).mono ?_; rintro e w9 ⟨rfl, rfl⟩)
        refine HK.out _ _ (Below.refl _ _) ?_
        rfl
      · intro vv W K hB hd HK
        simp only [confRules] at HK
        clear hd
        go_wp2
        refine HK.out _ _ (Below.refl _ _) ?_
        rfl
      · intro vv W K hB hd HK
        simp only [confRules] at hd HK
        have h6 := hd
        clear hd
        simp only [h6] at HK ⊢
        clear h6
        go_wp2
        refine HK.out _ _ (Below.refl _ _) ?_
        rfl
      · intro vv W K hB hd HK
        simp only [confRules] at hd HK
        obtain ⟨h7, h5⟩ := hd
        simp only [h7, h5] at HK ⊢
        clear h7 h5
        have hT := HBW.out W ((hB.block w.heap.size n0).trans HA1.out)
        go_wp2_with (refine (HRD.out 4 2 (by omega) (by omega) _ _ hT).mono ?_; rintro e w9 ⟨rfl, rfl⟩)
        refine HK.out _ _ (Below.refl _ _) ?_
        rfl
      · intro vv W K hB hd HK
        simp only [confRules] at HK
        clear hd
        go_wp2
        refine HK.out _ _ (Below.refl _ _) ?_
        rfl
      · intro vv W K hB hd HK
        simp only [confRules] at hd HK
        have h9 := hd
        clear hd
        simp only [h9] at HK ⊢
        clear h9
        go_wp2
        refine HK.out _ _ (Below.refl _ _) ?_
        rfl
      · intro vv W K hB hd HK
        simp only [confRules] at hd HK
        obtain ⟨h10, h8⟩ := hd
        simp only [h10, h8] at HK ⊢
        clear h10 h8
        have hT := HBW.out W ((hB.block w.heap.size n0).trans HA1.out)
        go_wp2_with (refine (HRD.out 6 4 (by omega) (by omega) _ _ hT).mono ?_; rintro e w9 ⟨rfl, rfl⟩)
        refine HK.out _ _ (Below.refl _ _) ?_
        rfl
      · intro vv W K hB hd HK
        simp only [confRules] at HK
        clear hd
        go_wp2
        refine HK.out _ _ (Below.refl _ _) ?_
        rfl
      · intro vv W K hB hd HK
        simp only [confRules] at hd HK
        have h12 := hd
        clear hd
        simp only [h12] at HK ⊢
        clear h12
        go_wp2
        refine HK.out _ _ (Below.refl _ _) ?_
        rfl
      · intro vv W K hB hd HK
        simp only [confRules] at hd HK
        obtain ⟨h13, h11⟩ := hd
        simp only [h13, h11] at HK ⊢
        clear h13 h11
        have hT := HBW.out W ((hB.block w.heap.size n0).trans HA1.out)
        go_wp2_with (refine (HRD.out 10 6 (by omega) (by omega) _ _ hT).mono ?_; rintro e w9 ⟨rfl, rfl⟩)
        refine HK.out _ _ (Below.refl _ _) ?_
        rfl
      · intro vv W K hB hd HK
        simp only [confRules] at hd HK
        obtain ⟨h2, h5, h8, h11, h14⟩ := hd
        simp only [h2, h5, h8, h11, h14] at HK ⊢
        clear h2 h5 h8 h11 h14
        go_wp2_with (refine wpList_build_on (by rfl) 65 _ rfl #[(0, .int .i64 (k0 : Nat)), (1, .int .i64 (Cod.rd ((s.drop 2).take 2) : Nat)), (2, .int .i64 (Cod.rd ((s.drop 4).take 2) : Nat)), (3, .int .i64 (Cod.rd ((s.drop 6).take 4) : Nat)), (4, .int .i64 (Cod.rd ((s.drop 10).take 6) : Nat))] (by simp [Act.eval]) X0 HBU.out ?_)
        refine HK.out _ _ (Below.refl _ _) ?_
        rfl
      · intro vv W K hB hd HK
        simp only [confRules] at HK
        clear hd
        go_wp2
        refine HK.out _ _ ((Below.refl _ _).alloc (Nat.le_refl _) _) ?_
        exact ⟨_, rfl, Nat.le_trans HZB.out hB.size, heap_alloc_new _ _⟩
    case rahend =>
      intro vv W hB hf
      have e15 := hf 15 (by decide)
      obtain ⟨g16, e16, l16, r16⟩ := hf 16 (by decide)
      simp only [endRules] at e15
      simp only [e15, e16, dropRules]
      clear hf e15 e16
      obtain ⟨g, hgg⟩ : ∃ g, g = g16 := ⟨_, rfl⟩
      subst hgg
      have rg := r16
      have lg := l16
      clear r16 l16
      go_wp2_with (refine wpList_store_row rfl 65 _ _ rfl g X0 rfl rfl 65 ZF rg HIX0.out HZX0.out H1X0.out ?_)
      have hgN : w.heap.size + 1 < g := by omega
      have hbs := below_setRow (Below.refl g W) (Nat.le_refl _) X0
      have rg3 := setRow_heap W g ZF X0 _ _ rg
      have hA3 := (hbs.block w.heap.size (by omega)).trans ((hB.block w.heap.size n0).trans HA1.out)
      have hC3 := (hbs.block (w.heap.size + 1) hgN).trans ((hB.block (w.heap.size + 1) n1).trans HC1.out)
      have hB3 := below_setRow (HB1.out.trans (hB.mono HB1.out.size)) (show w.heap.size ≤ g by omega) X0
      obtain ⟨W3, hW3⟩ : ∃ W3, W.setRow g X0 = W3 := ⟨_, rfl⟩
      rw [hW3] at rg3 hA3 hC3 hB3 ⊢
      have hz3 : g < W3.heap.size := (Array.getElem?_eq_some_iff.1 rg3).1
      obtain ⟨l, hl⟩ : ∃ l, (s.drop 16).take 44 = l := ⟨_, rfl⟩
      have hll : l.length = 44 := by rw [← hl, List.length_take, List.length_drop, HL.out]; rfl
      have hlg : ∀ k, k < 44 → l.getD k 0 = s.getD (16 + k) 0 := by
        intro k hk
        rw [← hl, List.getD_eq_getElem?_getD, List.getD_eq_getElem?_getD, List.getElem?_take, if_pos hk, List.getElem?_drop]
      have hP0 : ({ f0 with body := partB l 0 } : Fr) = f0 := by
        have : partB l 0 = f0.body := by rw [HF0.out]; simp [partB]
        rw [this]
      have HLL := Lib.hid hll
      have HLG := Lib.hid hlg
      have HP0 := Lib.hid hP0
      have HLS := Lib.hid hl
      have HR3 := Lib.hid rg3
      have HA3 := Lib.hid hA3
      have HC3 := Lib.hid hC3
      have HBB3 := Lib.hid hB3
      clear hl hll hlg hP0 hbs hW3 hA3 hC3 rg3 rg hB3 hB
      go_wp2
      go_loopw [6] (fun i wr => ∃ k : Nat, k ≤ 44 ∧ i = .int .i64 k ∧ wr.heap[g]? = some (.cells (FC { f0 with body := partB l k }) 65 (0, 0)) ∧ Only [g] W3 wr) (fun i _ => 44 - (intOf i).toNat)
      case atStart => exact ⟨0, by omega, rfl, by rw [HP0.out, HX0.out]; exact HR3.out, Only.refl _ _⟩
      case round =>
        obtain ⟨k, hk, rfl, hg, hO⟩ := hrel
        have hA := (hO.block w.heap.size (by omega) (by simp; omega)).trans HA3.out
        by_cases hlt : k < 44
        · have hpl := partB_length l k HLL.out hk
          have hc := HC0.out wr (16 + k) hA (by omega)
          rw [← HLG.out k hlt] at hc
          have hc2 : wr.cell? ⟨g, 5 + k, none⟩ = some (.int .u8 ((partB l k).getD k 0 : Nat)) := (cell_of_row _ _ _ _ _ _ hg).trans (FC_body _ k (by show k < (partB l k).length; omega))
          have hf2 : wr.frozen? ⟨g, 5 + k, none⟩ = false := frozen_of_row _ _ _ _ _ hg
          have H := Lib.hid (show (wr.setCell ⟨g, 5 + k, none⟩ (.int .u8 (l.getD k 0 : Nat))).heap[g]? = some (.cells (FC { f0 with body := partB l (k + 1) }) 65 (0, 0)) by
            rw [heap_setCell_same _ _ _ _ _ _ hg, FC_set_body]
            show some (Obj.cells (FC { f0 with body := (partB l k).set k (l.getD k 0) }) 65) = _
            rw [partB_set l k HLL.out hlt])
          obtain ⟨c, hcc⟩ : ∃ c, l.getD k 0 = c := ⟨_, rfl⟩
          obtain ⟨c', hcc'⟩ : ∃ c, (partB l k).getD k 0 = c := ⟨_, rfl⟩
          rw [hcc] at hc H
          rw [hcc'] at hc2
          clear hg hpl hcc hcc'
          go_wp2
          go_roundw
          case rel => exact ⟨k + 1, by omega, by go_num, H.out, hO.setCell (.inl (by simp)) _⟩
          case measure => simp [intOf]; omega
        · obtain rfl : k = 44 := by omega
          rw [partB_all l HLL.out] at hg
          have hC := (hO.block (w.heap.size + 1) (by omega) (by simp; omega)).trans HC3.out
          have hBr := HBB3.out.trans (hO.below (B := w.heap.size) (by simp; omega) (by omega))
          have hzr : g < wr.heap.size := (Array.getElem?_eq_some_iff.1 hg).1
          obtain ⟨f1, hf1⟩ : ∃ f1 : Fr, ({ f0 with body := l } : Fr) = f1 := ⟨_, rfl⟩
          rw [hf1] at hg
          have hfl1 : f1.body.length = 44 := by rw [← hf1]; exact HLL.out
          have hrdt : ∀ a b, a + b ≤ 60 → ((s.take 60).drop a).take b = (s.drop a).take b := by
            intro a b h
            rw [List.drop_take, List.take_take, Nat.min_eq_left (by omega)]
          have hrd1 : ∀ j, j < 60 → Cod.rd (((s.take 60).drop j).take 1) = s.getD j 0 := by
            intro j h
            have hjl : j < s.length := by rw [HL.out]; omega
            have h1 : (s.drop j).take 1 = [s[j]] := by rw [List.drop_eq_getElem_cons hjl]; rfl
            rw [hrdt j 1 (by omega), h1, List.getD_eq_getElem?_getD, List.getElem?_eq_getElem hjl]
            show s[j] + 256 * 0 = s[j]
            omega
          have hpar : parseF (s.take 60) = f1 := by
            rw [← hf1, HF0.out]
            unfold parseF
            rw [hrdt 2 2 (by omega), hrdt 4 2 (by omega), hrdt 6 4 (by omega), hrdt 10 6 (by omega), hrdt 16 44 (by omega), HLS.out]
            have h0 := hrd1 0 (by omega)
            rw [List.drop_zero, HK0.out] at h0
            rw [h0]
          have hver : verF (s.take 60) = s.getD 1 0 := hrd1 1 (by omega)
          obtain ⟨v1, hv1⟩ : ∃ v, s.getD 1 0 = v := ⟨_, rfl⟩
          have hc1 := HC0.out wr 1 hA (by omega)
          rw [hv1] at hc1
          have HDD : Hid (decF s = if v1 = 1 ∧ rightF f1 = true then (f1, 0) else (Fr.zero, 10)) := Lib.hid (by rw [HD.out, hpar, hver, hv1])
          have HRI := Lib.hid (fun W => rfright_any f1 W)
          have HI1 := Lib.hid (size_rf hfl1)
          have H11 := Lib.hid (FC_one f1)
          have HZ1 : Hid (ZF.size = (FC f1).size) := Lib.hid (by have h1 := HIZ.out; rw [HI1.out] at h1; simpa using h1.symm)
          have HG := Lib.hid hg
          have HBZ' : Try.prog.built 65 [] = some (FC Fr.zero) := by kernel_rfl
          rw [HZF.out] at HBZ'
          have HBZ := Lib.hid HBZ'
          generalize rightF f1 = rf at *
          obtain ⟨X1, hX1⟩ : ∃ X, FC f1 = X := ⟨_, rfl⟩
          rw [hX1] at HG HRI HI1 H11 HZ1
          have HX1 := Lib.hid hX1
          clear hg hpar hver hv1 hrd1 hrdt hf1 hfl1 HBZ' hX1
          by_cases hv : v1 = 1
          · subst hv
            go_wp2_with (refine wpList_load_row_asked (by rfl) 65 _ rfl g rfl 65 _ _ _ HG.out Try.underlying65 rfl HI1.out ?_)
            refine (HRI.out _).mono ?_
            rintro e4 w4 ⟨rfl, hB4⟩
            have hC4 := (hB4.block (w.heap.size + 1) (by omega)).trans hC
            have hG4 := (hB4.block g hzr).trans HG.out
            have hBr4 := hBr.trans (hB4.mono hBr.size)
            cases rf
            · go_upto_region 10 with (fail)
              go_wp2_with (first | (refine wpList_build_on (by rfl) 65 _ rfl #[] (by rfl) ZF HBZ.out ?_) | (refine wpList_store_row rfl 65 _ _ rfl (w.heap.size + 1) ZF rfl rfl 65 ZF hC4 HIZ.out rfl hone ?_))
              refine bodyPost_ret (results_row_tmp rfl _ _ (w.heap.size + 1) 65 ZF _ _ rfl (setRow_heap _ _ _ _ _ _ hC4) Try.underlying65 rfl HIZ.out) rfl ?_
              exact ⟨by rw [HDD.out, ← HZF.out]; rfl, below_setRow hBr4 (by omega) _⟩
            · go_wp2_with (first | (refine wpList_load_row rfl 65 _ rfl g rfl 65 _ _ _ hG4 Try.underlying65 rfl HI1.out ?_) | (refine wpList_store_row rfl 65 _ _ rfl (w.heap.size + 1) X1 rfl rfl 65 ZF hC4 HI1.out HZ1.out H11.out ?_))
              refine bodyPost_ret (results_row_tmp rfl _ _ (w.heap.size + 1) 65 X1 _ _ rfl (setRow_heap _ _ _ _ _ _ hC4) Try.underlying65 rfl HI1.out) rfl ?_
              exact ⟨by rw [HDD.out, ← HX1.out]; rfl, below_setRow hBr4 (by omega) _⟩
          · have hvb : (((v1 : Nat) : Int) != 1) = true := by rw [bne_iff_ne]; omega
            go_upto_region 10 with (fail)
            go_wp2_with (first | (refine wpList_build_on (by rfl) 65 _ rfl #[] (by rfl) ZF HBZ.out ?_) | (refine wpList_store_row rfl 65 _ _ rfl (w.heap.size + 1) ZF rfl rfl 65 ZF hC HIZ.out rfl hone ?_))
            refine bodyPost_ret (results_row_tmp rfl _ _ (w.heap.size + 1) 65 ZF _ _ rfl (setRow_heap _ _ _ _ _ _ hC) Try.underlying65 rfl HIZ.out) rfl ?_
            exact ⟨by rw [HDD.out, if_neg (fun h => hv h.1), ← HZF.out]; rfl, below_setRow hBr (by omega) _⟩
  · have hd : decF s = (Fr.zero, 11) := by
      unfold decF
      rw [if_neg (fun h => hxy (by have h2 := (sum_same s hl hs y hy32).2 (by rw [← HY.out]; exact h); rw [← HX.out]; exact h2))]
    have t1 : ((x : Int) != (y : Int)) = true := by rw [bne_iff_ne]; omega
    have HD2 := Lib.hid hd
    clear hxy hd hs hl
    have hC1 : ((((w.alloc (.cells (byteCells s) 76)).alloc (.cells ZF 65))).drewN nq).heap[w.heap.size + 1]? = some (.cells ZF 65) := hC0
    go_wp2_with (refine wpList_store_row rfl 65 _ _ rfl (w.heap.size + 1) ZF rfl rfl 65 ZF hC1 HIZ.out rfl hone ?_)
    refine bodyPost_ret (results_row_tmp rfl _ _ (w.heap.size + 1) 65 ZF _ _ rfl (setRow_heap _ _ _ _ _ _ hC1) Try.underlying65 rfl HIZ.out) rfl ?_
    exact ⟨by rw [HD2.out, HZF.out]; rfl, below_setRow (below_drewN hB0 _) (by omega) _⟩
end Go.Proofs.Ytjnneoejnpephaa
namespace Go.Proofs.Ytjnneoejnpephaa
open Go.RowKit Go.Rv Frm
set_option linter.unusedVariables false
theorem results_rowX {P : Program} {fn : Func} {p : Tmp} {ty : TypeId} (h : fn.results = #[.cell p ty]) (tmps : Array Value) (w : World) (g : Nat) (t : TypeId) (cs : Array Value) (fr : Nat × Nat) (d : TypeDesc)
    (hp : tmps.getD p undef = .pointer (some ⟨g, 0, none⟩)) (hg : w.heap[g]? = some (.cells cs t fr))
    (hu : P.underlying ty = some d) (hd : (match d with | .struct _ | .array _ _ => true | _ => false) = true) (hi : (P.info? ty).map (·.size) = some cs.size) :
    (results fn tmps).run P w = .ok (.agg cs) w := by
  have hp' : tmps[p]?.getD undef = .pointer (some ⟨g, 0, none⟩) := by simpa using hp
  simp [results, h, hp', asAddr, run_loadVar_row w g t ty cs fr d hg hu hd hi]
/-- the first j bytes are there -/
def copied (l : List Nat) (j : Nat) : List Nat := l.take j ++ List.replicate (64 - j) 0
theorem copied_length {l : List Nat} (hl : l.length = 64) {j : Nat} (h : j ≤ 64) : (copied l j).length = 64 := by simp [copied, hl]; omega
theorem copied_set {l : List Nat} (hl : l.length = 64) {j : Nat} (h : j < 64) : (copied l j).set j (l.getD j 0) = copied l (j + 1) := by
  unfold copied
  have e : (l.take j).length = j := by simp [hl]; omega
  have hlt : j < l.length := by omega
  rw [List.set_append_right _ _ (by omega), e, Nat.sub_self, show 64 - j = (64 - (j + 1)) + 1 by omega, List.replicate_succ, List.set_cons_zero, List.take_add_one, List.getD_eq_getElem?_getD, List.getElem?_eq_getElem hlt, List.append_assoc]
  rfl
theorem copied_all {l : List Nat} (hl : l.length = 64) : copied l 64 = l := by unfold copied; rw [← hl, List.take_length, Nat.sub_self]; simp
theorem copied_zero (l : List Nat) : copied l 0 = List.replicate 64 0 := by simp [copied]
set_option maxRecDepth 100000 in
set_option maxHeartbeats 4000000 in
theorem rfbytes_any (f : Fr) (w : World) (hb : Body f.body) (hr : rightF f = true) :
    Calls Try.prog 43 #[.agg (FC f)] w fun x w' => x = .returned (.agg (byteCells (sectorOf f))) ∧ Below w.heap.size w w' := by
  obtain ⟨k, z, o, e, s, hf, b1, b2, b3, b4, b5, b6, b7⟩ := right_nat hr
  have hcells := fun (W : World) g t h => frame_cells (w := W) (g := g) (f := f) (t := t) h
  rw [show f.kind = (k : Int) by rw [hf], show f.zone = (z : Int) by rw [hf], show f.off = (o : Int) by rw [hf], show f.epoch = (e : Int) by rw [hf], show f.seq = (s : Int) by rw [hf]] at hcells
  have HB := Lib.hid (fun (W : World) g t h => frame_body (w := W) (g := g) (f := f) (t := t) h hb.2)
  obtain ⟨q1, hq1⟩ : ∃ q, q = [k, 1] := ⟨_, rfl⟩
  obtain ⟨q2, hq2⟩ : ∃ q, q = q1 ++ Cod.leN 2 z := ⟨_, rfl⟩
  obtain ⟨q3, hq3⟩ : ∃ q, q = q2 ++ Cod.leN 2 o := ⟨_, rfl⟩
  obtain ⟨q4, hq4⟩ : ∃ q, q = q3 ++ Cod.leN 4 e := ⟨_, rfl⟩
  obtain ⟨q5, hq5⟩ : ∃ q, q = q4 ++ Cod.leN 6 s := ⟨_, rfl⟩
  have l1 : q1.length = 2 := by rw [hq1]; rfl
  have l2 : q2.length = 4 := by rw [hq2]; simp [l1, Cod.leN_length]
  have l3 : q3.length = 6 := by rw [hq3]; simp [l2, Cod.leN_length]
  have l4 : q4.length = 10 := by rw [hq4]; simp [l3, Cod.leN_length]
  have l5 : q5.length = 16 := by rw [hq5]; simp [l4, Cod.leN_length]
  have hfr : frB f = q5 ++ f.body := by
    rw [hq5, hq4, hq3, hq2, hq1]
    conv => lhs; rw [hf]
    have e1 : Cod.leN 1 k = [k] := by simp [Cod.leN]; omega
    have e2 : Cod.leN 1 1 = [1] := by decide
    simp [frB, e1, e2]
  have HFR := Lib.hid hfr
  have HCE := Lib.hid hcells
  have L1 := Lib.hid l1
  have L2 := Lib.hid l2
  have L3 := Lib.hid l3
  have L4 := Lib.hid l4
  have L5 := Lib.hid l5
  have Q1 := Lib.hid hq1
  have Q2 := Lib.hid hq2
  have Q3 := Lib.hid hq3
  have Q4 := Lib.hid hq4
  have Q5 := Lib.hid hq5
  have HBL := Lib.hid hb.1
  have HN1 := Lib.hid (fun W => rnum_any 2 z (by omega) (by omega) W)
  have HN2 := Lib.hid (fun W => rnum_any 2 o (by omega) (by omega) W)
  have HN3 := Lib.hid (fun W => rnum_any 4 e (by omega) (by omega) W)
  have HN4 := Lib.hid (fun W => rnum_any 6 s (by omega) (by omega) W)
  clear hcells hf hfr l1 l2 l3 l4 l5 hq1 hq2 hq3 hq4 hq5 hr hb
  have hz64 : (Try.prog.info? 76).map (fun i => (i.zero, i.size)) = some (some (.agg (byteCells (List.replicate 64 0))), 64) := by kernel_rfl
  have hz := (zero_of_info hz64).1
  have HI64 := Lib.hid (fun (l : List Nat) (h : l.length = 64) => (show (Try.prog.info? 76).map (·.size) = some (byteCells l).size by rw [size_byteCells, h]; exact (zero_of_info hz64).2))
  obtain ⟨Z, hZ⟩ : ∃ Z, byteCells (List.replicate 64 0) = Z := ⟨_, rfl⟩
  have HZ := Lib.hid hZ
  rw [hZ] at hz
  generalize hFC : FC f = C at *
  clear hZ hFC hz64
  have hB0 := ((Below.refl w.heap.size w).alloc (Nat.le_refl _) (.cells C 65)).alloc (by simp) (.cells Z 76)
  have hF0 := heap_alloc2_old w (.cells C 65) (.cells Z 76)
  have hR0 := heap_alloc2_new w (.cells C 65) (.cells Z 76)
  have z0 : ((w.alloc (.cells C 65)).alloc (.cells Z 76)).heap.size = w.heap.size + 1 + 1 := by simp
  obtain ⟨d0, d1, d2, d3, d4⟩ := HCE.out _ _ _ hF0
  go_enter Try.func43, Try.ntmps43
  go_wp2_with fail
  obtain ⟨W0, hW0⟩ : ∃ W0, (w.alloc (.cells C 65)).alloc (.cells Z 76) = W0 := ⟨_, rfl⟩
  rw [hW0] at hB0 hF0 hR0 z0 d0 d1 d2 d3 d4 ⊢
  clear hW0

  have hg1 := heap_alloc_new W0 (.cells (byteCells q1) 5)
  have hq1b : byteCells q1 = #[.int .u8 (k : Nat), .int .u8 1] := by rw [Q1.out]; rfl
  have hba := (Below.refl W0.heap.size W0).alloc (Nat.le_refl _) (.cells (byteCells q1) 5)
  have zz1 : (W0.alloc (.cells (byteCells q1) 5)).heap.size = W0.heap.size + 1 := by simp
  rw [hq1b] at hba zz1
  have hown1 : OwnB (W0.alloc (.cells #[.int .u8 (k : Nat), .int .u8 1] 5)) 5 (w.heap.size + 1 + 1) (.slice (some ⟨w.heap.size + 1 + 1, 0, none⟩) 2 2) q1 := by
    have := OwnB.row (e := 5) (base := w.heap.size + 1 + 1) (g := W0.heap.size) (by omega) hg1 (by rw [Q1.out]; intro c hc; simp at hc; omega) (by rw [L1.out]; unfold maxLen; omega)
    rwa [L1.out, hq1b, z0] at this
  obtain ⟨W1, hW1⟩ : ∃ W1, W0.alloc (.cells #[.int .u8 (k : Nat), .int .u8 1] 5) = W1 := ⟨_, rfl⟩
  rw [hW1] at hown1 hba zz1 ⊢
  have hF1 := (hba.block w.heap.size (by omega)).trans hF0
  have hR1 := (hba.block (w.heap.size + 1) (by omega)).trans hR0
  have hBw1 := hB0.trans (hba.mono (by omega))
  have hsz1 : w.heap.size + 1 + 1 ≤ W1.heap.size := by omega
  clear hg1 hq1b hba hW1 hF0 hR0 hB0 d0 d1 d2 d3 d4 zz1 z0
  refine (HN1.out _).mono ?_
  rintro x w2 ⟨v2, rfl, ho2, hB2⟩
  obtain ⟨a2, c2, rfl, hb2, hn2, -⟩ := ho2.bytes
  have hFx := (hB2.block w.heap.size (by omega)).trans hF1
  have hRx := (hB2.block (w.heap.size + 1) (by omega)).trans hR1
  have hownx := hown1.below hB2
  have hBwx := hBw1.trans (hB2.mono (by omega))
  have hszx : w.heap.size + 1 + 1 ≤ w2.heap.size := Nat.le_trans hsz1 hB2.size
  clear hF1 hR1 hown1 hBw1 hsz1
  go_wp2_with (at_builtin; refine wpList_append_bytes rfl (.tmp 11) (.tmp 14) 94 rfl 5 Try.underlying94 Try.infoU8 (w.heap.size + 1 + 1) _ q1 rfl hownx a2 c2 (Cod.leN 2 z) rfl hb2 hn2 (by rw [L1.out, Cod.leN_length]; omega) hszx ?_; intro v3 w3 hv3 hg3; have hb3 := hownx.grown hg3 hszx; have hF2 := (hb3.block w.heap.size (by omega)).trans hFx; have hR2 := (hb3.block (w.heap.size + 1) (by omega)).trans hRx; have hBw2 := hBwx.trans (hb3.mono (by omega)); have hsz2 := Nat.le_trans hszx hb3.size; rw [← Q2.out] at hv3; have hown2 := hv3; obtain ⟨d0, d1, d2, d3, d4⟩ := HCE.out _ _ _ hF2)
  clear hb3 hFx hRx hownx hBwx hszx ho2 hB2 hb2 hn2 hg3 hv3
  refine (HN2.out _).mono ?_
  rintro x w2 ⟨v2, rfl, ho2, hB2⟩
  obtain ⟨a2, c2, rfl, hb2, hn2, -⟩ := ho2.bytes
  have hFx := (hB2.block w.heap.size (by omega)).trans hF2
  have hRx := (hB2.block (w.heap.size + 1) (by omega)).trans hR2
  have hownx := hown2.below hB2
  have hBwx := hBw2.trans (hB2.mono (by omega))
  have hszx : w.heap.size + 1 + 1 ≤ w2.heap.size := Nat.le_trans hsz2 hB2.size
  clear hF2 hR2 hown2 hBw2 hsz2
  go_wp2_with (at_builtin; refine wpList_append_bytes rfl (.tmp 16) (.tmp 19) 94 rfl 5 Try.underlying94 Try.infoU8 (w.heap.size + 1 + 1) _ q2 rfl hownx a2 c2 (Cod.leN 2 o) rfl hb2 hn2 (by rw [L2.out, Cod.leN_length]; omega) hszx ?_; intro v3 w3 hv3 hg3; have hb3 := hownx.grown hg3 hszx; have hF3 := (hb3.block w.heap.size (by omega)).trans hFx; have hR3 := (hb3.block (w.heap.size + 1) (by omega)).trans hRx; have hBw3 := hBwx.trans (hb3.mono (by omega)); have hsz3 := Nat.le_trans hszx hb3.size; rw [← Q3.out] at hv3; have hown3 := hv3; obtain ⟨d0, d1, d2, d3, d4⟩ := HCE.out _ _ _ hF3)
  clear hb3 hFx hRx hownx hBwx hszx ho2 hB2 hb2 hn2 hg3 hv3
  refine (HN3.out _).mono ?_
  rintro x w2 ⟨v2, rfl, ho2, hB2⟩
  obtain ⟨a2, c2, rfl, hb2, hn2, -⟩ := ho2.bytes
  have hFx := (hB2.block w.heap.size (by omega)).trans hF3
  have hRx := (hB2.block (w.heap.size + 1) (by omega)).trans hR3
  have hownx := hown3.below hB2
  have hBwx := hBw3.trans (hB2.mono (by omega))
  have hszx : w.heap.size + 1 + 1 ≤ w2.heap.size := Nat.le_trans hsz3 hB2.size
  clear hF3 hR3 hown3 hBw3 hsz3
  go_wp2_with (at_builtin; refine wpList_append_bytes rfl (.tmp 21) (.tmp 24) 94 rfl 5 Try.underlying94 Try.infoU8 (w.heap.size + 1 + 1) _ q3 rfl hownx a2 c2 (Cod.leN 4 e) rfl hb2 hn2 (by rw [L3.out, Cod.leN_length]; omega) hszx ?_; intro v3 w3 hv3 hg3; have hb3 := hownx.grown hg3 hszx; have hF4 := (hb3.block w.heap.size (by omega)).trans hFx; have hR4 := (hb3.block (w.heap.size + 1) (by omega)).trans hRx; have hBw4 := hBwx.trans (hb3.mono (by omega)); have hsz4 := Nat.le_trans hszx hb3.size; rw [← Q4.out] at hv3; have hown4 := hv3; obtain ⟨d0, d1, d2, d3, d4⟩ := HCE.out _ _ _ hF4)
  clear hb3 hFx hRx hownx hBwx hszx ho2 hB2 hb2 hn2 hg3 hv3
  refine (HN4.out _).mono ?_
  rintro x w2 ⟨v2, rfl, ho2, hB2⟩
  obtain ⟨a2, c2, rfl, hb2, hn2, -⟩ := ho2.bytes
  have hFx := (hB2.block w.heap.size (by omega)).trans hF4
  have hRx := (hB2.block (w.heap.size + 1) (by omega)).trans hR4
  have hownx := hown4.below hB2
  have hBwx := hBw4.trans (hB2.mono (by omega))
  have hszx : w.heap.size + 1 + 1 ≤ w2.heap.size := Nat.le_trans hsz4 hB2.size
  clear hF4 hR4 hown4 hBw4 hsz4
  go_wp2_with (at_builtin; refine wpList_append_bytes rfl (.tmp 26) (.tmp 29) 94 rfl 5 Try.underlying94 Try.infoU8 (w.heap.size + 1 + 1) _ q4 rfl hownx a2 c2 (Cod.leN 6 s) rfl hb2 hn2 (by rw [L4.out, Cod.leN_length]; omega) hszx ?_; intro v3 w3 hv3 hg3; have hb3 := hownx.grown hg3 hszx; have hF5 := (hb3.block w.heap.size (by omega)).trans hFx; have hR5 := (hb3.block (w.heap.size + 1) (by omega)).trans hRx; have hBw5 := hBwx.trans (hb3.mono (by omega)); have hsz5 := Nat.le_trans hszx hb3.size; rw [← Q5.out] at hv3; have hown5 := hv3; obtain ⟨d0, d1, d2, d3, d4⟩ := HCE.out _ _ _ hF5)
  clear hb3 hFx hRx hownx hBwx hszx ho2 hB2 hb2 hn2 hg3 hv3
  have T0 := Lib.hid (show q5 ++ f.body.take 0 = q5 by simp)
  have T1 := Lib.hid (show ∀ j, j < 44 → f.body.take j ++ [f.body.getD j 0] = f.body.take (j + 1) by
    intro j hj
    have hlt : j < f.body.length := by rw [HBL.out]; exact hj
    rw [List.take_add_one, List.getD_eq_getElem?_getD, List.getElem?_eq_getElem hlt]; rfl)
  have T2 := Lib.hid (show f.body.take 44 = f.body by rw [← HBL.out]; exact List.take_length ..)
  go_loopw [3, 4] (fun x i wr => ∃ j : Nat, j ≤ 44 ∧ i = .int .i64 j ∧ OwnB wr 5 (w.heap.size + 1 + 1) x (q5 ++ f.body.take j) ∧ wr.heap[w.heap.size]? = some (.cells C 65 (0, 0)) ∧ wr.heap[w.heap.size + 1]? = some (.cells Z 76 (0, 0)) ∧ Below w.heap.size w wr ∧ w.heap.size + 1 + 1 ≤ wr.heap.size) (fun _ i _ => 44 - (intOf i).toNat)
  case atStart => exact ⟨0, by omega, rfl, by rw [T0.out]; exact hown5, hF5, hR5, hBw5, hsz5⟩
  case round =>
    obtain ⟨j, hj, rfl, hown, hF, hR, hBw, hsz⟩ := hrel
    clear hown5 hF5 hR5 hBw5 hsz5
    by_cases hlt : j < 44
    · have hbb := (HB.out _ _ _ hF)
      have hc8 : f.body.getD j 0 < 256 := by
        rw [List.getD_eq_getElem?_getD, List.getElem?_eq_getElem (by rw [HBL.out]; exact hlt)]; exact hbb.1 _ (List.getElem_mem _)
      have hcell : wr.cell? ⟨w.heap.size, 5 + j, none⟩ = some (.int .u8 (f.body.getD j 0 : Nat)) := by
        rcases hbb.2 with h | ⟨b, o', h, -, hc⟩
        · have := HBL.out; rw [h] at this; simp at this
        · cases h; exact hc j (by rw [HBL.out]; exact hlt)
      have hal : Below wr.heap.size wr (wr.alloc (.cells #[.int .u8 (f.body.getD j 0 : Nat)] 5)) := (Below.refl _ _).alloc (Nat.le_refl _) _
      have hown' := hown.below hal
      have hF' := (hal.block w.heap.size (by omega)).trans hF
      have hR' := (hal.block (w.heap.size + 1) (by omega)).trans hR
      have hBw' := hBw.trans (hal.mono (by omega))
      have hsz' := Nat.le_trans hsz hal.size
      have hone := one_byte_row wr 5 _ hc8
      have T1j := Lib.hid (T1.out j hlt)
      have hlen : (q5 ++ f.body.take j).length = 16 + j := by simp [L5.out, HBL.out]; omega
      generalize f.body.getD j 0 = c at *
      clear hbb hal
      go_wp2_with (at_builtin; refine wpList_append_bytes rfl (.tmp 35) (.tmp 40) 94 rfl 5 Try.underlying94 Try.infoU8 (w.heap.size + 1 + 1) _ (q5 ++ f.body.take j) rfl hown' (some ⟨wr.heap.size, 0, none⟩) 1 [c] rfl hone (fun e => by cases e) (by rw [hlen]; simp; omega) hsz' ?_; intro v' w' hv hg)
      have hb3 := hown'.grown hg hsz'
      go_roundw
      case rel => exact ⟨j + 1, by omega, by go_num, by rw [← T1j.out, ← List.append_assoc]; exact hv, (hb3.block w.heap.size (by omega)).trans hF', (hb3.block (w.heap.size + 1) (by omega)).trans hR', hBw'.trans (hb3.mono (by omega)), Nat.le_trans hsz' hb3.size⟩
      case measure => simp [intOf]; omega
    · obtain rfl : j = 44 := by omega
      rw [T2.out, ← HFR.out] at hown
      have hfl : (frB f).length = 60 := by rw [HFR.out]; simp [L5.out, HBL.out]
      have HFL := Lib.hid hfl
      obtain ⟨y, hy⟩ : ∃ y, Crc.sum (frB f) = y := ⟨_, rfl⟩
      have HY := Lib.hid hy
      have hy32 : y < 4294967296 := by rw [← hy]; exact Crc.sum_lt hown.2
      clear T0 T1 T2 hfl
      obtain ⟨ab, cb, rfl, hbb, hnb, -⟩ := hown.bytes
      have HSm := Lib.hid (rsum_any ab (frB f) cb wr hbb (by rw [HFL.out]; omega))
      rw [HFL.out, hy] at HSm
      rw [HFL.out]
      clear hy
      have HN5 := Lib.hid (fun W => rnum_any 4 y (by omega) (by omega) W)
      go_wp2_with fail
      refine HSm.out.mono ?_
      rintro x w2 ⟨rfl, rfl⟩
      go_wp2_with fail
      refine (HN5.out _).mono ?_
      rintro x w2 ⟨v2, rfl, ho2, hB2⟩
      obtain ⟨a2, c2, rfl, hb2, hn2, -⟩ := ho2.bytes
      have hFx := (hB2.block w.heap.size (by omega)).trans hF
      have hRx := (hB2.block (w.heap.size + 1) (by omega)).trans hR
      have hownx := hown.below hB2
      have hBwx := hBw.trans (hB2.mono (by omega))
      have hszx : w.heap.size + 1 + 1 ≤ w2.heap.size := Nat.le_trans hsz hB2.size
      rw [HFL.out] at hownx
      have HLN := Lib.hid (Cod.leN_length 4 y)
      clear hF hR hown hBw hsz hbb
      go_wp2_with (at_builtin; refine wpList_append_bytes rfl (.tmp 42) (.tmp 46) 94 rfl 5 Try.underlying94 Try.infoU8 (w.heap.size + 1 + 1) _ (frB f) rfl hownx a2 c2 (Cod.leN 4 y) rfl hb2 hn2 (by rw [HFL.out, HLN.out]; omega) hszx ?_; intro v3 w3 hv3 hg3; have hb3 := hownx.grown hg3 hszx)
      have hsec : frB f ++ Cod.leN 4 y = sectorOf f := by rw [← HY.out]; unfold sectorOf; rw [le4_leN]
      rw [hsec] at hv3
      have hl : (sectorOf f).length = 64 := by rw [← hsec]; simp [HFL.out, HLN.out]
      clear hsec
      obtain ⟨a3, c3, rfl, hb3', hn3, hd3⟩ := hv3.bytes
      have hF3 := (hb3.block w.heap.size (by omega)).trans hFx
      have hR3 := (hb3.block (w.heap.size + 1) (by omega)).trans hRx
      have hB3 := hBwx.trans (hb3.mono (by omega))
      have hsz3 : w.heap.size + 1 + 1 ≤ w3.heap.size := Nat.le_trans hszx hb3.size
      clear hb3 hFx hRx hBwx hszx hownx hv3 hb2 hn2 hB2 ho2
      rcases hb3'.2 with h0 | ⟨bb, oo, rfl, hbl, hcells⟩
      · exfalso; rw [h0] at hl; simp at hl
      have h256 := hb3'.1
      have hal : Below w3.heap.size w3 (w3.alloc (.cells Z 76)) := (Below.refl _ _).alloc (Nat.le_refl _) _
      have hG := heap_alloc_new w3 (.cells Z 76)
      have zz : (w3.alloc (.cells Z 76)).heap.size = w3.heap.size + 1 := by simp
      have hBy := hb3'.below hal
      have hR4 := (hal.block (w.heap.size + 1) (by omega)).trans hR3
      have hB4 := hB3.trans (hal.mono (by omega))
      obtain ⟨W3, hW3⟩ : ∃ W3, w3.alloc (.cells Z 76) = W3 := ⟨_, rfl⟩
      rw [hW3] at hal hG zz hBy hR4 hB4 ⊢
      obtain ⟨G, hGe⟩ : ∃ G, w3.heap.size = G := ⟨_, rfl⟩
      rw [hGe] at hG zz hsz3 hbl ⊢
      have HI := Lib.hid (HI64.out (sectorOf f) hl)
      have HZS : Hid (Z.size = (byteCells (sectorOf f)).size) := Lib.hid (by rw [← HZ.out]; simp [size_byteCells, hl])
      have HZ0 := Lib.hid (show Z = byteCells (copied (sectorOf f) 0) by rw [← HZ.out, copied_zero])
      have hone := one_byteCells (sectorOf f)
      have CS := Lib.hid (fun j (h : j < 64) => copied_set hl h)
      have CL := Lib.hid (fun j (h : j ≤ 64) => copied_length hl h)
      have CA := Lib.hid (copied_all hl)
      clear hal hW3 hGe hb3' hcells hF3 hR3 hB3 HFL HLN HFR HB HCE HN1 HN2 HN3 HN4 HN5 HSm
      rw [hl]
      obtain ⟨l, hL⟩ : ∃ l, sectorOf f = l := ⟨_, rfl⟩
      have LL := Lib.hid hL
      rw [hL] at hl hBy h256 HI HZS HZ0 hone CS CL CA
      clear hL
      go_loopw [6] (fun i wr => ∃ j : Nat, j ≤ 64 ∧ i = .int .i64 j ∧ wr.heap[G]? = some (.cells (byteCells (copied l j)) 76 (0, 0)) ∧ Only [G] W3 wr) (fun i _ => 64 - (intOf i).toNat)
      case atStart => exact ⟨0, by omega, rfl, by rw [← HZ0.out]; exact hG, Only.refl _ _⟩
      case round =>
        obtain ⟨j, hj, rfl, hg, hO⟩ := hrel
        by_cases hlt : j < 64
        · have hcl := CL.out j hj
          have hbw := hBy.only hO (by intro x hx; cases hx; simp; omega)
          have hc1 : wr.cell? ⟨bb, oo + j, none⟩ = some (.int .u8 (l.getD j 0 : Nat)) := by
            rcases hbw.2 with h | ⟨b, o', h, -, hc⟩
            · rw [h] at hl; simp at hl
            · cases h; exact hc j (by omega)
          have hc : wr.cell? ⟨G, j, none⟩ = some (.int .u8 ((copied l j).getD j 0 : Nat)) := (cell_of_row _ _ _ _ _ _ hg).trans (byteCells_at _ _ (by omega))
          have hf : wr.frozen? ⟨G, j, none⟩ = false := frozen_of_row _ _ _ _ _ hg
          have hx8 : l.getD j 0 < 256 := by
            rw [List.getD_eq_getElem?_getD, List.getElem?_eq_getElem (by omega)]; exact h256 _ (List.getElem_mem _)
          have CSj := Lib.hid (CS.out j hlt)
          generalize l.getD j 0 = x at *
          have H := Lib.hid (show (wr.setCell ⟨G, j, none⟩ (.int .u8 (x : Nat))).heap[G]? = some (.cells (byteCells (copied l (j + 1))) 76 (0, 0)) by
            rw [heap_setCell_same _ _ _ _ _ _ hg, byteCells_set, CSj.out])
          clear hg hcl hbw
          go_wp2
          go_roundw
          case rel => exact ⟨j + 1, by omega, by go_num, H.out, hO.setCell (.inl (by simp)) _⟩
          case measure => simp [intOf]; omega
        · obtain rfl : j = 64 := by omega
          rw [CA.out] at hg
          have hR := (hO.block (w.heap.size + 1) (by omega) (by simp; omega)).trans hR4
          have hB := hB4.trans (hO.below (B := w.heap.size) (by simp; omega) (by omega))
          clear hR4 hG
          go_wp2_with (first | (refine wpList_load_row rfl 76 _ rfl G rfl 76 _ _ _ hg Try.underlying76 rfl HI.out ?_) | (refine wpList_store_row rfl 76 _ _ rfl (w.heap.size + 1) (byteCells l) rfl rfl 76 Z hR HI.out HZS.out hone ?_))
          refine bodyPost_ret (results_rowX rfl _ _ (w.heap.size + 1) 76 (byteCells l) _ _ rfl (setRow_heap _ _ _ _ _ _ hR) Try.underlying76 rfl HI.out) rfl ?_
          exact ⟨by rw [LL.out], below_setRow hB (by omega) _⟩
end Go.Proofs.Ytjnneoejnpephaa
namespace Go.Proofs.Ytjnneoejnpephaa
open Go.RowKit Go.Rv Frm
set_option linter.unusedVariables false
attribute [local go_sem] Oper.semAt_some
theorem eq_arr64 (l : List Nat) (hl : l.length = 64) (h1 : ∀ c ∈ l, c < 256) (w : World) :
    (Op.equalIn 10000 76 (.agg (byteCells l)) (.agg (byteCells l))).run Try.prog w = .ok true w := by
  have hf : ∀ l : List Nat, l.length = 64 → (Value.agg (byteCells l)).formed Try.prog 76 = true := by
    intro l hl
    simp only [Value.formed, Try.underlying76, size_byteCells, hl]
    kernel_rfl
  exact eq_deep (by kernel_rfl) (hf l hl) (hf l hl) (lits_bytes Try.underlying76 Try.underlying5 (by kernel_rfl) (by kernel_rfl) l hl h1 0) (lits_bytes Try.underlying76 Try.underlying5 (by kernel_rfl) (by kernel_rfl) l hl h1 0) true (by simp) w
theorem blk_ne {w : World} {g g' : Nat} {C Z : Array Value} {t t' : TypeId} (h : w.heap[g]? = some (.cells C t (0, 0))) (h' : w.heap[g']? = some (.cells Z t' (0, 0))) (ht : t ≠ t') : g ≠ g' := by
  rintro rfl
  rw [h] at h'
  cases h'
  exact ht rfl
def Fact.ownT (B : Nat) (L : List (List Nat)) : Fact := ⟨fun u w => ∃ a c, u = .slice a L.length c ∧ OwnM w 77 64 byteCells Sec B (.slice a L.length c) L, fun u w w' ⟨a, c, e, h⟩ hB => ⟨a, c, e, h.below hB⟩⟩
def Fact.prs (s : Sn.S) : Fact := ⟨fun u w => ∃ p le ll ce cl, u = .tuple #[.agg (SC s p), .int .i64 0] ∧ SnIs w p le ll ce cl s, fun u w w' ⟨p, le, ll, ce, cl, e, h⟩ hB => ⟨p, le, ll, ce, cl, e, h.below hB⟩⟩
def Fact.prs1 (s : Sn.S) : Fact := ⟨fun u w => ∃ p le ll ce cl, u = .agg (SC s p) ∧ SnIs w p le ll ce cl s, fun u w w' ⟨p, le, ll, ce, cl, e, h⟩ hB => ⟨p, le, ll, ce, cl, e, h.below hB⟩⟩
theorem SnIs.setRow {w : World} {p le ll ce cl g : Nat} {s : Sn.S} {Z C : Array Value} (h : SnIs w p le ll ce cl s) (hg : w.heap[g]? = some (.cells Z 28 (0, 0))) : SnIs (w.setRow g C) p le ll ce cl s := by
  obtain ⟨L, hL, -⟩ := h.bm.he
  obtain ⟨V, hV, -⟩ := h.bm.hl
  have n1 := blk_ne h.bm.hp hg (by decide)
  have n2 := blk_ne hL hg (by decide)
  have n3 := blk_ne hV hg (by decide)
  exact ⟨h.bm.only (only_setRow w g C) (by simpa using n1) (by simpa using n2) (by simpa using n3), h.hg, h.ok⟩
theorem SnIs.kept {B : Nat} {w w' : World} {p le ll ce cl : Nat} {s : Sn.S} (h : SnIs w p le ll ce cl s) (hB : Below w.heap.size w w') : SnIs w' p le ll ce cl s := h.below hB
set_option maxRecDepth 100000 in
set_option maxHeartbeats 64000000 in
theorem ck_sectors_walk (w : World) (g : Geo.G) (a1 : Option Addr) (l1 : List (Int × BE)) (c1 : Nat) (gen epoch next zone other : Int) (a2 : Option Addr) (l2 : List (List Nat)) (c2 : Nat) (hI1 : RowOf w 7 opC Op64 a1 l1) (hI2 : RowOf w 64 byteCells Sec a2 l2) (hn2 : a2 = none → c2 = 0) :
    Calls Try.prog 14 #[.agg (GC g), .slice a1 l1.length c1, .int .i64 gen, .int .i64 epoch, .int .i64 next, .int .i64 zone, .slice a2 l2.length c2, .int .i64 other] w fun e w' => e = .returned (.bool true) ∧ Below w.heap.size w w' := by
  have HA := Lib.hid (fun W => ck_anchor W)
  have HGI := Lib.hid (gsize (g := g))
  have HMA : Hid (∀ W, Below w.heap.size w W → Calls Try.prog 33 #[.agg (GC g), .slice a1 l1.length c1, .int .i64 gen, .int .i64 epoch, .int .i64 next] W (MadePost13 W g l1 gen epoch next)) := Lib.hid (fun W hW => made13_any g a1 l1 c1 gen epoch next W (hI1.below hW))
  have HNW := Lib.hid (fun (W : World) => new_any W)
  have HGC : Hid (∀ W : World, W.heap[w.heap.size]? = some (.cells (GC g) 23 (0, 0)) → W.cell? ⟨w.heap.size, 0, none⟩ = some (.int .i64 g.d) ∧ W.cell? ⟨w.heap.size, 1, none⟩ = some (.int .i64 g.z)) := Lib.hid (fun W h => ⟨(cell_of_row _ _ _ _ _ _ h).trans rfl, (cell_of_row _ _ _ _ _ _ h).trans rfl⟩)
  have hzs := (zero_of_info Try.infoSnz).1
  have hzr := (zero_of_info Try.infoRS).1
  have hzt := (zero_of_info Try.infoTab).1
  have hz3 := (zero_of_info Try.infoF3).1
  have HIT := Lib.hid size_tab
  have HST := Lib.hid (show Tb.zero.size = Tb.tabV.size by rw [Tb.size_zero, Tb.size_tabV])
  have H1T := Lib.hid Tb.one_tabV
  have HKS := Lib.hid (fun (W : World) p le ll ce cl s h z => ksectors_any W p le ll ce cl s h z)
  have HKP := Lib.hid (fun (W : World) z a l cap h hl => kparse_any W z a l cap h hl)
  have HRB := Lib.hid (fun (f : Fr) (W : World) (h : Body f.body) (h2 : rightF f = true) => rfbytes_any f W h h2)
  have HIS3 := Lib.hid Try.infoSec3
  have hSZI := Lib.hid (zero_of_info Try.infoSnz).2
  have hSZO : Hid (SZ.all (·.oneCell') = true) := Lib.hid (by simp [SZ, Value.oneCell'])
  have HI2 := Lib.hid hI2
  have HN2 := Lib.hid hn2
  have hal := (Below.refl w.heap.size w).alloc (Nat.le_refl _) (.cells (GC g) 23)
  have hnew := heap_alloc_new w (.cells (GC g) 23)
  clear hI1 hI2 hn2
  obtain ⟨TV, hTV⟩ : ∃ T, Tb.tabV = T := ⟨_, rfl⟩
  rw [hTV] at HIT HST H1T HNW HKS HKP
  obtain ⟨TZ, hTZ⟩ : ∃ T, Tb.zero = T := ⟨_, rfl⟩
  rw [hTZ] at hzt HST
  obtain ⟨GX, hGX⟩ : ∃ GX, GC g = GX := ⟨_, rfl⟩
  rw [hGX] at HGI HMA HGC hal hnew ⊢
  obtain ⟨nb, hnb⟩ : ∃ n, l2.length = n := ⟨_, rfl⟩
  have HNB := Lib.hid hnb
  rw [hnb]
  clear hGX hTV hTZ hnb
  go_enter Try.func14, Try.ntmps14
  go_wp2_with fail
  refine (HA.out _).mono ?_
  rintro e w0 ⟨rfl, hB0⟩
  have HG0 := Lib.hid ((hB0.block w.heap.size (by simp)).trans hnew)
  have HB0 := Lib.hid (hal.trans (hB0.mono hal.size))
  have zw0 : w.heap.size < w0.heap.size := (Array.getElem?_eq_some_iff.1 HG0.out).1
  clear hal hnew hB0
  go_wp2_with (refine wpList_row_on (by rfl) 23 _ rfl w.heap.size rfl 23 _ _ _ HG0.out Try.underlying23 rfl HGI.out ?_)
  refine (HMA.out _ HB0.out).mono ?_
  rintro eaA waA ⟨SA, TA, okA, rfl, ⟨i1, i2, i3⟩, ⟨j1, j2, j3⟩, hBA, hcA⟩
  have HIA := Lib.hid i1
  have HOA := Lib.hid i2
  have HZA := Lib.hid i3
  have HJA := Lib.hid j1
  have HPA := Lib.hid j2
  have HYA := Lib.hid j3
  have HCA := Lib.hid hcA
  have zbA := hBA.size
  obtain ⟨VA, hVA⟩ : ∃ V, (waA.alloc (.cells SZ 28)).alloc (.cells RZ 32) = V := ⟨_, rfl⟩
  have hvA : VA.heap[waA.heap.size]? = some (.cells SZ 28 (0, 0)) := by rw [← hVA]; exact heap_alloc2_old _ _ _
  have huA : VA.heap[waA.heap.size + 1]? = some (.cells RZ 32 (0, 0)) := by rw [← hVA]; exact heap_alloc2_new _ _ _
  have hbA : Below waA.heap.size waA VA := by rw [← hVA]; exact ((Below.refl _ _).alloc (Nat.le_refl _) _).alloc (by simp) _
  obtain ⟨UA, hUA⟩ : ∃ U, VA.setRow waA.heap.size SA = U := ⟨_, rfl⟩
  have hsA : Only [waA.heap.size] VA UA := by rw [← hUA]; exact only_setRow _ _ _
  have hrA : UA.heap[waA.heap.size]? = some (.cells SA 28 (0, 0)) := by rw [← hUA]; exact setRow_heap _ _ _ _ _ _ hvA
  have hqA := hsA.get huA (by simp)
  obtain ⟨WA, hWA⟩ : ∃ W, UA.setRow (waA.heap.size + 1) TA = W := ⟨_, rfl⟩
  have htA : Only [waA.heap.size + 1] UA WA := by rw [← hWA]; exact only_setRow _ _ _
  have HQAwA := Lib.hid (htA.get hrA (by simp))
  have HTTA : Hid (WA.heap[waA.heap.size + 1]? = some (.cells TA 32 (0, 0))) := Lib.hid (by rw [← hWA]; exact setRow_heap _ _ _ _ _ _ hqA)
  have hxA : Below waA.heap.size waA WA := hbA.trans ((hsA.below (B := waA.heap.size) (by simp) hbA.size).trans (htA.below (B := waA.heap.size) (by simp) (by have := hsA.size; have := hbA.size; omega)))
  have hyA := hBA.trans (hxA.mono zbA)
  have HGA := Lib.hid ((hyA.block w.heap.size (by omega)).trans HG0.out)
  have HBA := Lib.hid (HB0.out.trans (hyA.mono HB0.out.size))
  have HXA := Lib.hid hxA
  have HYYA := Lib.hid hyA
  have HVA := Lib.hid hVA
  have HUA := Lib.hid hUA
  have HWA := Lib.hid hWA
  have HH1A := Lib.hid hvA
  have HH2A := Lib.hid hqA
  have zzA : waA.heap.size + 1 < WA.heap.size := (Array.getElem?_eq_some_iff.1 HTTA.out).1
  clear i1 i2 i3 j1 j2 j3 hBA hcA hVA hvA huA hbA hUA hsA hrA hqA hWA htA hxA hyA
  go_upto_region 4 with (first | (rw [show (waA.alloc (.cells SZ 28)).alloc (.cells RZ 32) = VA from HVA.out]; refine wpList_store_row rfl 28 _ _ rfl waA.heap.size SA rfl rfl 28 SZ HH1A.out HIA.out HZA.out HOA.out ?_; rw [HUA.out]) | (refine wpList_store_row rfl 32 _ _ rfl (waA.heap.size + 1) TA rfl rfl 32 RZ HH2A.out HJA.out HYA.out HPA.out ?_; rw [HWA.out]))
  have hca := HCA.out
  rcases hca with rfl | ⟨rfl, hgr, hla, hra, pa, lea, lla, va, hSA, hTA, hsa, hown, qa1, qa2, qa3⟩
  · go_wp2
    go_ret
    exact ⟨rfl, HBA.out⟩
  by_cases hb60 : nb ≤ 60
  rotate_left
  · have t1 : decide (60 < nb) = true := decide_eq_true (by omega)
    have t2 : decide ((60 : Int) < (nb : Int)) = true := decide_eq_true (by omega)
    clear hb60
    go_wp2
    go_ret
    exact ⟨rfl, HBA.out⟩
  have t1 : decide (60 < nb) = false := decide_eq_false (by omega)
  have t2 : decide ((60 : Int) < (nb : Int)) = false := decide_eq_false (by omega)
  have HB60 := Lib.hid hb60
  obtain ⟨sa, hsaE⟩ : ∃ sa, Sn.made g l1 gen epoch next = sa := ⟨_, rfl⟩
  have hag : sa.g = g ∧ sa.gen = gen ∧ sa.epoch = epoch ∧ sa.next = next := by rw [← hsaE]; exact ⟨rfl, rfl, rfl, rfl⟩
  rw [hsaE] at hSA hsa hown hra
  have HSA := Lib.hid (hsa.below HXA.out)
  have hsm := ((Geo.right_iff _).1 hgr).1
  have hdz : 0 ≤ g.d * g.z ∧ g.d * g.z ≤ 512 := by have := Geo.dz_bd hsm; omega
  have HFF : Hid (∀ W, Below waA.heap.size waA W → Calls Try.prog 31 #[.agg TA, .int .i64 zone] W fun x w' => ∃ u, x = .returned u ∧ OwnM w' 65 49 FC (fun f => f.body.length = 44) W.heap.size u (sa.frames zone) ∧ Below W.heap.size W w') := Lib.hid (fun W hW => by
    rw [hTA]
    have hn := (Sn.nums_iff.1 (Sn.right_iff.1 (show Sn.right sa.gen sa.epoch sa.next sa.es = true from hra)).1).2.2
    rw [hag.2.2.2] at hn
    have := rsframes_any W gen epoch next g va w0.heap.size sa.es (hown.below hW) hgr (by have := hsa.ok; rwa [hag.1] at this) hn zone
    unfold Sn.S.frames
    rw [hag.1, hag.2.1, hag.2.2.1, hag.2.2.2]
    exact this)
  have hcase : (sa.er zone = 10 ∧ Ck.secs (sa.fr zone) = [] ∧ decide (zone < 0) = true) ∨ (sa.er zone = 10 ∧ Ck.secs (sa.fr zone) = [] ∧ decide (zone < 0) = false ∧ decide (g.d * g.z ≤ zone) = true) ∨ (sa.er zone = 0 ∧ Ck.secs (sa.fr zone) = Ck.secs (sa.frames zone) ∧ sa.ok zone = true ∧ decide (zone < 0) = false ∧ decide (g.d * g.z ≤ zone) = false) := by
    have h := sok_cases sa zone hsa.hg
    rw [hag.1] at h
    rcases h with ⟨h1, -⟩ | ⟨-, h1, h2, h3⟩ | ⟨-, h1, h2, h3, h4⟩ | ⟨-, h1, h2, h3, h4, h5⟩
    · rw [hra] at h1; cases h1
    · exact .inl ⟨h1, by rw [h2]; rfl, h3⟩
    · exact .inr (.inl ⟨h1, by rw [h2]; rfl, h3, h4⟩)
    · exact .inr (.inr ⟨h1, by rw [h2], h3, h4, h5⟩)
  have HKA : Hid (∀ W, SnIs W pa lea lla g.b.toNat (nz g) sa → Calls Try.prog 35 #[.agg TV, .agg SA, .int .i64 zone] W fun e w' => ∃ v, e = .returned (.tuple #[v, .int .i64 (sa.er zone)]) ∧ OwnM w' 77 64 byteCells Sec W.heap.size v (Ck.secs (sa.fr zone)) ∧ Below W.heap.size W w') := Lib.hid (fun W h => by
    have := HKS.out W _ _ _ _ _ sa h zone
    rw [hSA]
    exact this)
  have HSM : Hid (∀ (W : World) (p' le' ll' ce' cl' : Nat), SnIs W pa lea lla g.b.toNat (nz g) sa → SnIs W p' le' ll' ce' cl' sa → Calls Try.prog 26 #[.agg (SC sa p'), .agg SA] W fun e w' => e = .returned (.bool true) ∧ Below W.heap.size W w') := Lib.hid (fun W p' le' ll' ce' cl' h h' => by rw [hSA]; have := ssame_any W p' le' ll' ce' cl' pa lea lla _ _ sa sa h' h; simpa using this)
  have HGR := Lib.hid hgr
  have HHG := Lib.hid hsa.hg
  have HHM := Lib.hid hsa.ok
  have HAG := Lib.hid hag.1
  have HCASE := Lib.hid hcase
  clear hgr hla hra hSA hTA hsa hown hag hsaE hsm hcase hb60
  go_wp2_with fail
  clear t1 t2
  refine (HNW.out _).mono ?_
  rintro e5 w5 ⟨rfl, hB5⟩
  have z5 := hB5.size
  obtain ⟨W6, hW6⟩ : ∃ W, w5.alloc (.cells TV 71) = W := ⟨_, rfl⟩
  have hb6 : Below w5.heap.size w5 W6 := by rw [← hW6]; exact (Below.refl _ _).alloc (Nat.le_refl _) _
  have hT6 : W6.heap[w5.heap.size]? = some (.cells TV 71 (0, 0)) := by rw [← hW6]; exact heap_alloc_new w5 _
  have zT6 : w5.heap.size < W6.heap.size := (Array.getElem?_eq_some_iff.1 hT6).1
  have hb := hB5.trans (hb6.mono z5)
  have HT6 := Lib.hid hT6
  have HSA6 := Lib.hid (HSA.out.below hb)
  have HQA6 := Lib.hid ((hb.block waA.heap.size (by omega)).trans HQAwA.out)
  have HTA6 := Lib.hid ((hb.block (waA.heap.size + 1) (by omega)).trans HTTA.out)
  have HG6 := Lib.hid ((hb.block w.heap.size (by omega)).trans HGA.out)
  have HX6 := Lib.hid (HXA.out.trans (hb.mono HXA.out.size))
  have HB6 := Lib.hid (HBA.out.trans (hb.mono HBA.out.size))
  have HW6 := Lib.hid hW6
  clear hB5 hW6 hb6 hT6 hb
  go_upto_region 7 with (refine wpList_store_row rfl 71 _ _ rfl w5.heap.size TV rfl rfl 71 TZ (heap_alloc_new w5 _) HIT.out HST.out H1T.out ?_; rw [World.setRow_alloc_new])
  rw [HW6.out, put_none]
  go_wp2_with (first | (refine wpList_load_row rfl 71 _ rfl w5.heap.size rfl 71 _ _ _ HT6.out Try.underlying71 rfl HIT.out ?_) | (refine wpList_load_row rfl 28 _ rfl waA.heap.size rfl 28 _ _ _ HQA6.out Try.underlying28 rfl HIA.out ?_))
  refine (HKA.out _ HSA6.out).mono ?_
  rintro e7 w7 ⟨v7, rfl, ho7, hB7⟩
  have z7 := hB7.size
  have HT7 := Lib.hid ((hB7.block w5.heap.size zT6).trans HT6.out)
  have HSA7 := Lib.hid (HSA6.out.below hB7)
  have HQA7 := Lib.hid ((hB7.block waA.heap.size (by omega)).trans HQA6.out)
  have HTA7 := Lib.hid ((hB7.block (waA.heap.size + 1) (by omega)).trans HTA6.out)
  have HG7 := Lib.hid ((hB7.block w.heap.size (by omega)).trans HG6.out)
  have HX7 := Lib.hid (HX6.out.trans (hB7.mono HX6.out.size))
  have HB7 := Lib.hid (HB6.out.trans (hB7.mono HB6.out.size))
  obtain ⟨c0, c1'⟩ := HGC.out _ HG7.out
  have hcase := HCASE.out
  obtain ⟨er, her⟩ : ∃ er, sa.er zone = er := ⟨_, rfl⟩
  obtain ⟨LA, hLA⟩ : ∃ L, Ck.secs (sa.fr zone) = L := ⟨_, rfl⟩
  rw [hLA] at ho7 hcase
  rw [her] at hcase ⊢
  obtain ⟨aA, cA, rfl, hrA, -, hcA, -, -⟩ := ho7.shape kinB
  have HO7 := Lib.hid ho7
  clear her hLA hB7 ho7
  rcases hcase with ⟨rfl, rfl, s1⟩ | ⟨rfl, rfl, s1, s2⟩ | ⟨rfl, hLA, hok, s1, s2⟩
  · clear c0 c1'
    go_wp2
    go_ret
    exact ⟨rfl, HB7.out⟩
  · go_wp2
    go_ret
    exact ⟨rfl, HB7.out⟩
  obtain ⟨FS, hFS⟩ : ∃ L, sa.frames zone = L := ⟨_, rfl⟩
  obtain ⟨m, hm⟩ : ∃ m, Sn.nParts g = m := ⟨_, rfl⟩
  have hlF : FS.length = m := by rw [← hFS, Sn.S.frames_length sa ((Geo.right_iff _).1 HHG.out).1, HAG.out, hm]
  have hlA : LA.length = m := by rw [hLA, Ck.secs, List.length_map, hFS, hlF]
  have hm64 : m ≤ 64 := by rw [← hm]; exact Sn.nParts_64 HGR.out
  have hm2 : 2 ≤ m := by rw [← hm]; exact (Sn.nParts_two ((Geo.right_iff _).1 HGR.out).1).1
  have HQF : Hid (∀ f ∈ FS, rightF f = true ∧ Body f.body) := Lib.hid (fun f hf => by rw [← hFS] at hf; have := Sn.frames_right HHG.out hok f hf; exact ⟨this.2.2, this.1⟩)
  have HPP : Hid (∀ r, Ck.parseS zone (LA ++ r) = some sa) := Lib.hid (fun r => by rw [hLA]; exact Ck.parse_secs HHG.out HHM.out hok r)
  have HPO : Hid (other ≠ zone → Ck.parseS other LA = none) := Lib.hid (fun ho => by have := Ck.parse_other HHG.out hok ho []; rw [List.append_nil] at this; rw [hLA]; exact this)
  have HLS : Hid (∀ (j : Nat) (f : Fr), FS[j]? = some f → LA[j]? = some (sectorOf f)) := Lib.hid (fun j f h => by rw [hLA, hFS, Ck.secs, List.getElem?_map, h]; rfl)
  rw [hFS] at HFF
  have HLF := Lib.hid hlF
  have HLA := Lib.hid hlA
  obtain ⟨x0, hx0⟩ : ∃ x, LA[0]? = some x := ⟨_, List.getElem?_eq_getElem (by rw [hlA]; omega)⟩
  obtain ⟨bA, oA, rfl, -, -, -⟩ := hrA.at hx0
  have HRA := Lib.hid hrA
  rw [hlA] at hcA ⊢
  clear hFS hm hlF hLA hlA hok hx0 hrA
  go_wp2_with (refine wpList_row_on (by rfl) 32 _ rfl (waA.heap.size + 1) rfl 32 _ _ _ HTA7.out Try.underlying32 rfl HJA.out ?_)
  refine (HFF.out _ HX7.out).mono ?_
  rintro e10 w10 ⟨v10, rfl, ho10, hB10⟩
  have z10 := hB10.size
  have HT10 := Lib.hid ((hB10.block w5.heap.size (by omega)).trans HT7.out)
  have HSA10 := Lib.hid (HSA7.out.below hB10)
  have HQA10 := Lib.hid ((hB10.block waA.heap.size (by omega)).trans HQA7.out)
  have HB10 := Lib.hid (HB7.out.trans (hB10.mono HB7.out.size))
  have HRA10 := Lib.hid (HRA.out.below hB10)
  obtain ⟨ad10, cp10, rfl, hrw10, -, -, -, -⟩ := ho10.shape kinF
  have HRW10 := Lib.hid hrw10
  rw [HLF.out]
  clear c0 c1' s1 s2 ho10 hB10 hrw10
  go_wp2
  go_loopw [89] (fun u wr => ∃ j : Nat, j ≤ m ∧ u = .int .i64 j ∧ Below w10.heap.size w10 wr) (fun u _ => m - (intOf u).toNat)
  case atStart => exact ⟨0, Nat.zero_le _, rfl, Below.refl _ _⟩
  case round =>
    obtain ⟨j, hj, rfl, hBr⟩ := hrel
    have zr := hBr.size
    have HBR := Lib.hid hBr
    clear hBr
    by_cases hjt : j < m
    · obtain ⟨f, hf⟩ : ∃ f, FS[j]? = some f := ⟨_, List.getElem?_eq_getElem (by rw [HLF.out]; exact hjt)⟩
      obtain ⟨hf1, hf2⟩ := HQF.out f (List.mem_of_getElem? hf)
      have hfa := HLS.out j f hf
      obtain ⟨bY, oY, rfl, -, -, -⟩ := HRW10.out.at hf
      have hsy : Sec (sectorOf f) := Frm.sec_of hf2
      have hgx := (HRW10.out.below HBR.out).range hf (by rw [FC_size, hf2.1])
      have hgy : ∀ W, Below wr.heap.size wr W → W.rangeAt bA (oA + j * 64) (byteCells (sectorOf f)).toList := fun W hW => ((HRA10.out.below HBR.out).below hW).range hfa (by rw [size_byteCells, hsy.1])
      have hi3 : (Try.prog.info? 65).map (·.size) = some (FC f).toList.length := by rw [FC_len hf2.1]; exact (zero_of_info Try.infoF3).2
      have hi3' : (Try.prog.info? 65).map (·.size) = some (FC f).size := by rw [FC_size, hf2.1]; exact (zero_of_info Try.infoF3).2
      have hocx := FC_one f
      have hzcx : (FC Fr.zero).size = (FC f).size := by rw [FC_size, FC_size, hf2.1]; rfl
      have hiy : (Try.prog.info? 77).map (·.size) = some (byteCells (sectorOf f)).toList.length := by rw [Array.length_toList]; exact size_sec hsy.1
      have hby := fun W => HRB.out f W hf2 hf1
      have heq := fun W => eq_arr64 (sectorOf f) hsy.1 hsy.2 W
      obtain ⟨XL, hXL⟩ : ∃ XL, (FC f).toList = XL := ⟨_, rfl⟩
      have hXC : FC f = XL.toArray := by rw [← hXL]
      obtain ⟨YL, hYL⟩ : ∃ YL, (byteCells (sectorOf f)).toList = YL := ⟨_, rfl⟩
      have hYC : byteCells (sectorOf f) = YL.toArray := by rw [← hYL]
      rw [hXL] at hgx hi3
      rw [hXC] at hi3' hocx hzcx hby
      rw [hYL] at hgy hiy
      rw [hYC] at hby heq
      have HGX := Lib.hid hgx
      have HGY := Lib.hid hgy
      have HI3 := Lib.hid hi3
      have HI3' := Lib.hid hi3'
      have HOCX := Lib.hid hocx
      have HZCX := Lib.hid hzcx
      have HIY := Lib.hid hiy
      have HBY := Lib.hid hby
      have HEQ := Lib.hid heq
      obtain ⟨W9, hW9⟩ : ∃ W9, wr.alloc (.cells XL.toArray 65) = W9 := ⟨_, rfl⟩
      have hb9 : Below wr.heap.size wr W9 := by rw [← hW9]; exact (Below.refl _ _).alloc (Nat.le_refl _) _
      have hF9 : W9.heap[wr.heap.size]? = some (.cells XL.toArray 65 (0, 0)) := by rw [← hW9]; exact heap_alloc_new wr _
      have zF9 : wr.heap.size < W9.heap.size := (Array.getElem?_eq_some_iff.1 hF9).1
      have HB9' := Lib.hid hb9
      have HF9 := Lib.hid hF9
      have HW9 := Lib.hid hW9
      clear hf hf1 hf2 hfa hsy hgx hgy hi3 hi3' hocx hzcx hiy hby heq hXL hXC hYL hYC hW9 hb9 hF9
      go_upto_region 16 with (first | (refine wpList_load_mid rfl 65 _ rfl bY (oY + j * 49) rfl XL _ HGX.out Try.underlying65 rfl HI3.out ?_) | (refine wpList_store_row rfl 65 _ _ rfl wr.heap.size XL.toArray rfl rfl 65 (FC Fr.zero) (heap_alloc_new wr _) HI3'.out HZCX.out HOCX.out ?_; rw [World.setRow_alloc_new]))
      rw [HW9.out, put_none]
      refine wp_region_conf2 6 [Fact.eq (.slice (some ⟨bA, oA, none⟩) m cA), Fact.eq (.int .i64 (j : Nat)), Fact.eq (.pointer (some ⟨bA, oA + j * 64, none⟩)), Fact.eq (.agg YL.toArray), Fact.eq (.agg XL.toArray), Fact.eq (.agg YL.toArray)] ?rbA (by kernel_rfl) (by kernel_rfl) ?rbhA ?rbho ?rbhend
      case rbhA =>
        intro vv
        simp only [putRules, Nat.reduceAdd]
        rfl
      case rbho =>
        refine ⟨?_, ?_, ?_, ?_, ?_, ?_, trivial⟩
        · intro vv W K hB hd HK
          simp only [confRules] at HK
          clear hd
          go_wp2
          refine HK.out _ _ (Below.refl _ _) ?_
          rfl
        · intro vv W K hB hd HK
          simp only [confRules] at HK
          clear hd
          go_wp2
          refine HK.out _ _ (Below.refl _ _) ?_
          rfl
        · intro vv W K hB hd HK
          simp only [confRules] at hd HK
          obtain ⟨h0, h1⟩ := hd
          simp only [h0, h1] at HK ⊢
          clear h0 h1
          go_wp2
          refine HK.out _ _ (Below.refl _ _) ?_
          rfl
        · intro vv W K hB hd HK
          simp only [confRules] at hd HK
          have h2 := hd
          clear hd
          simp only [h2] at HK ⊢
          clear h2
          have hT := HGY.out _ (HB9'.out.trans (hB.mono HB9'.out.size))
          go_wp2_with (refine wpList_load_mid rfl 77 _ rfl bA (oA + j * 64) rfl YL _ hT Try.underlying77 rfl HIY.out ?_)
          refine HK.out _ _ (Below.refl _ _) ?_
          rfl
        · intro vv W K hB hd HK
          simp only [confRules] at HK
          clear hd
          have hT := (hB.block wr.heap.size zF9).trans HF9.out
          go_wp2_with (refine wpList_row_on (by rfl) 65 _ rfl wr.heap.size rfl 65 _ _ _ hT Try.underlying65 rfl HI3'.out ?_)
          refine HK.out _ _ (Below.refl _ _) ?_
          rfl
        · intro vv W K hB hd HK
          simp only [confRules] at hd HK
          have h4 := hd
          clear hd
          simp only [h4] at HK ⊢
          clear h4
          go_wp2_with (refine (HBY.out _).mono ?_; rintro e w9 ⟨rfl, hB9⟩)
          refine HK.out _ _ hB9 ?_
          rfl
      case rbhend =>
        intro vv W hB hf
        have e3 := hf 3 (by decide)
        have e5 := hf 5 (by decide)
        simp only [endRules] at e3 e5
        simp only [e3, e5, dropRules]
        clear hf e3 e5
        have HBW := Lib.hid (HB9'.out.trans (hB.mono HB9'.out.size))
        clear hB
        go_wp2_with (refine wpList_neq_on (by rfl) 76 76 _ _ rfl YL.toArray YL.toArray rfl rfl (by kernel_rfl) true HEQ.out ?_)
        go_roundw
        case rel => exact ⟨j + 1, by omega, by go_num, HBR.out.trans (HBW.out.mono HBR.out.size)⟩
        case measure => simp [intOf]; omega
    · obtain rfl : j = m := by omega
      have HTr := Lib.hid ((HBR.out.block w5.heap.size (by omega)).trans HT10.out)
      have HSAr := Lib.hid (HSA10.out.below HBR.out)
      have HQAr := Lib.hid ((HBR.out.block waA.heap.size (by omega)).trans HQA10.out)
      have HBr := Lib.hid (HB10.out.trans (HBR.out.mono HB10.out.size))
      have HRAr := Lib.hid (HRA10.out.below HBR.out)
      have HI2r := Lib.hid (HI2.out.below HBr.out)
      obtain ⟨L5, hL5⟩ : ∃ L, LA ++ l2 = L := ⟨_, rfl⟩
      have hl5 : L5.length ≤ 1000 := by rw [← hL5, List.length_append, HLA.out, HNB.out]; have := HB60.out; omega
      have HPA : Hid (∀ W a c, RowOf W 64 byteCells Sec a L5 → Calls Try.prog 38 #[.agg TV, .int .i64 zone, .slice a L5.length c] W fun e w' => (∃ p le ll ce cl, e = .returned (.tuple #[.agg (SC sa p), .int .i64 0]) ∧ SnIs w' p le ll ce cl sa) ∧ Below W.heap.size W w') := Lib.hid (fun W a c h => by
        refine (HKP.out W zone a L5 c h hl5).mono ?_
        rintro e w' ⟨hB, ⟨s, p, le, ll, ce, cl, hs, he, hsn, -⟩ | ⟨hs, -⟩⟩
        · rw [← hL5, HPP.out] at hs
          cases hs
          exact ⟨⟨p, le, ll, ce, cl, he, hsn⟩, hB⟩
        · rw [← hL5, HPP.out] at hs
          cases hs)
      have HL5 := Lib.hid hL5
      clear hL5 hl5
      go_upto_region 19 with (fail)
      refine wp_region_conf10 13 [Fact.eq (.agg TV), Fact.eq (.int .i64 zone), Fact.rowI wr.heap.size #[] 0 77, Fact.eq (.slice (some ⟨bA, oA, none⟩) j cA), Fact.ownT wr.heap.size LA, Fact.eq (.slice a2 nb c2), Fact.ownT wr.heap.size L5, Fact.prs sa, Fact.prs sa, Fact.prs1 sa, Fact.eq (.int .i64 0), Fact.eq undef, Fact.eq undef] 11 12 6 9 [0, 1, 3, 5, 6, 7, 8, 9, 10, 11] [7, 8, 9] SZ 28 ?rcA (by kernel_rfl) (by kernel_rfl) (by kernel_rfl) (by kernel_rfl) (by kernel_rfl) (by kernel_rfl) ?rchp ?rchA ?rchs ?rcho ?rchend
      case rchp =>
        intro j' u W W' hj' hl' ha' hw' hi' hp
        match j', hj' with
        | 0, _ => exact hp
        | 1, _ => exact hp
        | 2, _ => exact absurd hl' (by decide)
        | 3, _ => exact hp
        | 4, _ => exact absurd hl' (by decide)
        | 5, _ => exact hp
        | 6, _ => exact absurd hw' (by decide)
        | 7, _ => exact absurd ha' (by decide)
        | 8, _ => exact absurd ha' (by decide)
        | 9, _ => exact absurd ha' (by decide)
        | 10, _ => exact hp
        | 11, _ => exact absurd hi' (by decide)
        | 12, _ => exact hp
      case rchA =>
        intro vv
        simp only [putRules, Nat.reduceAdd]
        rfl
      case rchs =>
        intro j' u W g C hj' hg hr hp
        match j', hj' with
        | 0, _ => exact hp
        | 1, _ => exact hp
        | 2, _ => obtain ⟨g3, e3, b3, r3⟩ := hp; exact ⟨g3, e3, b3, (only_setRow W g C).get r3 (by have := blk_ne r3 hr (by decide); simpa using this)⟩
        | 3, _ => exact hp
        | 4, _ => obtain ⟨a5, c5, e5, o5⟩ := hp; exact ⟨a5, c5, e5, o5.only (only_setRow W g C) (fun k hk => by obtain ⟨-, C', hC⟩ := o5.base_le hk; have := blk_ne hC hr (by decide); simpa using this)⟩
        | 5, _ => exact hp
        | 6, _ => obtain ⟨a5, c5, e5, o5⟩ := hp; exact ⟨a5, c5, e5, o5.only (only_setRow W g C) (fun k hk => by obtain ⟨-, C', hC⟩ := o5.base_le hk; have := blk_ne hC hr (by decide); simpa using this)⟩
        | 7, _ => obtain ⟨p', le', ll', ce', cl', e5, o5⟩ := hp; exact ⟨p', le', ll', ce', cl', e5, SnIs.setRow o5 hr⟩
        | 8, _ => obtain ⟨p', le', ll', ce', cl', e5, o5⟩ := hp; exact ⟨p', le', ll', ce', cl', e5, SnIs.setRow o5 hr⟩
        | 9, _ => obtain ⟨p', le', ll', ce', cl', e5, o5⟩ := hp; exact ⟨p', le', ll', ce', cl', e5, SnIs.setRow o5 hr⟩
        | 10, _ => exact hp
        | 11, _ => exact hp
        | 12, _ => exact hp
      case rcho =>
        refine ⟨?_, ?_, ?_, ?_, ?_, ?_, ?_, ?_, ?_, ?_, ?_, ?_, ?_, trivial⟩
        · intro vv W K hB hd HK
          simp only [conf8Rules] at HK
          clear hd
          have hT := (hB.block w5.heap.size (by omega)).trans HTr.out
          go_wp2_with (refine wpList_load_row rfl 71 _ rfl w5.heap.size rfl 71 _ _ _ hT Try.underlying71 rfl HIT.out ?_)
          refine HK.out _ _ (Below.refl _ _) ?_
          rfl
        · intro vv W K hB hd HK
          simp only [conf8Rules] at HK
          clear hd
          go_wp2
          refine HK.out _ _ (Below.refl _ _) ?_
          rfl
        · intro vv W K hB hd HK
          simp only [conf8Rules] at HK
          clear hd
          go_wp2
          refine HK.out _ _ ((Below.refl _ _).alloc (Nat.le_refl _) _) ?_
          exact ⟨_, rfl, hB.size, heap_alloc_new _ _⟩
        · intro vv W K hB hd HK
          simp only [conf8Rules] at HK
          clear hd
          go_wp2
          refine HK.out _ _ (Below.refl _ _) ?_
          rfl
        · intro vv W K hB hd HK
          simp only [confRules, conf8Rules, cond7] at hd HK
          obtain ⟨⟨g2, h2, b2, r2⟩, h3⟩ := hd
          simp only [h2, h3] at HK ⊢
          clear h2 h3
          have hr1 : RowOf W 64 byteCells Sec (some ⟨g2, 0, none⟩) [] := .inl rfl
          have hr2 := HRAr.out.below hB
          go_wp2_with (at_builtin; refine wpList_appendG rfl (.tmp 105) (.tmp 106) 73 rfl 77 64 byteCells Sec kinB (by decide) (.agg (byteCells (List.replicate 64 0))) 64 Try.underlying73 HIS3.out rfl g2 0 [] rfl hr1 ⟨bA, oA, none⟩ cA LA (by rw [HLA.out]; rfl) hr2 (by rw [HLA.out]; simp; omega) (by rw [HLA.out]; unfold maxLen; simp; omega) (by rw [HLA.out]; simp; omega) ?_; intro v5 w5' hv5 hB5')
          rw [List.nil_append] at hv5
          obtain ⟨a5, c5, e5, -, -, -, -, -⟩ := hv5.shape kinB
          subst e5
          refine HK.out _ _ hB5' ?_
          exact ⟨a5, c5, rfl, hv5.mono hB.size⟩
        · intro vv W K hB hd HK
          simp only [conf8Rules] at HK
          clear hd
          go_wp2
          refine HK.out _ _ (Below.refl _ _) ?_
          rfl
        · intro vv W K hB hd HK
          simp only [confRules, conf8Rules, cond7] at hd HK
          obtain ⟨⟨a4, c4, h4, o4⟩, h5, _⟩ := hd
          simp only [h4, h5] at HK ⊢
          clear h4 h5
          have hr2 := HI2r.out.below hB
          have hbs := hB.size
          have h60 := HB60.out
          go_wp2_with (at_builtin; refine wpList_appendM rfl (.tmp 107) (.tmp 108) 73 rfl 77 64 byteCells Sec kinB (by decide) (.agg (byteCells (List.replicate 64 0))) 64 Try.underlying73 HIS3.out rfl wr.heap.size _ LA rfl o4 a2 c2 l2 (by rw [HNB.out]; rfl) hr2 HN2.out (by rw [HLA.out, HNB.out]; unfold maxLen; omega) (by rw [HLA.out, HNB.out]; omega) hbs ?_; intro v6 w6' hv6 hg6 _)
          rw [HL5.out] at hv6
          obtain ⟨a5, c5, e5, -, -, -, -, -⟩ := hv6.shape kinB
          subst e5
          refine HK.out _ _ (o4.grown hg6 hbs) (fun q C hq => ?_) ?_
          · exact (hg6.block q (Array.getElem?_eq_some_iff.1 hq).1 (fun e => by obtain ⟨-, C', hC⟩ := o4.base_le e.symm; exact absurd rfl (blk_ne hC hq (by decide)))).trans hq
          · exact ⟨a5, c5, rfl, hv6⟩
        · intro vv W K hB hd HK
          simp only [confRules, conf8Rules, cond7] at hd HK
          obtain ⟨h0, h1, ⟨a6, c6, h6, o6⟩, _⟩ := hd
          simp only [h0, h1, h6] at HK ⊢
          clear h0 h1 h6
          go_wp2_with (refine (HPA.out _ _ _ (by obtain ⟨a7, c7, e7, hr7, -⟩ := o6.shape kinB; cases e7; exact hr7)).mono ?_; rintro e w9 ⟨⟨p', le', ll', ce', cl', rfl, hsn⟩, hB9⟩)
          refine HK.out _ _ hB9 ?_
          exact ⟨p', le', ll', ce', cl', rfl, hsn⟩
        · intro vv W K hB hd HK
          simp only [confRules, conf8Rules, cond7] at hd HK
          obtain ⟨p7, le7, ll7, ce7, cl7, h7, s7⟩ := hd
          simp only [h7] at HK ⊢
          clear h7
          go_wp2
          refine HK.out _ _ (Below.refl _ _) ?_
          exact ⟨p7, le7, ll7, ce7, cl7, rfl, s7⟩
        · intro vv W K hB hd HK
          simp only [confRules, conf8Rules, cond7] at hd HK
          obtain ⟨p8, le8, ll8, ce8, cl8, h8, s8⟩ := hd
          simp only [h8] at HK ⊢
          clear h8
          go_wp2
          refine HK.out _ _ (Below.refl _ _) ?_
          exact ⟨p8, le8, ll8, ce8, cl8, rfl, s8⟩
        · intro vv W K hB hd HK
          simp only [confRules, conf8Rules, cond7] at hd HK
          obtain ⟨p8, le8, ll8, ce8, cl8, h8, s8⟩ := hd
          simp only [h8] at HK ⊢
          clear h8
          go_wp2
          refine HK.out _ _ (Below.refl _ _) ?_
          rfl
        · intro vv W K hB hd HK
          simp only [] at HK
          clear hd
          go_wp2
          refine HK.out _ _ hB.size ((Below.refl _ _).alloc (Nat.le_refl _) _) (heap_alloc_new _ _)
        · intro vv W K g hB hg hr hp hd HK
          simp only [confRules, conf8Rules, cond7, conf10Rules] at hd HK
          obtain ⟨⟨p9, le9, ll9, ce9, cl9, h9, s9⟩, ⟨p7, le7, ll7, ce7, cl7, h7, s7⟩, h0, h1, h3, h5, ⟨a6, c6, h6, o6⟩, _, ⟨p8, le8, ll8, ce8, cl8, h8, s8⟩, _⟩ := hd
          simp only [hp, h9, h7, h0, h1, h3, h5, h6, h8] at HK ⊢
          clear h9 h7 h0 h1 h3 h5 h6 h8
          have hXI := Lib.hid (snSize sa p9)
          have hXO : Hid ((SC sa p9).all (·.oneCell') = true) := Lib.hid (by simp [SC, SnC, Value.oneCell'])
          go_wp2_with (refine wpList_store_row rfl 28 _ _ rfl g (SC sa p9) rfl rfl 28 SZ hr hXI.out rfl hXO.out ?_)
          refine HK.out _ _ ?_ ?_
          · first | rfl | (simp only [rowV, h9x])
          · rfl
      case rchend =>
        intro vv W g11 hB hf e11 l11 r11
        have e9 := hf 9 (by decide) (by decide) (by decide)
        simp only [conf8Rules] at e9
        obtain ⟨p9, le9, ll9, ce9, cl9, h9, s9⟩ := e9
        have e10 := hf 10 (by decide) (by decide) (by decide)
        simp only [conf8Rules] at e10
        rw [h9] at r11
        simp only [h9, e10, e11, dropRules]
        clear hf e11
        have HY : Hid (W.heap[g11]? = some (.cells (SC sa p9) 28 (0, 0))) := Lib.hid r11
        have zY : g11 < W.heap.size := (Array.getElem?_eq_some_iff.1 HY.out).1
        have HSY := Lib.hid s9
        have zW := hB.size
        have HTW := Lib.hid ((hB.block w5.heap.size (by omega)).trans HTr.out)
        have HQAW := Lib.hid ((hB.block waA.heap.size (by omega)).trans HQAr.out)
        have HSAW := Lib.hid (HSAr.out.below hB)
        have HRAW := Lib.hid (HRAr.out.below hB)
        have HBW := Lib.hid (HBr.out.trans (hB.mono HBr.out.size))
        have HYI : Hid ((Try.prog.info? 28).map (·.size) = some (SC sa p9).size) := Lib.hid (snSize sa p9)
        clear hB r11 s9 h9
        go_wp2_with (refine wpList_load_row rfl 71 _ rfl w5.heap.size rfl 71 _ _ _ HTW.out Try.underlying71 rfl HIT.out ?_)
        by_cases ho : other = zone
        · have HPB : Hid (Calls Try.prog 38 #[.agg TV, .int .i64 other, .slice (some ⟨bA, oA, none⟩) j cA] W fun e w' => (∃ p le ll ce cl, e = .returned (.tuple #[.agg (SC sa p), .int .i64 0]) ∧ SnIs w' p le ll ce cl sa) ∧ Below W.heap.size W w') := Lib.hid (by
            have h1 := HKP.out W zone (some ⟨bA, oA, none⟩) LA cA HRAW.out (by rw [HLA.out]; omega)
            rw [HLA.out, ← ho] at h1
            refine h1.mono ?_
            have h2 := HPP.out []
            rw [List.append_nil, ← ho] at h2
            rintro e w' ⟨hB, ⟨s, p, le, ll, ce, cl, hs, he, hsn, -⟩ | ⟨hs, -⟩⟩
            · rw [h2] at hs
              cases hs
              exact ⟨⟨p, le, ll, ce, cl, he, hsn⟩, hB⟩
            · rw [h2] at hs
              cases hs)
          have t1 : (other == zone) = true := by simp [ho]
          clear ho
          refine HPB.out.mono ?_
          rintro e20 w20 ⟨⟨p', le', ll', ce', cl', rfl, -⟩, hB20⟩
          have z20 := hB20.size
          have HXI := Lib.hid (snSize sa p')
          have HXO : Hid ((SC sa p').all (·.oneCell') = true) := Lib.hid (by simp [SC, SnC, Value.oneCell'])
          have HXZ : Hid (SZ.size = (SC sa p').size) := Lib.hid rfl
          obtain ⟨W21, hW21⟩ : ∃ W', w20.alloc (.cells (SC sa p') 28) = W' := ⟨_, rfl⟩
          have hb21 : Below w20.heap.size w20 W21 := by rw [← hW21]; exact (Below.refl _ _).alloc (Nat.le_refl _) _
          have hb := hB20.trans (hb21.mono z20)
          have HY21 := Lib.hid ((hb.block g11 zY).trans HY.out)
          have HQA21 := Lib.hid ((hb.block waA.heap.size (by omega)).trans HQAW.out)
          have HSA21 := Lib.hid (HSAW.out.below hb)
          have HSY21 := Lib.hid (HSY.out.below hb)
          have HB21 := Lib.hid (HBW.out.trans (hb.mono HBW.out.size))
          have HW21 := Lib.hid hW21
          clear hB20 hW21 hb21 hb
          go_upto_region 21 with (refine wpList_store_row rfl 28 _ _ rfl w20.heap.size (SC sa p') rfl rfl 28 SZ (heap_alloc_new w20 _) HXI.out HXZ.out HXO.out ?_; rw [World.setRow_alloc_new])
          rw [HW21.out]
          go_wp2_with (first | (refine wpList_row_on (by rfl) 28 _ rfl g11 rfl 28 _ _ _ HY21.out Try.underlying28 rfl HYI.out ?_) | (refine wpList_row_on (by rfl) 28 _ rfl waA.heap.size rfl 28 _ _ _ HQA21.out Try.underlying28 rfl HIA.out ?_))
          refine (HSM.out _ _ _ _ _ _ HSA21.out HSY21.out).mono ?_
          rintro e22 w22 ⟨rfl, hB22⟩
          have HB22 := Lib.hid (HB21.out.trans (hB22.mono HB21.out.size))
          clear hB22
          go_wp2
          go_ret
          exact ⟨rfl, HB22.out⟩
        · have HPB : Hid (Calls Try.prog 38 #[.agg TV, .int .i64 other, .slice (some ⟨bA, oA, none⟩) j cA] W fun e w' => e = .returned (.tuple #[.agg SZ, .int .i64 10]) ∧ Below W.heap.size W w') := Lib.hid (by
            have h1 := HKP.out W other (some ⟨bA, oA, none⟩) LA cA HRAW.out (by rw [HLA.out]; omega)
            rw [HLA.out] at h1
            refine h1.mono ?_
            rintro e w' ⟨hB, ⟨s, p, le, ll, ce, cl, hs, -⟩ | ⟨-, he⟩⟩
            · rw [HPO.out ho] at hs
              cases hs
            · exact ⟨he, hB⟩)
          have t1 : (other == zone) = false := by simp [ho]
          clear ho
          refine HPB.out.mono ?_
          rintro e20 w20 ⟨rfl, hB20⟩
          have z20 := hB20.size
          obtain ⟨W21, hW21⟩ : ∃ W', w20.alloc (.cells SZ 28) = W' := ⟨_, rfl⟩
          have hb21 : Below w20.heap.size w20 W21 := by rw [← hW21]; exact (Below.refl _ _).alloc (Nat.le_refl _) _
          have hb := hB20.trans (hb21.mono z20)
          have HY21 := Lib.hid ((hb.block g11 zY).trans HY.out)
          have HQA21 := Lib.hid ((hb.block waA.heap.size (by omega)).trans HQAW.out)
          have HSA21 := Lib.hid (HSAW.out.below hb)
          have HSY21 := Lib.hid (HSY.out.below hb)
          have HB21 := Lib.hid (HBW.out.trans (hb.mono HBW.out.size))
          have HW21 := Lib.hid hW21
          clear hB20 hW21 hb21 hb
          go_upto_region 21 with (refine wpList_store_row rfl 28 _ _ rfl w20.heap.size SZ rfl rfl 28 SZ (heap_alloc_new w20 _) hSZI.out rfl hSZO.out ?_; rw [World.setRow_alloc_new])
          rw [HW21.out]
          go_wp2_with (first | (refine wpList_row_on (by rfl) 28 _ rfl g11 rfl 28 _ _ _ HY21.out Try.underlying28 rfl HYI.out ?_) | (refine wpList_row_on (by rfl) 28 _ rfl waA.heap.size rfl 28 _ _ _ HQA21.out Try.underlying28 rfl HIA.out ?_))
          refine (HSM.out _ _ _ _ _ _ HSA21.out HSY21.out).mono ?_
          rintro e22 w22 ⟨rfl, hB22⟩
          have HB22 := Lib.hid (HB21.out.trans (hB22.mono HB21.out.size))
          clear hB22
          go_wp2
          go_ret
          exact ⟨rfl, HB22.out⟩
end Go.Proofs.Ytjnneoejnpephaa
namespace Go.Proofs.Ytjnneoejnpephaa
open Go.RowKit Go.Rv Frm
set_option maxRecDepth 100000 in
theorem secs_of_fits {w : World} {a : Option Addr} {len cap : Nat} (h : Fits Try.prog w 6 73 [.slice a len cap]) : ∃ xs : List (List Nat), xs.length = len ∧ RowOf w 64 byteCells Sec a xs ∧ len ≤ cap ∧ cap ≤ 9223372036854775807 ∧ (a = none → cap = 0) :=
  rowOf_of_fits (d := 5) 64 byteCells Sec Try.underlying73 (by kernel_rfl) (by omega) (fun cs _ hf => by
    obtain ⟨l, hl, hb, hc⟩ := arr_of_fits (d := 3) Try.underlying77 Try.underlying5 (by kernel_rfl) (by kernel_rfl) hf
    exact ⟨l, hc, hl, hb⟩) h
end Go.Proofs.Ytjnneoejnpephaa
