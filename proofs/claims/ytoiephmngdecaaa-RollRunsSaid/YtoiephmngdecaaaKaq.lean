/- Proved here: A law over any program: a region that draws its order, in which a few operations, each behind the one before it, turn some blocks stage by stage, one makes a block, and one stores a row into it, in an open order; A law over any program: a region that draws its order, in which one operation makes a block, one stores a row into it, in an open order, and the others turn nothing: with facts of all other slots; the library's sort of a slice of ints of the call's own, in the words of rows that are owned; the library's Compact of a slice of ints of the call's own, in the words of rows that are owned. -/
import Derived.Laws.Tables
import Derived.Test.YtoiephmngdecaaaSrtLay
import Derived.Sort.OwnSortedInts
import Derived.Test.YtoiephmngdecaaaCmpLay
import Derived.Test.YtoiephmngdecaaaKal
import Derived.Test.YtoiephmngdecaaaKap
namespace Go.Rv
open Go.RowKit
set_option linter.unusedVariables false
/-- the edges' facts, but for those to the operation that makes the block -/
def Deps7 (ia : Nat) (V : List Value) (v : Nat → Value) : List Edge → Prop
  | [] => True
  | e :: r => (Region.binds .any e = true → cond (e.on == ia) True (v e.on = V.getD e.on undef)) ∧ Deps7 ia V v r
def Obl7 (P : Program) (ops : Array Oper) (Q : Exit → Act → World → Prop) (A : (Nat → Value) → Act) (V : List Value) (ms lo : List Nat) (I : Nat → World → Prop) (S : List Nat) (B ia is : Nat) (Z X : Array Value) (t : TypeId) (i : Nat) (o : Oper) : Prop :=
  cond (i == ia) (∀ (v : Nat → Value) (w : World) (K : Act → World → Prop) (s : Nat), I s w → Deps7 ia V v o.after.toList →
      Hid (∀ g w', B ≤ g → Below w.heap.size w w' → w'.heap[g]? = some (.cells Z t (0, 0)) → K ((A v).put o.dst (.pointer (some ⟨g, 0, none⟩))) w') → wpList P ops (Exit.then K Q) [o] (A v) w)
    (cond (i == is) (∀ (v : Nat → Value) (w : World) (K : Act → World → Prop) (s g : Nat), lo.getD i 0 ≤ s → I s w → B ≤ g → w.heap[g]? = some (.cells Z t (0, 0)) → v ia = .pointer (some ⟨g, 0, none⟩) → Deps7 ia V v o.after.toList →
      Hid (∀ u w', w' = w.setRow g X → u = V.getD i undef → K ((A v).put o.dst u) w') → wpList P ops (Exit.then K Q) [o] (A v) w)
    (match ms.idxOf? i with
    | none => ∀ (v : Nat → Value) (w : World) (K : Act → World → Prop) (s : Nat), lo.getD i 0 ≤ s → I s w → Deps7 ia V v o.after.toList →
        Hid (∀ u w', Below w.heap.size w w' → u = V.getD i undef → K ((A v).put o.dst u) w') → wpList P ops (Exit.then K Q) [o] (A v) w
    | some k => ∀ (v : Nat → Value) (w : World) (K : Act → World → Prop), I k w → Deps7 ia V v o.after.toList →
        Hid (∀ u w', I (k + 1) w' → Only S w w' → u = V.getD i undef → K ((A v).put o.dst u) w') → wpList P ops (Exit.then K Q) [o] (A v) w))
def Obls7 (P : Program) (ops : Array Oper) (Q : Exit → Act → World → Prop) (A : (Nat → Value) → Act) (V : List Value) (ms lo : List Nat) (I : Nat → World → Prop) (S : List Nat) (B ia is : Nat) (Z X : Array Value) (t : TypeId) : Nat → List Oper → Prop
  | _, [] => True
  | i, o :: r => Obl7 P ops Q A V ms lo I S B ia is Z X t i o ∧ Obls7 P ops Q A V ms lo I S B ia is Z X t (i + 1) r
theorem Obls7.at {P : Program} {ops : Array Oper} {Q : Exit → Act → World → Prop} {A : (Nat → Value) → Act} {V : List Value} {ms lo : List Nat} {I : Nat → World → Prop} {S : List Nat} {B ia is : Nat} {Z X : Array Value} {t : TypeId} : ∀ {k : Nat} {l : List Oper}, Obls7 P ops Q A V ms lo I S B ia is Z X t k l → ∀ {i : Nat} {o : Oper}, l[i]? = some o → Obl7 P ops Q A V ms lo I S B ia is Z X t (k + i) o
  | _, [], _, _, _, h => by simp at h
  | k, _ :: r, h, 0, _, ho => by simp at ho; subst ho; exact h.1
  | k, _ :: r, h, i + 1, _, ho => by
    have := Obls7.at h.2 (i := i) (by simpa using ho)
    rwa [show k + 1 + i = k + (i + 1) by omega] at this
/-- the storing operation waits for the one that makes the block; neither is a stage -/
def storeOk (ops : Array Oper) (ms : List Nat) (n ia is : Nat) : Bool :=
  decide (ia < n) && decide (is < n) && !(ia == is) && !ms.contains ia && !ms.contains is && (match ops[is]? with | some o => o.after.any fun e => Region.binds .any e && e.on == ia | none => false)
theorem cond7 : (∀ n : Nat, (n == n) = true) ∧ (∀ (p q : Prop), (cond true p q) = p) ∧ (∀ (p q : Prop), (cond false p q) = q) ∧ (∀ n : Nat, (n + 1 == 0) = false) ∧ (∀ n : Nat, (0 == n + 1) = false) ∧ (∀ n m : Nat, (n + 1 == m + 1) = (n == m)) ∧
    (∀ n x, Region.binds .any { on := n, ground := .gcOnly x } = false) ∧ (∀ n x, Region.binds .any { on := n, ground := .textOnly x } = false) ∧ (∀ p : Prop, (false = true → p) = True) ∧ (∀ p : Prop, (True ∧ p) = p) ∧ (∀ p : Prop, (p → True) = True) :=
  ⟨fun n => by simp, fun _ _ => rfl, fun _ _ => rfl, fun n => by simp, fun n => by simp, fun n m => by simp, fun _ _ => rfl, fun _ _ => rfl, fun p => by simp, fun p => by simp, fun p => by simp⟩
end Go.Rv
namespace Go.Rv
open Go.RowKit
set_option linter.unusedVariables false
def fp8 (F : List Fact) (j : Nat) (u : Value) (w : World) : Prop := (F.getD j Fact.any).p u w
def Deps8 (ia : Nat) (F : List Fact) (v : Nat → Value) (w : World) : List Edge → Prop
  | [] => True
  | e :: r => (Region.binds .any e = true → cond (e.on == ia) True (fp8 F e.on (v e.on) w)) ∧ Deps8 ia F v w r
def Obl8 (P : Program) (ops : Array Oper) (Q : Exit → Act → World → Prop) (A : (Nat → Value) → Act) (w0 : World) (F : List Fact) (ia is : Nat) (Z X : Array Value) (t : TypeId) (i : Nat) (o : Oper) : Prop :=
  cond (i == ia) (∀ (v : Nat → Value) (w : World) (K : Act → World → Prop), Below w0.heap.size w0 w → Deps8 ia F v w o.after.toList →
      Hid (∀ g w', w0.heap.size ≤ g → Below w.heap.size w w' → w'.heap[g]? = some (.cells Z t (0, 0)) → K ((A v).put o.dst (.pointer (some ⟨g, 0, none⟩))) w') → wpList P ops (Exit.then K Q) [o] (A v) w)
    (cond (i == is) (∀ (v : Nat → Value) (w : World) (K : Act → World → Prop) (g : Nat), Below w0.heap.size w0 w → w0.heap.size ≤ g → w.heap[g]? = some (.cells Z t (0, 0)) → v ia = .pointer (some ⟨g, 0, none⟩) → Deps8 ia F v w o.after.toList →
      Hid (∀ u w', w' = w.setRow g X → fp8 F i u w' → K ((A v).put o.dst u) w') → wpList P ops (Exit.then K Q) [o] (A v) w)
    (∀ (v : Nat → Value) (w : World) (K : Act → World → Prop), Below w0.heap.size w0 w → Deps8 ia F v w o.after.toList →
        Hid (∀ u w', Below w.heap.size w w' → fp8 F i u w' → K ((A v).put o.dst u) w') → wpList P ops (Exit.then K Q) [o] (A v) w))
def Obls8 (P : Program) (ops : Array Oper) (Q : Exit → Act → World → Prop) (A : (Nat → Value) → Act) (w0 : World) (F : List Fact) (ia is : Nat) (Z X : Array Value) (t : TypeId) : Nat → List Oper → Prop
  | _, [] => True
  | i, o :: r => Obl8 P ops Q A w0 F ia is Z X t i o ∧ Obls8 P ops Q A w0 F ia is Z X t (i + 1) r
theorem Obls8.at {P : Program} {ops : Array Oper} {Q : Exit → Act → World → Prop} {A : (Nat → Value) → Act} {w0 : World} {F : List Fact} {ia is : Nat} {Z X : Array Value} {t : TypeId} : ∀ {k : Nat} {l : List Oper}, Obls8 P ops Q A w0 F ia is Z X t k l → ∀ {i : Nat} {o : Oper}, l[i]? = some o → Obl8 P ops Q A w0 F ia is Z X t (k + i) o
  | _, [], _, _, _, h => by simp at h
  | k, _ :: r, h, 0, _, ho => by simp at ho; subst ho; exact h.1
  | k, _ :: r, h, i + 1, _, ho => by
    have := Obls8.at h.2 (i := i) (by simpa using ho)
    rwa [show k + 1 + i = k + (i + 1) by omega] at this
theorem wp_region_conf8 {P : Program} {ops : Array Oper} {Q : Exit → Act → World → Prop} {a0 : Act} {w0 : World} {id : Nat} (n : Nat) (F : List Fact) (ia is : Nat) (Z X : Array Value) (t : TypeId) (A : (Nat → Value) → Act) (hm : P.follows .mixedOrders = true) (hok : confOk ops n = true) (hso : storeOk ops [] n ia is = true)
    (hA : ∀ v, putAll v 0 (ops.toList.take n) a0 = A v) (hFs : ∀ j u w g, j < n → w0.heap.size ≤ g → w.heap[g]? = some (.cells Z t (0, 0)) → fp8 F j u w → fp8 F j u (w.setRow g X)) (ho : Obls8 P ops Q A w0 F ia is Z X t 0 (ops.toList.take n))
    (hend : ∀ v w g, Below w0.heap.size w0 w → (∀ j, j < n → (j == ia) = false → fp8 F j (v j) w) → v ia = .pointer (some ⟨g, 0, none⟩) → w0.heap.size ≤ g → w.heap[g]? = some (.cells X t (0, 0)) → wpList P ops Q (ops.toList.drop n) (A v) w) : (Code.region id ops true).wp P Q a0 w0 := by
  simp only [storeOk, Bool.and_eq_true, decide_eq_true_eq, Bool.not_eq_true', beq_eq_false_iff_ne] at hso; obtain ⟨⟨⟨⟨⟨hia, his⟩, hne⟩, -⟩, -⟩, hsd⟩ := hso; refine wp_region_conf3 n (fun L v w => (∀ j, j < n → j ≠ ia → L.getD j false = true → fp8 F j (v j) w) ∧ Below w0.heap.size w0 w ∧ (L.getD is false = true → L.getD ia false = true) ∧ (L.getD ia false = true → ∃ g, v ia = .pointer (some ⟨g, 0, none⟩) ∧ w0.heap.size ≤ g ∧ w.heap[g]? = some (.cells (cond (L.getD is false) X Z) t (0, 0)))) A hm hok hA ?_ ?_ ?_
  · intro i o hin hoi L v w K hui hdep ⟨hv, hBw, hsa, hrow⟩ HK
    have hilt : i < L.size := by
      rcases Nat.lt_or_ge i L.size with h | h
      · exact h
      · simp [Array.getElem?_eq_none h] at hui
    have hif : L.getD i false = false := by simp [hilt] at hui ⊢; exact hui
    have hit : (L.setIfInBounds i true).getD i false = true := by simp [hilt]
    have hbk : edgesBack 0 ops.toList = true := by
      simp only [confOk, Bool.and_eq_true] at hok; exact hok.1.1.1.1.2
    have hdv : ∀ l : List Edge, (∀ e ∈ l, e ∈ o.after) → Deps8 ia F v w l := by
      intro l
      induction l with
      | nil => intro _; exact trivial
      | cons e r ihl =>
        intro hl; refine ⟨fun hb => ?_, ihl fun x hx => hl x (by simp [hx])⟩; cases hea : e.on == ia
        · have := edgesBack_spec hbk (i := i) (o := o) (by simpa using hoi) e (hl e (by simp)) hb; exact hv e.on (by omega) (by simpa using hea) (hdep e (hl e (by simp)) hb)
        · trivial
    have hdv := hdv o.after.toList (fun e he => by simpa using he); have ob := ho.at (i := i) (o := o) (by simp [hin, hoi]); rw [Nat.zero_add] at ob
    have hv' : ∀ u w', (∀ j, j < n → fp8 F j (v j) w → fp8 F j (v j) w') → (i ≠ ia → fp8 F i u w') → ∀ j, j < n → j ≠ ia → (L.setIfInBounds i true).getD j false = true → fp8 F j (upd v i u j) w' := fun u w' hkeep hu j hj hja hl => by
      by_cases hji : j = i
      · subst hji; rw [show upd v j u j = u by simp [upd]]; exact hu hja
      · rw [show upd v i u j = v j by simp [upd, hji]]; rw [getD_set_ne false (Ne.symm hji)] at hl; exact hkeep j hj (hv j hj hja hl)
    have hbel : ∀ w', Below w.heap.size w w' → ∀ j, j < n → fp8 F j (v j) w → fp8 F j (v j) w' := fun w' hB j _ h => (F.getD j Fact.any).st _ _ _ h hB; unfold Obl8 at ob; cases hia' : i == ia
    · rw [hia'] at ob; have hia2 : i ≠ ia := by simpa using hia'
      cases his' : i == is
      · rw [his'] at ob; have his2 : i ≠ is := by simpa using his'
        simp only [cond_false] at ob; refine ob v w K hBw hdv (Lib.hid fun u w' hB hu => HK.out u w' ⟨hv' u w' (hbel w' hB) (fun _ => hu), hBw.trans (hB.mono hBw.size), ?_, ?_⟩)
        · rw [getD_set_ne false his2, getD_set_ne false hia2]; exact hsa
        · rw [getD_set_ne false his2, getD_set_ne false hia2]; intro h; obtain ⟨g, h1, h2, h3⟩ := hrow h; exact ⟨g, by rw [show upd v i u ia = v ia by simp [upd, Ne.symm hia2]]; exact h1, h2, (hB.block g (Array.getElem?_eq_some_iff.1 h3).1).trans h3⟩
      · rw [his'] at ob; have his2 : i = is := by simpa using his'
        subst his2; simp only [cond_false, cond_true] at ob
        have hLa : L.getD ia false = true := by
          rw [hoi] at hsd; obtain ⟨e, he, h3⟩ := Array.any_eq_true.1 hsd; rw [Bool.and_eq_true, beq_iff_eq] at h3; have := hdep _ (Array.getElem_mem he) h3.1
          rwa [h3.2] at this
        obtain ⟨g, h1, h2, h3⟩ := hrow hLa; rw [hif] at h3; refine ob v w K g hBw h2 h3 h1 hdv (Lib.hid fun u w' hw hu => ?_); subst hw; refine HK.out u _ ⟨hv' u _ (fun j hj h => hFs j _ w g hj h2 h3 h) (fun _ => hu), below_setRow hBw h2 _, ?_, ?_⟩
        · intro _; rw [getD_set_ne false hia2]; exact hLa
        · intro _; rw [hit]; exact ⟨g, by rw [show upd v i u ia = v ia by simp [upd, Ne.symm hia2]]; exact h1, h2, setRow_heap w g Z X t _ h3⟩
    · rw [hia'] at ob; have hia2 : i = ia := by simpa using hia'
      subst hia2; simp only [cond_true] at ob
      have hLs : L.getD is false = false := by
        cases h : L.getD is false
        · rfl
        · have := hsa h; rw [hif] at this; cases this
      refine ob v w K hBw hdv (Lib.hid fun g w' hg hB hr => ?_); refine HK.out _ w' ⟨hv' _ w' (hbel w' hB) (fun h => absurd rfl h), hBw.trans (hB.mono hBw.size), ?_, ?_⟩
      · rw [getD_set_ne false hne, hLs]; intro h; cases h
      · intro _; rw [getD_set_ne false hne, hLs]; exact ⟨g, by simp [upd], hg, hr⟩
  · intro v; exact ⟨fun j hj _ hl => (by rw [getD_replicate_false] at hl; cases hl), (Below.refl _ _).drew, fun hl => (by rw [getD_replicate_false] at hl; cases hl), fun hl => (by rw [getD_replicate_false] at hl; cases hl)⟩
  · intro v w ⟨hv, hBw, hsa, hrow⟩
    have hall : ∀ j, j < n → (headListed n (ops.size - n)).getD j false = true := fun j hj => by
      simp only [headListed]; rw [Array.getD_eq_getD_getElem?, List.getElem?_toArray, List.getElem?_append_left (by simpa using hj)]; simp [hj]
    obtain ⟨g, h1, h2, h3⟩ := hrow (hall ia hia); rw [hall is his] at h3; exact hend v w g hBw (fun j hj hja => hv j hj (by simpa using hja) (hall j hj)) h1 h2 h3
theorem conf8Rules : (∀ (ia : Nat) (F : List Fact) (v : Nat → Value) (w : World), Deps8 ia F v w [] = True) ∧ (∀ (ia : Nat) (F : List Fact) (v : Nat → Value) (w : World) (e : Edge) (r : List Edge), Deps8 ia F v w (e :: r) = ((Region.binds .any e = true → cond (e.on == ia) True (fp8 F e.on (v e.on) w)) ∧ Deps8 ia F v w r)) ∧ (∀ (x : Fact) l u w, fp8 (x :: l) 0 u w = x.p u w) ∧ (∀ (x : Fact) l n u w, fp8 (x :: l) (n + 1) u w = fp8 l n u w) ∧ (∀ x u w, (Fact.eq x).p u w = (u = x)) :=
  ⟨fun _ _ _ _ => rfl, fun _ _ _ _ _ _ => rfl, fun _ _ _ _ => rfl, fun _ _ _ _ _ => rfl, fun _ _ _ => rfl⟩
end Go.Rv
namespace Go.Proofs.Ytoiephmngdecaaa
open Go.RowKit Go.Rv Go.Sort Go.Shelf
set_option linter.unusedVariables false
theorem sort_held (blk off cap : Nat) (zs : List Int) (w : World) (hH : Holds (Value.int .i64) w blk off zs.toArray) (hblk : blk < w.heap.size) (hsz : zs.length < 4611686018427387904) :
    Calls Try.prog 50 #[.slice (some ⟨blk, off, none⟩) zs.length cap] w fun e w' => e = .returned (.tuple #[]) ∧ ∃ n os, w' = grow (putRow (Value.int .i64) (Sort.ahead w n) blk off (zs.mergeSort fun x y => decide (x ≤ y)).toArray) os :=
  calls_of_every_depth fun D => AnyS.slices_Sort_int_in Try.lays189 D blk off cap zs w hH hblk hsz
theorem sort_none (p : Option Addr) (cap : Nat) (w : World) : Calls Try.prog 50 #[.slice p 0 cap] w fun e w' => e = .returned (.tuple #[]) ∧ w' = w :=
  Any.slices_Sort_int_none Try.lays189 p cap w
def sortedI (xs : List Int) : List Int := xs.mergeSort fun x y => decide (x ≤ y)
theorem sortedI_length (xs : List Int) : (sortedI xs).length = xs.length := by unfold sortedI; rw [List.length_mergeSort]
theorem sort_own {w : World} {base : Nat} {v : Value} {xs : List Int} (h : OwnM w 3 1 iC (fun _ => True) base v xs) (hl : xs.length ≤ 100000) :
    Calls Try.prog 50 #[v] w fun e w' => e = .returned (.tuple #[]) ∧ OwnM w' 3 1 iC (fun _ => True) base v (sortedI xs) ∧ w.grownBy w' v.ownBlock := by
  obtain ⟨⟨h1, hr⟩, hq⟩ := h; rcases hr with ⟨rfl, hn⟩ | ⟨g, cap, cur, rfl, hb, hg, hnc, hcm, hcs, htake⟩
  · have h0 : xs = [] := List.eq_nil_of_length_eq_zero hn; subst h0; refine (sort_none none 0 w).mono ?_; rintro e w' ⟨rfl, rfl⟩; exact ⟨rfl, by rw [show sortedI [] = [] from by simp [sortedI]]; exact OwnM.nil _ _ _ _ _ _, ⟨rfl, rfl, rfl, Nat.le_refl _, fun _ _ _ => rfl⟩⟩
  · rw [flat_iC, Nat.mul_one] at htake; have hH := holds_of_blockI hg htake; have hlt := (Array.getElem?_eq_some_iff.1 hg).1; refine (sort_held g 0 cap xs w hH hlt (by omega)).mono ?_; rintro e w' ⟨rfl, n, os, rfl⟩; refine ⟨rfl, ⟨?_, by simp⟩, grownBy_sortedI _⟩; have hk := ownsRow_sortedI (n := n) (os := os) (ts := sortedI xs) (sortedI_length xs) hb hg hnc hcm hcs; rw [flat_iC, sortedI_length]; exact hk
end Go.Proofs.Ytoiephmngdecaaa
namespace Go.Proofs.Ytoiephmngdecaaa
open Go.RowKit Go.Rv Go.Sort Go.Shelf
set_option linter.unusedVariables false
theorem compact_held (blk off cap : Nat) (zs : List Int) (w : World) (hH : Holds (Value.int .i64) w blk off zs.toArray) (hsz : zs.length ≤ 9223372036854775807) (hcap : zs.length ≤ cap) :
    Calls Try.prog 51 #[.slice (some ⟨blk, off, none⟩) zs.length cap] w fun e w' => e = .returned (.slice (some ⟨blk, off, none⟩) (Lib.compact zs).length cap) ∧ ∃ q, w' = putRow (Value.int .i64) (Sort.ahead w q) blk off (Lib.compact zs ++ List.replicate (zs.length - (Lib.compact zs).length) 0).toArray :=
  Any.slices_Compact_int Try.lays20 blk off cap zs w hH hsz hcap
theorem compact_none (p : Option Addr) (cap : Nat) (w : World) : Calls Try.prog 51 #[.slice p 0 cap] w fun e w' => e = .returned (.slice p 0 cap) ∧ w' = w :=
  Any.slices_Compact_int_empty Try.lays20 p cap w
theorem compact_le (zs : List Int) : (Lib.compact zs).length ≤ zs.length := by
  unfold Lib.compact Lib.compactUpTo; rw [List.length_map]; exact Nat.le_trans (List.length_filter_le _ _) (by simp)
theorem compact_own {w : World} {base : Nat} {v : Value} {xs : List Int} (h : OwnM w 3 1 iC (fun _ => True) base v xs) (hl : xs.length ≤ 100000) :
    Calls Try.prog 51 #[v] w fun e w' => ∃ u, e = .returned u ∧ OwnM w' 3 1 iC (fun _ => True) base u (Lib.compact xs) ∧ w.grownBy w' v.ownBlock := by
  obtain ⟨⟨h1, hr⟩, hq⟩ := h; rcases hr with ⟨rfl, hn⟩ | ⟨g, cap, cur, rfl, hb, hg, hnc, hcm, hcs, htake⟩
  · have h0 : xs = [] := List.eq_nil_of_length_eq_zero hn; subst h0; refine (compact_none none 0 w).mono ?_; rintro e w' ⟨rfl, rfl⟩; exact ⟨_, rfl, by rw [show Lib.compact ([] : List Int) = [] from List.eq_nil_of_length_eq_zero (by have := compact_le []; simpa using this)]; exact OwnM.nil _ _ _ _ _ _, ⟨rfl, rfl, rfl, Nat.le_refl _, fun _ _ _ => rfl⟩⟩
  · rw [flat_iC, Nat.mul_one] at htake; have hH := holds_of_blockI hg htake; refine (compact_held g 0 cap xs w hH (by omega) hnc).mono ?_; rintro e w' ⟨rfl, n, rfl⟩; have hle := compact_le xs; obtain ⟨ts, hts⟩ : ∃ ts, Lib.compact xs ++ List.replicate (xs.length - (Lib.compact xs).length) 0 = ts := ⟨_, rfl⟩; have htl : ts.length = xs.length := by rw [← hts, List.length_append, List.length_replicate]; omega
    rw [hts]
    have hheap : (putRow (Value.int .i64) (Sort.ahead w n) g 0 ts.toArray).heap[g]? = some (.cells (putCells (Value.int .i64) 0 ts.toArray cur) 3 (0, 0)) := by
      simp [putRow, mapBlock, Sort.ahead, Array.getElem?_modify, hg, onCells]
    have htk := take_putCellsI cur ts (by omega)
    have htk2 : (putCells (Value.int .i64) 0 ts.toArray cur).toList.take (Lib.compact xs).length = (Lib.compact xs).map (Value.int .i64) := by
      have h2 := congrArg (List.take (Lib.compact xs).length) htk; rw [List.take_take, Nat.min_eq_left (by omega)] at h2; rw [h2, ← hts, List.map_append, List.take_append_of_le_length (by simp)]; exact List.take_of_length_le (by simp)
    refine ⟨_, rfl, ⟨⟨?_, .inr ⟨g, cap, _, rfl, hb, hheap, by omega, hcm, by simp [putCells, hcs], ?_⟩⟩, by simp⟩, ⟨rfl, rfl, rfl, by simp [putRow, mapBlock, Sort.ahead], fun k hk hne => ?_⟩⟩
    · rw [flat_iC]; simp
    · rw [flat_iC, Nat.mul_one]; exact htk2
    · have : g ≠ k := fun e => hne (by rw [e]; rfl); simp [putRow, mapBlock, Sort.ahead, Array.getElem?_modify, this]
end Go.Proofs.Ytoiephmngdecaaa
