/- Proved here: A law over any program: a region that draws its order, of which each operation (but the last ones, which wait for all others) writes nothing that was there, and leaves a value of which a fact holds that no such operation turns: each operation is looked at once, whatever the order; the contract of the frame's Encode; contracts of the codec's Reader: New, take, Bytes, Num, Done; the contract of the frame's Decode; Whole rows compared, where a guard asks for it; contracts of the entry's counts and Right. -/
import Derived.StillTail
import Derived.WalkKit
import Derived.Deep.DeepMust
import Derived.Deep.MidRow
import Derived.Laws.Cover3
import Derived.Laws.BitsAllLaws
import Derived.Laws.BitsLemmas
import Derived.Deep.RegionHeld3
import Derived.Deep.DrawnRows
import Derived.Test.YtoiephmngdecaaaKaa
import Derived.Test.YtoiephmngdecaaaKab
namespace Go.Rv
open Go.RowKit
/-- a fact on a value, in a world, that new blocks do not turn -/
structure Fact where
  p : Value → World → Prop
  st : ∀ u w w', p u w → Below w.heap.size w w' → p u w'
def Fact.any : Fact := ⟨fun _ _ => True, fun _ _ _ _ _ => trivial⟩
def Fact.eq (x : Value) : Fact := ⟨fun u _ => u = x, fun _ _ _ h _ => h⟩
/-- the value is a slice that reads as these bytes -/
def Fact.bytes (l : List Nat) : Fact := ⟨fun u w => ∃ a cap, u = .slice a l.length cap ∧ Bytes w a l ∧ (a = none → cap = 0), fun _ _ _ ⟨a, c, e, hb, hc⟩ h => ⟨a, c, e, hb.below h, hc⟩⟩
/-- the operations' slots hold v -/
def putAll (v : Nat → Value) : Nat → List Oper → Act → Act
  | _, [], a => a
  | k, o :: r, a => putAll v (k + 1) r (a.put o.dst (v k))
def Deps (Φ : List Fact) (v : Nat → Value) (w : World) : List Edge → Prop
  | [] => True
  | e :: r => (Region.binds .any e = true → (Φ.getD e.on Fact.any).p (v e.on) w) ∧ Deps Φ v w r
def Obl (P : Program) (ops : Array Oper) (Q : Exit → Act → World → Prop) (A : (Nat → Value) → Act) (w0 : World) (Φ : List Fact) (i : Nat) (o : Oper) : Prop :=
  ∀ (v : Nat → Value) (w : World) (K : Act → World → Prop), Below w0.heap.size w0 w → Deps Φ v w o.after.toList →
    (∀ u w', Below w.heap.size w w' → (Φ.getD i Fact.any).p u w' → K ((A v).put o.dst u) w') → wpList P ops (Exit.then K Q) [o] (A v) w
def Obls (P : Program) (ops : Array Oper) (Q : Exit → Act → World → Prop) (A : (Nat → Value) → Act) (w0 : World) (Φ : List Fact) : Nat → List Oper → Prop
  | _, [] => True
  | i, o :: r => Obl P ops Q A w0 Φ i o ∧ Obls P ops Q A w0 Φ (i + 1) r
theorem Obls.at {P : Program} {ops : Array Oper} {Q : Exit → Act → World → Prop} {A : (Nat → Value) → Act} {w0 : World} {Φ : List Fact} : ∀ {k : Nat} {l : List Oper}, Obls P ops Q A w0 Φ k l → ∀ {i : Nat} {o : Oper}, l[i]? = some o → Obl P ops Q A w0 Φ (k + i) o
  | _, [], _, _, _, h => by simp at h
  | k, _ :: r, h, 0, _, ho => by simp at ho; subst ho; exact h.1
  | k, _ :: r, h, i + 1, _, ho => by
    have := Obls.at h.2 (i := i) (by simpa using ho)
    rwa [show k + 1 + i = k + (i + 1) by omega] at this
/-- no two of the first operations have one slot -/
def dstsApart : List Oper → Bool
  | [] => true
  | o :: r => (match o.dst with | none => true | some d => r.all fun x => x.dst != some d) && dstsApart r
def edgesBack : Nat → List Oper → Bool
  | _, [] => true
  | i, o :: r => (o.after.all fun e => !Region.binds .any e || decide (e.on < i)) && edgesBack (i + 1) r
def headListed (n m : Nat) : Array Bool := (List.replicate n true ++ List.replicate m false).toArray
def confOk (ops : Array Oper) (n : Nat) : Bool :=
  dstsApart (ops.toList.take n) && edgesBack 0 ops.toList && decide (n < ops.size) && Region.sinkB .any ops n && Region.chainB .any ops n && Region.seqB .any ops (ops.size - n) n (headListed n (ops.size - n))
theorem edgesBack_spec : ∀ {k : Nat} {l : List Oper}, edgesBack k l = true → ∀ {i : Nat} {o : Oper}, l[i]? = some o → ∀ e ∈ o.after, Region.binds .any e = true → e.on < k + i
  | _, [], _, _, _, h, _, _, _ => by simp at h
  | k, _ :: r, h, 0, _, ho, e, he, hb => by
    simp only [edgesBack, Bool.and_eq_true] at h; simp at ho; subst ho; have := (Array.all_eq_true_iff_forall_mem.1 h.1) e he; simpa [hb] using this
  | k, _ :: r, h, i + 1, _, ho, e, he, hb => by
    simp only [edgesBack, Bool.and_eq_true] at h; have := edgesBack_spec h.2 (i := i) (by simpa using ho) e he hb; omega
theorem put_self (a : Act) (d : Option Tmp) : a.put d (match d with | some t => a.tmps.getD t undef | none => undef) = a := by
  cases d with
  | none => rfl
  | some t =>
    simp only [Act.put]; congr 1; apply Array.ext_getElem?; intro i; rw [Array.getElem?_setIfInBounds]; by_cases h : t = i
    · subst h; simp only [if_true]; by_cases hlt : t < a.tmps.size
      · simp [hlt]
      · simp [hlt]
    · simp [h]
theorem put_put_ne (a : Act) (d e : Option Tmp) (x y : Value) (h : ∀ t, d = some t → e ≠ some t) : (a.put d x).put e y = (a.put e y).put d x := Act.put_comm a x y h
theorem put_put_same (a : Act) (d : Option Tmp) (x y : Value) : (a.put d x).put d y = a.put d y := by
  cases d with
  | none => rfl
  | some t => simp [Act.put]
theorem putAll_put {v : Nat → Value} : ∀ {l : List Oper} {k : Nat} {a : Act} {d : Option Tmp} {u : Value}, (∀ t, d = some t → ∀ o ∈ l, o.dst ≠ some t) → putAll v k l (a.put d u) = (putAll v k l a).put d u
  | [], _, _, _, _, _ => rfl
  | o :: r, k, a, d, u, h => by
    simp only [putAll]; rw [put_put_ne a d o.dst u (v k) (fun t ht => h t ht o (by simp)), putAll_put fun t ht x hx => h t ht x (by simp [hx])]
def upd (v : Nat → Value) (i : Nat) (u : Value) : Nat → Value := fun j => if j = i then u else v j
theorem putAll_congr {v v' : Nat → Value} : ∀ {l : List Oper} {k : Nat} {a : Act}, (∀ j, k ≤ j → v j = v' j) → putAll v k l a = putAll v' k l a
  | [], _, _, _ => rfl
  | o :: r, k, a, h => by simp only [putAll]; rw [h k (Nat.le_refl _), putAll_congr fun j hj => h j (by omega)]
theorem putAll_upd {v : Nat → Value} : ∀ {l : List Oper} {k i : Nat} {a : Act} {o : Oper} {u : Value}, dstsApart l = true → l[i]? = some o → (putAll v k l a).put o.dst u = putAll (upd v (k + i) u) k l a
  | [], _, _, _, _, _, _, h => by simp at h
  | o :: r, k, 0, a, o', u, hd, ho => by
    simp at ho; subst ho; simp only [dstsApart, Bool.and_eq_true] at hd
    have hfr : ∀ t, o.dst = some t → ∀ x ∈ r, x.dst ≠ some t := fun t ht x hx => by
      have := hd.1; rw [ht] at this; simp only [List.all_eq_true] at this; simpa using this x hx
    simp only [putAll, Nat.add_zero]; rw [← putAll_put hfr, put_put_same, show upd v k u k = u by simp [upd]]; exact putAll_congr fun j hj => by simp [upd]; omega
  | o :: r, k, i + 1, a, o', u, hd, ho => by
    simp only [dstsApart, Bool.and_eq_true] at hd; have := putAll_upd (v := v) (l := r) (k := k + 1) (i := i) (a := a.put o.dst (v k)) (u := u) hd.2 (by simpa using ho); simp only [putAll]; rw [this, show upd v (k + (i + 1)) u k = v k by simp [upd], show k + 1 + i = k + (i + 1) by omega]
theorem putAll_self : ∀ {l : List Oper} {k : Nat} {a : Act}, dstsApart l = true → ∃ v, putAll v k l a = a
  | [], _, _, _ => ⟨fun _ => undef, rfl⟩
  | o :: r, k, a, hd => by
    simp only [dstsApart, Bool.and_eq_true] at hd; obtain ⟨v, hv⟩ := putAll_self (l := r) (k := k + 1) (a := a) hd.2; refine ⟨upd v k (match o.dst with | some t => a.tmps.getD t undef | none => undef), ?_⟩; simp only [putAll]; rw [show upd v k (match o.dst with | some t => a.tmps.getD t undef | none => undef) k = (match o.dst with | some t => a.tmps.getD t undef | none => undef) by simp [upd], put_self]; rw [putAll_congr (v' := v) fun j hj => by simp [upd]; omega]
    exact hv
theorem upon_then {P : Program} {o : Oper} {a : Act} {K : Act → World → Prop} {Q : Exit → Act → World → Prop} {r : Result Next} (h : o.upon P a K (Exit.then K Q) r) : o.upon P a K Q r := by
  cases r with
  | ok n w' =>
    cases n <;> simp only [Oper.upon] at h ⊢
    all_goals first
      | exact h
      | exact Calls.mono h (fun e w'' he => by cases e <;> exact he)
  | halt x w' => cases x <;> simp only [Oper.upon] at h ⊢ <;> exact h
theorem wpOp_of_list {P : Program} {ops : Array Oper} {K : Act → World → Prop} {Q : Exit → Act → World → Prop} {i : Nat} {o : Oper} {a : Act} {w : World} (ho : ops[i]? = some o) (h : wpList P ops (Exit.then K Q) [o] a w) : wpOp P ops Q i K a w := by
  unfold wpOp; simp only [ho]; simp only [wpList] at h; split
  · rename_i hw; rw [if_pos hw] at h; rcases h with h | ⟨h1, h2⟩
    · exact .inl (upon_then h)
    · exact .inr ⟨h1, h2⟩
  · rename_i hw; rw [if_neg hw] at h; exact h
def unl (listed : Array Bool) : Nat → Nat
  | 0 => 0
  | k + 1 => unl listed k + if listed.getD k true then 0 else 1
theorem unl_set {listed : Array Bool} {i : Nat} (hi : listed.getD i true = false) : ∀ {k : Nat}, (i < k → unl (listed.setIfInBounds i true) k + 1 = unl listed k) ∧ (¬ i < k → unl (listed.setIfInBounds i true) k = unl listed k)
  | 0 => ⟨fun h => by omega, fun _ => rfl⟩
  | k + 1 => by
    have hlt : i < listed.size := by
      rcases Nat.lt_or_ge i listed.size with h | h
      · exact h
      · simp [Array.getElem?_eq_none h] at hi
    obtain ⟨h1, h2⟩ := unl_set (k := k) hi; refine ⟨fun h => ?_, fun h => ?_⟩
    · by_cases hik : i = k
      · subst hik; simp only [unl]; rw [h2 (by omega), hi]; simp [hlt]
      · simp only [unl]; rw [getD_set_ne true hik]; have := h1 (by omega); omega
    · simp only [unl]; rw [getD_set_ne true (by omega), h2 (by omega)]
theorem unl_zero {listed : Array Bool} : ∀ {k : Nat}, unl listed k = 0 → ∀ i, i < k → listed.getD i true = true
  | 0, _, i, hi => by omega
  | k + 1, h, i, hi => by
    simp only [unl] at h; by_cases hik : i = k
    · subst hik; cases hc : listed.getD i true
      · rw [hc] at h; simp at h
      · rfl
    · exact unl_zero (k := k) (by omega) i (by omega)
theorem unl_pos {listed : Array Bool} : ∀ {k : Nat}, 0 < unl listed k → ∃ i, i < k ∧ listed.getD i true = false ∧ ∀ j, j < i → listed.getD j true = true
  | 0, h => by simp [unl] at h
  | k + 1, h => by
    by_cases h0 : 0 < unl listed k
    · obtain ⟨i, hi, r⟩ := unl_pos h0; exact ⟨i, by omega, r⟩
    · have hz : unl listed k = 0 := by omega
      refine ⟨k, by omega, ?_, fun j hj => unl_zero hz j hj⟩
      simp only [unl, hz] at h; cases hc : listed.getD k true
      · rfl
      · rw [hc] at h; simp at h
theorem conf_walk {P : Program} {ops : Array Oper} {Q : Exit → Act → World → Prop} {a0 : Act} {w0 : World} {n : Nat} {Φ : List Fact} {A : (Nat → Value) → Act} (hok : confOk ops n = true)
    (hA : ∀ v, putAll v 0 (ops.toList.take n) a0 = A v) (ho : Obls P ops Q A w0 Φ 0 (ops.toList.take n))
    (hend : ∀ v w, Below w0.heap.size w0 w → (∀ j, j < n → (Φ.getD j Fact.any).p (v j) w) → wpList P ops Q (ops.toList.drop n) (A v) w) :
    ∀ (f : Nat) (listed : Array Bool) (v : Nat → Value) (w : World), HeadInv .any ops n listed → unl listed n = f → Below w0.heap.size w0 w → (∀ j, j < n → listed.getD j false = true → (Φ.getD j Fact.any).p (v j) w) →
      wpAny P .any ops Q (f + (ops.size - n)) listed (A v) w := by
  simp only [confOk, Bool.and_eq_true, decide_eq_true_eq] at hok; obtain ⟨⟨⟨⟨⟨hd, hbk⟩, hn⟩, hs⟩, hc⟩, hq⟩ := hok; intro f
  induction f with
  | zero =>
    intro listed v w inv hu hB hF; have hall := unl_zero hu
    have hl : listed = headListed n (ops.size - n) := by
      apply Array.ext
      · simp only [headListed, List.size_toArray, List.length_append, List.length_replicate]; rw [inv.size]; omega
      · intro i h1 h2; have e1 : listed[i] = listed.getD i true := by simp [h1]
        by_cases hin : i < n
        · rw [e1, hall i hin]; simp only [headListed, List.getElem_toArray]; rw [List.getElem_append_left (by simpa using hin)]; simp
        · rw [e1, inv.tail i (by omega) (by rw [← inv.size]; exact h1)]; simp only [headListed, List.getElem_toArray]; rw [List.getElem_append_right (by simpa using Nat.le_of_not_lt hin)]; simp
    rw [Nat.zero_add]; have hlen : (ops.toList.drop n).length = ops.size - n := by simp
    rw [← hlen]; refine wpAny_of_seq (ops.toList.drop n) n listed (A v) w (fun j => by simp) (by rw [hlen, hl]; exact hq) (hend v w hB fun j hj => hF j hj ?_); have h1 := hall j hj; have hjs : j < listed.size := by rw [inv.size]; omega
    simp [hjs] at h1 ⊢; exact h1
  | succ f ih =>
    intro listed v w inv hu hB hF; obtain ⟨i0, hi0, hun0, hbef⟩ := unl_pos (listed := listed) (k := n) (by omega); have hnt := tail_waits hs hc hn inv _ i0 rfl hi0 hun0; rw [show f + 1 + (ops.size - n) = (f + (ops.size - n)) + 1 by omega]; refine ⟨fun h => ?_, fun i hi => ?_⟩
    · exfalso; have hlt : i0 < ops.size := by omega
      have hr : i0 ∈ Region.ready .any ops listed := mem_ready.2 ⟨hun0, ops[i0], by simp, fun e he hb => by
        have hlt2 := edgesBack_spec hbk (i := i0) (o := ops[i0]) (by simp) e he hb; have h1 := hbef e.on (by omega); have hes : e.on < listed.size := by rw [inv.size]; omega
        simp [hes] at h1 ⊢; exact h1⟩
      rw [h] at hr; cases hr
    · have hin : i < n := by
        rcases Nat.lt_or_ge i n with h | h
        · exact h
        · exact absurd hi (hnt i h)
      obtain ⟨hui, o, hoi, hdep⟩ := mem_ready.1 hi; have hoi' : (ops.toList.take n)[i]? = some o := by simp [hin, hoi]
      have ob := ho.at hoi'; rw [Nat.zero_add] at ob; refine wpOp_of_list hoi (ob v w _ hB ?_ ?_)
      · have hdeps : ∀ l : List Edge, (∀ e ∈ l, e ∈ o.after) → Deps Φ v w l := by
          intro l
          induction l with
          | nil => intro _; exact trivial
          | cons e r ihl =>
            intro hl; refine ⟨fun hb => hF e.on ?_ (hdep e (hl e (by simp)) hb), ihl fun x hx => hl x (by simp [hx])⟩; have := edgesBack_spec hbk (i := i) (o := o) (by simpa using hoi) e (hl e (by simp)) hb; omega
        exact hdeps _ fun e he => by simpa using he
      · intro u w' hBw hR; rw [← hA v, putAll_upd (k := 0) hd hoi', hA, Nat.zero_add]; have hsz : w0.heap.size ≤ w.heap.size := hB.size; refine ih (listed.setIfInBounds i true) (upd v i u) w' (inv.set hi hin) ?_ (hB.trans (hBw.mono hsz)) ?_
        · have := (unl_set hui (k := n)).1 hin; omega
        · intro j hj hl; by_cases hji : j = i
          · subst hji; rw [show upd v j u j = u by simp [upd]]; exact hR
          · rw [show upd v i u j = v j by simp [upd, hji]]; rw [getD_set_ne false (Ne.symm hji)] at hl; exact (Φ.getD j Fact.any).st _ _ _ (hF j hj hl) hBw
/-- THE LAW. -/
theorem wp_region_conf {P : Program} {ops : Array Oper} {Q : Exit → Act → World → Prop} {a0 : Act} {w0 : World} {id : Nat} (n : Nat) (Φ : List Fact) (A : (Nat → Value) → Act) (hm : P.follows .mixedOrders = true) (hok : confOk ops n = true)
    (hA : ∀ v, putAll v 0 (ops.toList.take n) a0 = A v) (ho : Obls P ops Q A w0 Φ 0 (ops.toList.take n))
    (hend : ∀ v w, Below w0.heap.size w0 w → (∀ j, j < n → (Φ.getD j Fact.any).p (v j) w) → wpList P ops Q (ops.toList.drop n) (A v) w) : (Code.region id ops true).wp P Q a0 w0 := by
  have hok' := hok; simp only [confOk, Bool.and_eq_true, decide_eq_true_eq] at hok'; obtain ⟨⟨⟨⟨⟨hd, _⟩, hn⟩, _⟩, _⟩, _⟩ := hok'; obtain ⟨v, hv⟩ := putAll_self (k := 0) (a := a0) hd
  have inv0 : HeadInv .any ops n (Array.replicate ops.size false) :=
    ⟨by simp, fun j oj _ hl => (by rw [getD_replicate_false] at hl; cases hl), fun t _ ht => getD_in (by simpa using ht) (getD_replicate_false _ _)⟩
  have hu : ∀ k, k ≤ n → unl (Array.replicate ops.size false) k = k := by
    intro k
    induction k with
    | zero => intro _; rfl
    | succ k ih =>
      intro hk; simp only [unl]; rw [ih (by omega), getD_in (by simp; omega) (getD_replicate_false _ _)]; simp
  have h := conf_walk (w0 := w0) hok hA ho hend n _ v w0.drew inv0 (hu n (Nat.le_refl _)) (Below.refl _ _).drew (fun j hj hl => by rw [getD_replicate_false] at hl; cases hl); rw [← hA v, hv, show n + (ops.size - n) = ops.size by omega] at h; exact wp_region_any hm h
end Go.Rv
namespace Go.Rv
/-- a guarded operation whose guard says yes is as one without a guard; one whose guard says no leaves nothing -/
theorem wpList_guard_yes {P : Program} {ops : Array Oper} {Q : Exit → Act → World → Prop} {dst : Option Tmp} {op : Op} {type : TypeId} {pos : String} {after : Array Edge} {g : Nat} {b : Bool} {a : Act} {w : World}
    (hy : yielded ops a.tmps g = some b) (h : wpList P ops Q [⟨dst, op, type, pos, after, none⟩] a w) : wpList P ops Q [⟨dst, op, type, pos, after, some (g, b)⟩] a w := by
  have hw : Region.wanted (⟨dst, op, type, pos, after, some (g, b)⟩ : Oper) (yielded ops a.tmps) = true := by simp [Region.wanted, hy]
  have hn : Region.wanted (⟨dst, op, type, pos, after, none⟩ : Oper) (yielded ops a.tmps) = true := rfl; simp only [wpList, hn, if_true] at h; simp only [wpList, hw, if_true]; exact h
theorem wpList_guard_no {P : Program} {ops : Array Oper} {Q : Exit → Act → World → Prop} {dst : Option Tmp} {op : Op} {type : TypeId} {pos : String} {after : Array Edge} {g : Nat} {b : Bool} {a : Act} {w : World}
    (hy : yielded ops a.tmps g = some (!b)) (h : Q .normal (a.put dst undef) w) : wpList P ops Q [⟨dst, op, type, pos, after, some (g, b)⟩] a w := by
  have hw : Region.wanted (⟨dst, op, type, pos, after, some (g, b)⟩ : Oper) (yielded ops a.tmps) = false := by cases b <;> simp [Region.wanted, hy]
  simp only [wpList, hw, Bool.false_eq_true, if_false]; exact h
end Go.Rv
namespace Go.Rv
/-- what an obligation's words come to, as rules -/
theorem confRules : (∀ (Φ : List Fact) (v : Nat → Value) (w : World), Deps Φ v w [] = True) ∧ (∀ (Φ : List Fact) (v : Nat → Value) (w : World) (e : Edge) (r : List Edge), Deps Φ v w (e :: r) = ((Region.binds .any e = true → (Φ.getD e.on Fact.any).p (v e.on) w) ∧ Deps Φ v w r)) ∧
    (∀ l : List Edge, l.toArray.toList = l) ∧ (∀ x u w, (Fact.eq x).p u w = (u = x)) ∧ (∀ l u w, (Fact.bytes l).p u w = (∃ a cap, u = .slice a l.length cap ∧ Bytes w a l ∧ (a = none → cap = 0))) ∧ (∀ (x : Fact) l d, (x :: l).getD 0 d = x) ∧ (∀ (x : Fact) l n d, (x :: l).getD (n + 1) d = l.getD n d) ∧
    (∀ n, Region.binds .any { on := n, ground := .data } = true) ∧ (∀ n, Region.binds .any { on := n, ground := .phase } = true) ∧ (∀ n, Region.binds .any { on := n, ground := .chain } = true) ∧ (∀ n, Region.binds .any { on := n, ground := .guard } = true) ∧
    (∀ p : Prop, (True → p) = p) ∧ (∀ p : Prop, (p ∧ True) = p) ∧ (∀ (t : Array Value) d i u, Act.put ⟨t, d⟩ (some i) u = ⟨t.setIfInBounds i u, d⟩) ∧ (∀ (l : List Value) i u, l.toArray.setIfInBounds i u = (l.set i u).toArray) ∧ (∀ (x u : Value) l, (x :: l).set 0 u = u :: l) ∧ (∀ (x u : Value) l n, (x :: l).set (n + 1) u = x :: l.set n u) := by
  refine ⟨fun _ _ _ => rfl, fun _ _ _ _ _ => rfl, fun l => by simp, fun _ _ _ => rfl, fun _ _ _ => rfl, fun _ _ _ => rfl, fun _ _ _ _ => rfl, fun _ => rfl, fun _ => rfl, fun _ => rfl, fun _ => rfl, fun p => by simp, fun p => by simp, fun _ _ _ _ => rfl, fun _ _ _ => by simp, fun _ _ _ => rfl, fun _ _ _ _ => rfl⟩
theorem putRules : (∀ v k a, putAll v k [] a = a) ∧ (∀ v k o r a, putAll v k (o :: r) a = putAll v (k + 1) r (a.put o.dst (v k))) ∧ (∀ (t : Array Value) d i u, Act.put ⟨t, d⟩ (some i) u = ⟨t.setIfInBounds i u, d⟩) ∧ (∀ (l : List Value) i u, l.toArray.setIfInBounds i u = (l.set i u).toArray) ∧ (∀ (x u : Value) l, (x :: l).set 0 u = u :: l) ∧ (∀ (x u : Value) l n, (x :: l).set (n + 1) u = x :: l.set n u) ∧
    (∀ (o : Oper) l n, (o :: l).take (n + 1) = o :: l.take n) ∧ (∀ (l : List Oper), l.take 0 = []) ∧ (∀ l : List Oper, l.toArray.toList = l) := by
  refine ⟨fun _ _ _ => rfl, fun _ _ _ _ _ => rfl, fun _ _ _ _ => rfl, fun _ _ _ => by simp, fun _ _ _ => rfl, fun _ _ _ _ => rfl, fun _ _ _ => rfl, fun _ => rfl, fun l => by simp⟩
theorem endRules : (∀ x u w, (Fact.eq x).p u w = (u = x)) ∧ (∀ (x : Fact) l d, (x :: l).getD 0 d = x) ∧ (∀ (x : Fact) l n d, (x :: l).getD (n + 1) d = l.getD n d) := ⟨fun _ _ _ => rfl, fun _ _ _ => rfl, fun _ _ _ _ => rfl⟩
theorem dropRules : (∀ (o : Oper) l n, (o :: l).drop (n + 1) = l.drop n) ∧ (∀ (l : List Oper), l.drop 0 = l) ∧ (∀ l : List Oper, l.toArray.toList = l) := ⟨fun _ _ _ => rfl, fun _ => rfl, fun l => by simp⟩
end Go.Rv
namespace Go.Proofs.Ytoiephmngdecaaa
open Go.RowKit Go.Rv Frm
set_option linter.unusedVariables false
theorem size_frm {f : Fr} (h : f.body.length = 44) : (Try.prog.info? 68).map (·.size) = some (FC f).size := by rw [FC_size, h]; exact (zero_of_info Try.infoFrame).2
theorem size_tab : (Try.prog.info? 41).map (·.size) = some Tb.tabV.size := by rw [Tb.size_tabV]; exact (zero_of_info Try.infoTab).2
end Go.Proofs.Ytoiephmngdecaaa
namespace Go.Proofs.Ytoiephmngdecaaa
open Go.RowKit Go.Rv
set_option linter.unusedVariables false
/-- block g is a reader with these bytes left, which lie in a block from B on; bad or not -/
def RdAt (w : World) (B g : Nat) (l : List Nat) (bad : Bool) : Prop :=
  ∃ a cap, w.heap[g]? = some (.cells #[.slice a l.length cap, .bool bad] 166 (0, 0)) ∧ Bytes w a l ∧ l.length ≤ cap ∧ cap ≤ maxLen ∧ (a = none → cap = 0) ∧ (∀ x, a = some x → x.block < g ∧ B ≤ x.block)
/-- the block of a slice -/
theorem RdAt.lt {w : World} {B g : Nat} {l : List Nat} {bad : Bool} (h : RdAt w B g l bad) : g < w.heap.size := by
  obtain ⟨a, cap, hg, _⟩ := h; exact (Array.getElem?_eq_some_iff.1 hg).1
theorem RdAt.below {w w' : World} {B g : Nat} {l : List Nat} {bad : Bool} (h : RdAt w B g l bad) (hB : Below w.heap.size w w') : RdAt w' B g l bad := by
  have hlt := h.lt; obtain ⟨a, cap, hg, hb, h1, h2, h3, h4⟩ := h; exact ⟨a, cap, (hB.block g hlt).trans hg, hb.below hB, h1, h2, h3, h4⟩
theorem RdAt.only {S : List Nat} {w w' : World} {B g : Nat} {l : List Nat} {bad : Bool} (h : RdAt w B g l bad) (hO : Only S w w') (hg : g ∉ S) (hS : ∀ x ∈ S, x < B ∨ g < x) : RdAt w' B g l bad := by
  have hlt := h.lt; obtain ⟨a, cap, hh, hb, h1, h2, h3, h4⟩ := h; exact ⟨a, cap, (hO.block g hlt hg).trans hh, hb.only hO (fun x hx hm => by have := hS _ hm; have := (h4 x hx); omega), h1, h2, h3, h4⟩
theorem RdAt.cells {w : World} {g : Nat} {v : Value} {bad : Bool} {t : TypeId} (h : w.heap[g]? = some (.cells #[v, .bool bad] t (0, 0))) : w.cell? ⟨g, 0, none⟩ = some v ∧ w.cell? ⟨g, 1, none⟩ = some (.bool bad) ∧ w.frozen? ⟨g, 0, none⟩ = false ∧ w.frozen? ⟨g, 1, none⟩ = false :=
  ⟨by rw [cell_of_row _ _ _ _ _ _ h]; rfl, by rw [cell_of_row _ _ _ _ _ _ h]; rfl, frozen_of_row _ _ _ _ _ h, frozen_of_row _ _ _ _ _ h⟩
/-- what New makes -/
def NewRdPost (l : List Nat) (w : World) (e : Ending) (w' : World) : Prop :=
  ∃ g, e = .returned (.pointer (some ⟨g, 0, none⟩)) ∧ w.heap.size ≤ g ∧ RdAt w' w.heap.size g l false ∧ Below w.heap.size w w'
set_option maxRecDepth 100000 in
set_option maxHeartbeats 400000 in
theorem rd_new (a : Option Addr) (l : List Nat) (cap : Nat) (w : World) (hb : Bytes w a l) (hn : a = none → cap = 0) (hl : l.length ≤ 2000000) :
    Calls Try.prog 71 #[.slice a l.length cap] w (NewRdPost l w) := by
  have hbel : Below w.heap.size w (w.alloc (.cells #[] 5)) := (Below.refl _ _).alloc (Nat.le_refl _) _; go_enter Try.func71, Try.ntmps71; go_wp2_with (at_builtin; refine wpList_append_bytes_at rfl (.tmp 3) (.tmp 4) 134 rfl 5 Try.underlying134 Try.infoU8 w.heap.size _ [] rfl (OwnB.made (g := w.heap.size) (Nat.le_refl _) (heap_alloc_new w _) rfl (by unfold maxLen; omega)) a cap l rfl (hb.below hbel) hn (by simp; omega) (by simp) ?_; intro v' w1 hown hgr hat; rw [List.nil_append] at hown; obtain ⟨a', c', rfl, hb', hn', hx⟩ := hown.bytes); go_ret; have hB1 : Below w.heap.size w w1 := hbel.trans (Below.of_grown hgr (by simp) (fun k hk => by simp [Act.eval, Value.ownBlock] at hk; omega)); have hz := hB1.size; refine ⟨w1.heap.size, rfl, hz, ⟨a', c', heap_alloc_new _ _, hb'.below ((Below.refl _ _).alloc (Nat.le_refl _) _), ?_, ?_, hn', fun x h => ⟨?_, ?_⟩⟩, hB1.alloc hz _⟩
  · rcases hown.1.2 with ⟨e, h0⟩ | ⟨_, _, _, e, _, _, h1, _⟩
    · omega
    · injection e with _ _ e3; rw [e3]; exact h1
  · rcases hown.1.2 with ⟨e, h0⟩ | ⟨_, _, _, e, _, _, h1, h2, _⟩
    · injection e with _ _ e3; rw [e3]; exact Nat.zero_le _
    · injection e with _ _ e3; rw [e3]; exact h2
  · exact (hx x h).2.1
  · exact (hx x h).1
/-- what take tells: the next bytes, and what is left -/
def TakeYes (B g : Nat) (l : List Nat) (n : Nat) (w : World) (e : Ending) (w' : World) : Prop :=
  ∃ a, e = .returned (.slice a n n) ∧ Bytes w' a (l.take n) ∧ (a = none → n = 0) ∧ (∀ x, a = some x → x.block < g ∧ B ≤ x.block) ∧ RdAt w' B g (l.drop n) false ∧ Only [g] w w'
set_option maxRecDepth 100000 in
set_option maxHeartbeats 400000 in
theorem take_yes {B : Nat} (g : Nat) (l : List Nat) (n : Nat) (w : World) (hR : RdAt w B g l false) (hn : n ≤ l.length) :
    Calls Try.prog 94 #[.pointer (some ⟨g, 0, none⟩), .int .i64 n] w (TakeYes B g l n w) := by
  obtain ⟨a, cap, hg, hb, hlc, hcm, hnil, hx⟩ := hR; obtain ⟨c0, c1, f0, f1⟩ := RdAt.cells hg; have hcm' : cap ≤ 9223372036854775807 := by unfold maxLen at hcm; omega
  have hd : decide ((n : Int) < 0) = false := decide_eq_false (by omega); have hd2 : decide ((l.length : Int) < (n : Int)) = false := decide_eq_false (by omega); have hO : ∀ v, Only [g] w (w.setCell ⟨g, 0, none⟩ v) := fun v => (Only.refl _ _).setCell (by simp) _
  have hgs : ∀ v, (w.setCell ⟨g, 0, none⟩ v).heap[g]? = some (.cells #[v, .bool false] 166 (0, 0)) := fun v => by
    rw [heap_setCell_same _ _ _ _ _ _ hg]; rfl
  have hfin : ∀ a' c', Bytes w a' (l.drop n) → l.length - n ≤ c' → c' ≤ maxLen → (a' = none → c' = 0) → (∀ x, a' = some x → x.block < g ∧ B ≤ x.block) → (a = none → n = 0) → ∀ e w', e = .returned (.slice a n n) → w' = w.setCell ⟨g, 0, none⟩ (.slice a' (l.length - n : Nat) c') → TakeYes B g l n w e w' := by
    rintro a' c' hb' h1 h1' h2 h3 h4 e w' rfl rfl; refine ⟨a, rfl, (hb.take n).only (hO _) (fun x hx' => by simp; have := (hx x hx').1; omega), h4, hx, ⟨a', c', ?_, hb'.only (hO _) (fun x hx' => by simp; have := (h3 x hx').1; omega), by rw [List.length_drop]; exact h1, h1', h2, h3⟩, hO _⟩; rw [hgs, List.length_drop]
  cases a with
  | none =>
    obtain rfl := hnil rfl; obtain rfl : n = 0 := by omega
    obtain rfl : l = [] := List.eq_nil_of_length_eq_zero (by omega); have HF := Lib.hid (hfin none 0 (Bytes.nil _ _) (by simp) (Nat.zero_le _) (fun _ => rfl) (fun x h => by cases h) (fun _ => rfl)); clear hfin hgs hO hx hnil hb; go_enter Try.func94, Try.ntmps94; go_wp2; go_ret; exact HF.out _ _ rfl rfl
  | some ad =>
    obtain ⟨b, o, spot⟩ := ad; by_cases hcn : cap = n
    · obtain rfl := hcn; have hld : l.drop cap = [] := List.drop_eq_nil_of_le (by omega); have hl0 : l.length = cap := by omega
      have HF := Lib.hid (hfin (some ⟨b, o, spot⟩) 0 (by rw [hld]; exact Bytes.nil _ _) (by omega) (Nat.zero_le _) (fun h => by cases h) hx (fun h => by cases h)); rw [show l.length - cap = 0 by omega] at HF; clear hfin hgs hO hx hnil hb hld; go_enter Try.func94, Try.ntmps94; go_wp2; go_ret; exact HF.out _ _ rfl rfl
    · by_cases hn0 : n = 0
      · subst hn0; have HF := Lib.hid (hfin (some ⟨b, o, spot⟩) cap (by simpa using hb) (by omega) hcm (fun h => by cases h) hx (fun h => by cases h)); rw [Nat.sub_zero] at HF; clear hfin hgs hO hx hnil hb; go_enter Try.func94, Try.ntmps94; go_wp2; go_ret; exact HF.out _ _ rfl rfl
      · obtain ⟨b', o', _, e, _⟩ := hb.at (k := 0) (by omega); cases e; have HF := Lib.hid (hfin (some ⟨b, o + n, none⟩) (cap - n) (hb.drop n) (by omega) (by omega) (fun h => by cases h) (fun x h => by cases h; exact hx ⟨b, o, none⟩ rfl) (fun h => by cases h)); clear hfin hgs hO hx hnil hb; go_enter Try.func94, Try.ntmps94; go_wp2; go_ret; exact HF.out _ _ rfl rfl
set_option maxRecDepth 100000 in
set_option maxHeartbeats 400000 in
theorem rd_bytes_yes {B : Nat} (g : Nat) (l : List Nat) (n : Nat) (w : World) (hR : RdAt w B g l false) (hn : n ≤ l.length) :
    Calls Try.prog 73 #[.pointer (some ⟨g, 0, none⟩), .int .i64 n] w (TakeYes B g l n w) := by
  go_enter Try.func73, Try.ntmps73; go_wp2_with (go_at_call 94; refine (take_yes g l n _ hR hn).mono ?_; rintro e w' ⟨a, rfl, h⟩); go_ret; exact ⟨a, rfl, h⟩
/-- a reader has read a number -/
def RdNumPost (B g : Nat) (x : Nat) (l : List Nat) (bad : Bool) (w : World) (e : Ending) (w' : World) : Prop := e = .returned (.int .i64 (x : Nat)) ∧ RdAt w' B g l bad ∧ Only [g] w w'
theorem ofInt_i64 (a : Nat) (ha : a < 9223372036854775808) : (BitVec.ofInt 64 (a : Int)).toNat = a := by
  rw [BitVec.ofInt_natCast, BitVec.toNat_ofNat]; exact Nat.mod_eq_of_lt (by omega)
theorem i64_or_nat (a b : Nat) (ha : a < 9223372036854775808) (hb : b < 9223372036854775808) : bits .or .i64 (a : Int) (b : Int) = ((a ||| b : Nat) : Int) := by
  have hx : a ||| b < 2 ^ 63 := Nat.or_lt_two_pow (by omega) (by omega)
  show IntKind.i64.wrap ((BitVec.ofInt 64 (a : Int) ||| BitVec.ofInt 64 (b : Int)).toNat : Int) = _; rw [BitVec.toNat_or, ofInt_i64 a ha, ofInt_i64 b hb, IntKind.wrap_i64]; omega
theorem or_step64 (x c j : Nat) (hj : j ≤ 6) (hx : x < 256 ^ j) (hc : c < 256) : bits .or .i64 (x : Int) (wrap64 ((c : Int) * 2 ^ (8 * j))) = ((x + 256 ^ j * c : Nat) : Int) := by
  have h6 : 256 ^ j ≤ 281474976710656 := Cod.pw_le6 j hj
  have e : (c : Int) * 2 ^ (8 * j) = ((c * 256 ^ j : Nat) : Int) := by
    rw [Int.natCast_mul, Cod.pow_cast, Int.pow_mul]; rfl
  have hm : c * 256 ^ j < 9223372036854775808 := by
    have := Nat.mul_le_mul (show c ≤ 255 by omega) h6; omega
  have hw : wrap64 ((c * 256 ^ j : Nat) : Int) = ((c * 256 ^ j : Nat) : Int) := IntWalk.wrap64_in _ ⟨by omega, by omega⟩; rw [e, hw, i64_or_nat x _ (by omega) hm, Cod.or_add x c j hx]
set_option maxRecDepth 100000 in
set_option maxHeartbeats 400000 in
theorem rd_num_yes {B : Nat} (g : Nat) (l : List Nat) (k : Nat) (w : World) (hR : RdAt w B g l false) (h1 : 1 ≤ k) (h7 : k ≤ 7) (hk : k ≤ l.length) :
    Calls Try.prog 72 #[.pointer (some ⟨g, 0, none⟩), .int .i64 k] w (RdNumPost B g (Cod.rd (l.take k)) (l.drop k) false w) := by
  have HY := Lib.hid (fun W => within_yes k W (by omega) (by omega)); have HT := Lib.hid (fun W (hR : RdAt W B g l false) => take_yes g l k W hR hk); go_enter Try.func72, Try.ntmps72; go_wp2_with (first | (go_at_call 93; refine (HY.out _).mono ?_; rintro e w' ⟨rfl, rfl⟩) | (go_at_call 94; refine (HT.out _ hR).mono ?_; rintro e w1 ⟨a, rfl, hb, hn, hx, hR1, hO1⟩))
  go_loop [5, 17] (fun v i => ∃ j : Nat, j ≤ k ∧ i = .int .i64 j ∧ v = .int .i64 (Cod.rd (l.take j) : Nat)) (fun _ i => k - (intOf i).toNat)
  case atStart => exact ⟨0, by omega, rfl, by simp [Cod.rd]⟩
  case round =>
    obtain ⟨j, hj, rfl, rfl⟩ := hrel; by_cases hlt : j < k
    · obtain ⟨b1, o1, c, rfl, hbl, hc, hc8, hlk⟩ := hb.at (show j < (l.take k).length by simp; omega); have hlk' : l[j]? = some c := by rw [List.getElem?_take, if_pos hlt] at hlk; exact hlk
      have hs := Lib.hid (Cod.rd_take_succ l j c hlk'); have hlt2 := Cod.rd_take_lt (l.take k) hb.1 j (by simp; omega); rw [List.take_take, Nat.min_eq_left (by omega)] at hlt2
      replace hlt2 := Lib.hid hlt2
      clear hlk hlk'; go_wp2; refine ⟨⟨j + 1, by omega, by go_num, ?_⟩, by simp [intOf]; omega⟩; rw [hs.out, or_step64 _ _ _ (by omega) hlt2.out hc8]
    · obtain rfl : j = k := by omega
      go_wp2; go_ret; exact ⟨rfl, hR1, hO1⟩
end Go.Proofs.Ytoiephmngdecaaa
namespace Go.Proofs.Ytoiephmngdecaaa
open Go.RowKit Go.Rv Frm
set_option linter.unusedVariables false
attribute [local go_sem ↓] Go.wp_at_zero Go.wp_at_succ
/-- a whole row is loaded behind a guard that asks for it -/
theorem wpList_load_row_asked {P : Program} {ops : Array Oper} {rest : List Oper} {o : Oper} {a : Act} {w : World} {Q : Exit → Act → World → Prop} (hgd : Region.wanted o (yielded ops a.tmps) = true) (ty : TypeId) (x : Operand) (ho : o.op = .load ty x)
    (g : Nat) (hx : a.eval x = .pointer (some ⟨g, 0, none⟩)) (t : TypeId) (cs : Array Value) (fr : Nat × Nat) (d : TypeDesc) (hg : w.heap[g]? = some (.cells cs t fr))
    (hu : P.underlying ty = some d) (hd : (match d with | .struct _ | .array _ _ => true | _ => false) = true) (hi : (P.info? ty).map (·.size) = some cs.size)
    (h : wpList P ops Q rest (a.put o.dst (.agg cs)) w) : wpList P ops Q (o :: rest) a w := by
  unfold wpList; rw [if_pos hgd]; exact .inl (wp_load_row ty x ho g hx t cs fr d hg hu hd hi h)
/-- a frame and an error -/
def FrmPost (r : Fr × Int) (w : World) (e : Ending) (w' : World) : Prop := e = .returned (.tuple #[.agg (FC r.1), .int .i64 r.2]) ∧ Below w.heap.size w w'
theorem src_cells {w : World} {b : Option Addr} {m : List Nat} (hb : Bytes w b m) (N : Nat) (h0 : 0 < ((m.take N).map bv).length) : ∃ ad, b = some ad ∧ ∀ (j : Nat) (v : Value), ((m.take N).map bv)[j]? = some v → w.cell? (ad.add j) = some v := by
  simp at h0; obtain ⟨b1, o1, c1, rfl, _⟩ := hb.at (k := 0) (by omega); refine ⟨_, rfl, fun j v hv => ?_⟩
  simp only [List.getElem?_map, Option.map_eq_some_iff] at hv; obtain ⟨x, hx, rfl⟩ := hv; have hj : j < m.length := by have := (List.getElem?_eq_some_iff.1 hx).1; simp at this; omega
  obtain ⟨b2, o2, c2, e, _, hc, _, hl⟩ := hb.at hj; cases e; have hadd : (⟨b1, o1, none⟩ : Addr).add j = ⟨b1, o1 + j, none⟩ := by unfold Addr.add; split <;> simp_all
  rw [hadd, hc]; rw [List.getElem?_take] at hx; split at hx
  · rw [hl] at hx; cases hx; rfl
  · cases hx
theorem rd_to {B : Nat} (g : Nat) (l q : List Nat) (x k : Nat) (K : Int) (w : World) (hR : RdAt w B g l false) (hK : K = k) (h1 : 1 ≤ k) (h7 : k ≤ 7) (hk : k ≤ l.length) (hx : x = Cod.rd (l.take k)) (hq : q = l.drop k) :
    Calls Try.prog 72 #[.pointer (some ⟨g, 0, none⟩), .int .i64 K] w (RdNumPost B g x q false w) := by
  subst hK hx hq; exact rd_num_yes g l k w hR h1 h7 hk
end Go.Proofs.Ytoiephmngdecaaa
namespace Go.Rv
open Go.RowKit
theorem wpList_eql_asked {P : Program} {ops : Array Oper} {rest : List Oper} {o : Oper} {a : Act} {w : World} {Q : Exit → Act → World → Prop} (hgd : Region.wanted o (yielded ops a.tmps) = true) (ty ty2 : TypeId) (x y : Operand) (ho : o.op = .binOp .eql ty x y ty2)
    (xs ys : Array Value) (hx : a.eval x = .agg xs) (hy : a.eval y = .agg ys) (hm : P.eqGuardType P.depth ty = false) (r : Bool) (hr : ∀ w, (Op.equalIn 10000 ty (.agg xs) (.agg ys)).run P w = .ok r w)
    (h : wpList P ops Q rest (a.put o.dst (.bool r)) w) : wpList P ops Q (o :: rest) a w := by
  unfold wpList; rw [if_pos hgd]; refine .inl ?_; unfold Oper.wp execOp; have h1 := run_eqGuard_agg (P := P) w .eql ty x y xs ys hm; have h2 := run_eql_struct (P := P) w ty xs ys; rw [hr w] at h2; simp only [ho, hx, hy, Sem.run_bind, Sem.run_pure, h1, h2, Result.andThen_ok]; exact h
end Go.Rv
namespace Go.Proofs.Ytoiephmngdecaaa
open Go.RowKit Go.Rv
set_option linter.unusedVariables false
set_option maxRecDepth 100000 in
set_option maxHeartbeats 4000000 in
theorem ecounts_core (e : En.E) (ib im bz r : Bool) (mx : Int) (w : World) (hl : e.bytes.length = 32)
    (HB' : ∀ W, Calls Try.prog 95 #[.int .i64 e.count, .int .i64 1, .int .i64 4] W fun x w' => x = .returned (.bool ib) ∧ W = w')
    (HM' : ∀ W, Calls Try.prog 95 #[.int .i64 e.many, .int .i64 1, .int .i64 mx] W fun x w' => x = .returned (.bool im) ∧ W = w')
    (hmx : mx = 256 - e.block) (hb0 : 0 ≤ e.block) (hb1 : e.block ≤ 255)
    (HZ' : ∀ W, (Op.equalIn 10000 63 (.agg (byteCells e.bytes)) (.agg (byteCells (List.replicate 32 0)))).run Try.prog W = .ok bz W)
    (hr : ((e.kind == 1) = true ∧ ib = false ∧ r = false) ∨ ((e.kind == 1) = true ∧ ib = true ∧ r = (e.many == 0)) ∨
      ((e.kind == 1) = false ∧ (e.kind == 2) = true ∧ (e.count == 1) = false ∧ r = false) ∨ ((e.kind == 1) = false ∧ (e.kind == 2) = true ∧ (e.count == 1) = true ∧ im = false ∧ r = false) ∨ ((e.kind == 1) = false ∧ (e.kind == 2) = true ∧ (e.count == 1) = true ∧ im = true ∧ r = bz) ∨
      ((e.kind == 1) = false ∧ (e.kind == 2) = false ∧ (e.kind == 3) = true ∧ (e.count == 1) = false ∧ r = false) ∨ ((e.kind == 1) = false ∧ (e.kind == 2) = false ∧ (e.kind == 3) = true ∧ (e.count == 1) = true ∧ r = (e.many == 0)) ∨ ((e.kind == 1) = false ∧ (e.kind == 2) = false ∧ (e.kind == 3) = false ∧ r = false)) :
    Calls Try.prog 96 #[.agg (EC e)] w fun x w' => x = .returned (.bool r) ∧ Below w.heap.size w w' := by
  have hg := heap_alloc_new w (.cells (EC e) 65); obtain ⟨c0, c1, c2, c3, c4, c5⟩ := ent_cells hg; have hrg := ent_range hg; have hB : Below w.heap.size w (w.alloc (.cells (EC e) 65)) := (Below.refl _ _).alloc (Nat.le_refl _) _; have hib : (Try.prog.info? 63).map (·.size) = some (byteCells e.bytes).toList.length := by rw [Array.length_toList, size_byteCells, hl]; exact (zero_of_info Try.infoBlock).2
  have HIB := Lib.hid hib; have HRG := Lib.hid hrg; have hzb := (zero_of_info Try.infoBlock).1; have HB := Lib.hid HB'; have HM := Lib.hid HM'; have HZ := Lib.hid HZ'; have HR := Lib.hid hr; have HX := Lib.hid hmx; generalize EC e = C at *; clear hg hr HB' HM' HZ' hmx hib hrg hl; obtain ⟨BC, hBC⟩ : ∃ b, byteCells e.bytes = b := ⟨_, rfl⟩; obtain ⟨ZC, hZC⟩ : ∃ b, byteCells (List.replicate 32 0) = b := ⟨_, rfl⟩; rw [hBC] at HIB HRG HZ; rw [hZC] at HZ hzb; clear hBC hZC; rcases HR.out with ⟨t1, rfl, rfl⟩ | ⟨t1, rfl, hr⟩ | ⟨t1, t2, t3, rfl⟩ | ⟨t1, t2, t3, rfl, rfl⟩ | ⟨t1, t2, t3, rfl, hr⟩ | ⟨t1, t2, t3, t4, rfl⟩ | ⟨t1, t2, t3, t4, hr⟩ | ⟨t1, t2, t3, rfl⟩
  · clear HR; go_enter Try.func96, Try.ntmps96; go_wp2_with fail; refine (HB.out _).mono ?_; rintro x w' ⟨rfl, rfl⟩; go_wp2; go_ret; exact ⟨rfl, hB⟩
  · clear HR; have HE := Lib.hid hr; clear hr; go_enter Try.func96, Try.ntmps96; go_wp2_with fail; refine (HB.out _).mono ?_; rintro x w' ⟨rfl, rfl⟩; go_wp2; go_ret; exact ⟨by rw [HE.out]; rfl, hB⟩
  · clear HR; go_enter Try.func96, Try.ntmps96; go_wp2; go_ret; exact ⟨rfl, hB⟩
  · clear HR; go_enter Try.func96, Try.ntmps96; go_wp2_with fail; rw [← HX.out]; refine (HM.out _).mono ?_; rintro x w' ⟨rfl, rfl⟩; go_wp2; go_ret; exact ⟨rfl, hB⟩
  · clear HR; have HE := Lib.hid hr; clear hr; go_enter Try.func96, Try.ntmps96; go_wp2_with fail; rw [← HX.out]; refine (HM.out _).mono ?_; rintro x w' ⟨rfl, rfl⟩; go_wp2_with (first | (refine wpList_load_mid_asked (by rfl) 63 _ rfl w.heap.size 6 rfl BC.toList _ HRG.out Try.underlying63 rfl HIB.out ?_) | (refine wpList_eql_asked (by rfl) 63 63 _ _ rfl BC ZC rfl rfl (by kernel_rfl) bz HZ.out ?_)); go_ret; exact ⟨by rw [HE.out]; rfl, hB⟩
  · clear HR; go_enter Try.func96, Try.ntmps96; go_wp2; go_ret; exact ⟨rfl, hB⟩
  · clear HR; have HE := Lib.hid hr; clear hr; go_enter Try.func96, Try.ntmps96; go_wp2; go_ret; exact ⟨by rw [HE.out]; rfl, hB⟩
  · clear HR; go_enter Try.func96, Try.ntmps96; go_wp2; go_ret; exact ⟨rfl, hB⟩
theorem ecounts_any (e : En.E) (w : World) (hb : EBody e) (hb0 : 0 ≤ e.block) (hb1 : e.block ≤ 255) :
    Calls Try.prog 96 #[.agg (EC e)] w fun x w' => x = .returned (.bool (En.counts e)) ∧ Below w.heap.size w w' := by
  refine ecounts_core e (En.inB e.count 1 4) (En.inB e.many 1 (256 - e.block)) (decide (e.bytes = List.replicate 32 0)) _ (256 - e.block) w hb.1 (fun W => ewithin_any _ _ _ W) (fun W => ewithin_any _ _ _ W) rfl hb0 hb1 (fun W => eq_block _ _ hb.1 (by simp) hb.2 (by simp) _ (by simp) W) ?_; unfold En.counts; cases h1 : (e.kind == 1)
  · cases h2 : (e.kind == 2)
    · cases h3 : (e.kind == 3)
      · exact .inr (.inr (.inr (.inr (.inr (.inr (.inr ⟨rfl, rfl, rfl, by simp⟩))))))
      · cases h4 : (e.count == 1)
        · exact .inr (.inr (.inr (.inr (.inr (.inl ⟨rfl, rfl, rfl, rfl, by simp⟩)))))
        · exact .inr (.inr (.inr (.inr (.inr (.inr (.inl ⟨rfl, rfl, rfl, rfl, by simp⟩))))))
    · cases h3 : (e.count == 1)
      · exact .inr (.inr (.inl ⟨rfl, rfl, rfl, by simp⟩))
      · cases h4 : En.inB e.many 1 (256 - e.block)
        · exact .inr (.inr (.inr (.inl ⟨rfl, rfl, rfl, rfl, by simp⟩)))
        · exact .inr (.inr (.inr (.inr (.inl ⟨rfl, rfl, rfl, rfl, by simp⟩))))
  · cases h2 : En.inB e.count 1 4
    · exact .inl ⟨rfl, rfl, by simp⟩
    · exact .inr (.inl ⟨rfl, rfl, by simp⟩)
set_option maxRecDepth 100000 in
set_option maxHeartbeats 4000000 in
theorem eright_any (e : En.E) (w : World) (hb : EBody e) :
    Calls Try.prog 75 #[.agg (EC e)] w fun x w' => x = .returned (.bool (En.right e)) ∧ Below w.heap.size w w' := by
  have hg := heap_alloc_new w (.cells (EC e) 65); obtain ⟨c0, c1, c2, c3, c4, c5⟩ := ent_cells hg; have hB : Below w.heap.size w (w.alloc (.cells (EC e) 65)) := (Below.refl _ _).alloc (Nat.le_refl _) _; have HRR : Hid (En.right e = (En.inB e.first 0 281474976710655 && (En.inB e.block 0 255 && (En.inB e.mate 0 65535 && En.counts e)))) := Lib.hid rfl; have H0 := Lib.hid (fun W => ewithin_any e.first 0 281474976710655 W); have H1 := Lib.hid (fun W => ewithin_any e.block 0 255 W); have H2 := Lib.hid (fun W => ewithin_any e.mate 0 65535 W); have H3 := Lib.hid (fun W (h : En.inB e.block 0 255 = true) => ecounts_any e W hb (En.inB_iff.1 h).1 (En.inB_iff.1 h).2); have HIE := Lib.hid (size_ent hb.1); have HG := Lib.hid hg; generalize En.inB e.first 0 281474976710655 = b0 at *; generalize En.inB e.block 0 255 = b1 at *; generalize En.inB e.mate 0 65535 = b2 at *; generalize En.counts e = b3 at *; generalize EC e = C at *; clear hg; go_enter Try.func75, Try.ntmps75; go_wp2_with fail; refine (H0.out _).mono ?_; rintro x w' ⟨rfl, rfl⟩; cases b0
  case false =>
    go_wp2; go_ret; exact ⟨by rw [HRR.out]; rfl, hB⟩
  go_wp2_with fail; refine (H1.out _).mono ?_; rintro x w' ⟨rfl, rfl⟩; cases b1
  case false =>
    go_wp2; go_ret; exact ⟨by rw [HRR.out]; rfl, hB⟩
  go_wp2_with fail; refine (H2.out _).mono ?_; rintro x w' ⟨rfl, rfl⟩; cases b2
  case false =>
    go_wp2; go_ret; exact ⟨by rw [HRR.out]; rfl, hB⟩
  go_wp2_with (refine wpList_load_row_asked (by rfl) 65 _ rfl w.heap.size rfl 65 _ _ _ HG.out Try.underlying65 rfl HIE.out ?_); refine (H3.out _ (by first | rfl | trivial)).mono ?_; rintro x w' ⟨rfl, hB1⟩; go_wp2; go_ret; exact ⟨by rw [HRR.out]; rfl, hB.trans (hB1.mono hB.size)⟩
end Go.Proofs.Ytoiephmngdecaaa
