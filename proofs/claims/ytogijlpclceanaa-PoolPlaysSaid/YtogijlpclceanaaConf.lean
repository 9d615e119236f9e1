/- A law over any program: a region that draws its order, of which each operation (but the last ones, which wait for all others) writes nothing that was there, and leaves a value of which a fact holds that no such operation turns: each operation is looked at once, whatever the order. -/
import Derived.StillTail
import Derived.WalkKit
import Derived.Test.YtogijlpclceanaaKit
namespace Go.Rv
open Go.RowKit
/-- a fact on a value, in a world, that new blocks do not turn -/
structure Fact where
  p : Value → World → Prop
  st : ∀ u w w', p u w → Below w.heap.size w w' → p u w'
def Fact.any : Fact := ⟨fun _ _ => True, fun _ _ _ _ _ => trivial⟩
def Fact.eq (x : Value) : Fact := ⟨fun u _ => u = x, fun _ _ _ h _ => h⟩
/-- the value is a slice that reads as these bytes -/
def Fact.bytes (l : List Nat) : Fact := ⟨fun u w => ∃ a cap, u = .slice a l.length cap ∧ Bytes w a l ∧ (a = none → cap = 0), fun _ _ _ ⟨a, c, e, hb, hc⟩ h => ⟨a, c, e, hb.below h, hc⟩⟩
/-- the operations' slots hold v -/
def putAll (v : Nat → Value) : Nat → List Oper → Act → Act
  | _, [], a => a
  | k, o :: r, a => putAll v (k + 1) r (a.put o.dst (v k))
def Deps (Φ : List Fact) (v : Nat → Value) (w : World) : List Edge → Prop
  | [] => True
  | e :: r => (Region.binds .any e = true → (Φ.getD e.on Fact.any).p (v e.on) w) ∧ Deps Φ v w r
def Obl (P : Program) (ops : Array Oper) (Q : Exit → Act → World → Prop) (A : (Nat → Value) → Act) (w0 : World) (Φ : List Fact) (i : Nat) (o : Oper) : Prop :=
  ∀ (v : Nat → Value) (w : World) (K : Act → World → Prop), Below w0.heap.size w0 w → Deps Φ v w o.after.toList →
    (∀ u w', Below w.heap.size w w' → (Φ.getD i Fact.any).p u w' → K ((A v).put o.dst u) w') → wpList P ops (Exit.then K Q) [o] (A v) w
def Obls (P : Program) (ops : Array Oper) (Q : Exit → Act → World → Prop) (A : (Nat → Value) → Act) (w0 : World) (Φ : List Fact) : Nat → List Oper → Prop
  | _, [] => True
  | i, o :: r => Obl P ops Q A w0 Φ i o ∧ Obls P ops Q A w0 Φ (i + 1) r
theorem Obls.at {P : Program} {ops : Array Oper} {Q : Exit → Act → World → Prop} {A : (Nat → Value) → Act} {w0 : World} {Φ : List Fact} : ∀ {k : Nat} {l : List Oper}, Obls P ops Q A w0 Φ k l → ∀ {i : Nat} {o : Oper}, l[i]? = some o → Obl P ops Q A w0 Φ (k + i) o
  | _, [], _, _, _, h => by simp at h
  | k, _ :: r, h, 0, _, ho => by simp at ho; subst ho; exact h.1
  | k, _ :: r, h, i + 1, _, ho => by
    have := Obls.at h.2 (i := i) (by simpa using ho)
    rwa [show k + 1 + i = k + (i + 1) by omega] at this
/-- no two of the first operations have one slot -/
def dstsApart : List Oper → Bool
  | [] => true
  | o :: r => (match o.dst with | none => true | some d => r.all fun x => x.dst != some d) && dstsApart r
def edgesBack : Nat → List Oper → Bool
  | _, [] => true
  | i, o :: r => (o.after.all fun e => !Region.binds .any e || decide (e.on < i)) && edgesBack (i + 1) r
def headListed (n m : Nat) : Array Bool := (List.replicate n true ++ List.replicate m false).toArray
def confOk (ops : Array Oper) (n : Nat) : Bool :=
  dstsApart (ops.toList.take n) && edgesBack 0 ops.toList && decide (n < ops.size) && Region.sinkB .any ops n && Region.chainB .any ops n && Region.seqB .any ops (ops.size - n) n (headListed n (ops.size - n))
theorem edgesBack_spec : ∀ {k : Nat} {l : List Oper}, edgesBack k l = true → ∀ {i : Nat} {o : Oper}, l[i]? = some o → ∀ e ∈ o.after, Region.binds .any e = true → e.on < k + i
  | _, [], _, _, _, h, _, _, _ => by simp at h
  | k, _ :: r, h, 0, _, ho, e, he, hb => by
    simp only [edgesBack, Bool.and_eq_true] at h
    simp at ho; subst ho
    have := (Array.all_eq_true_iff_forall_mem.1 h.1) e he
    simpa [hb] using this
  | k, _ :: r, h, i + 1, _, ho, e, he, hb => by
    simp only [edgesBack, Bool.and_eq_true] at h
    have := edgesBack_spec h.2 (i := i) (by simpa using ho) e he hb
    omega
theorem put_self (a : Act) (d : Option Tmp) : a.put d (match d with | some t => a.tmps.getD t undef | none => undef) = a := by
  cases d with
  | none => rfl
  | some t =>
    simp only [Act.put]
    congr 1
    apply Array.ext_getElem?
    intro i
    rw [Array.getElem?_setIfInBounds]
    by_cases h : t = i
    · subst h
      simp only [if_true]
      by_cases hlt : t < a.tmps.size
      · simp [hlt]
      · simp [hlt]
    · simp [h]
theorem put_put_ne (a : Act) (d e : Option Tmp) (x y : Value) (h : ∀ t, d = some t → e ≠ some t) : (a.put d x).put e y = (a.put e y).put d x := Act.put_comm a x y h
theorem put_put_same (a : Act) (d : Option Tmp) (x y : Value) : (a.put d x).put d y = a.put d y := by
  cases d with
  | none => rfl
  | some t => simp [Act.put]
theorem putAll_put {v : Nat → Value} : ∀ {l : List Oper} {k : Nat} {a : Act} {d : Option Tmp} {u : Value}, (∀ t, d = some t → ∀ o ∈ l, o.dst ≠ some t) → putAll v k l (a.put d u) = (putAll v k l a).put d u
  | [], _, _, _, _, _ => rfl
  | o :: r, k, a, d, u, h => by
    simp only [putAll]
    rw [put_put_ne a d o.dst u (v k) (fun t ht => h t ht o (by simp)), putAll_put fun t ht x hx => h t ht x (by simp [hx])]
def upd (v : Nat → Value) (i : Nat) (u : Value) : Nat → Value := fun j => if j = i then u else v j
theorem putAll_congr {v v' : Nat → Value} : ∀ {l : List Oper} {k : Nat} {a : Act}, (∀ j, k ≤ j → v j = v' j) → putAll v k l a = putAll v' k l a
  | [], _, _, _ => rfl
  | o :: r, k, a, h => by simp only [putAll]; rw [h k (Nat.le_refl _), putAll_congr fun j hj => h j (by omega)]
theorem putAll_upd {v : Nat → Value} : ∀ {l : List Oper} {k i : Nat} {a : Act} {o : Oper} {u : Value}, dstsApart l = true → l[i]? = some o → (putAll v k l a).put o.dst u = putAll (upd v (k + i) u) k l a
  | [], _, _, _, _, _, _, h => by simp at h
  | o :: r, k, 0, a, o', u, hd, ho => by
    simp at ho; subst ho
    simp only [dstsApart, Bool.and_eq_true] at hd
    have hfr : ∀ t, o.dst = some t → ∀ x ∈ r, x.dst ≠ some t := fun t ht x hx => by
      have := hd.1
      rw [ht] at this
      simp only [List.all_eq_true] at this
      simpa using this x hx
    simp only [putAll, Nat.add_zero]
    rw [← putAll_put hfr, put_put_same, show upd v k u k = u by simp [upd]]
    exact putAll_congr fun j hj => by simp [upd]; omega
  | o :: r, k, i + 1, a, o', u, hd, ho => by
    simp only [dstsApart, Bool.and_eq_true] at hd
    have := putAll_upd (v := v) (l := r) (k := k + 1) (i := i) (a := a.put o.dst (v k)) (u := u) hd.2 (by simpa using ho)
    simp only [putAll]
    rw [this, show upd v (k + (i + 1)) u k = v k by simp [upd], show k + 1 + i = k + (i + 1) by omega]
theorem putAll_self : ∀ {l : List Oper} {k : Nat} {a : Act}, dstsApart l = true → ∃ v, putAll v k l a = a
  | [], _, _, _ => ⟨fun _ => undef, rfl⟩
  | o :: r, k, a, hd => by
    simp only [dstsApart, Bool.and_eq_true] at hd
    obtain ⟨v, hv⟩ := putAll_self (l := r) (k := k + 1) (a := a) hd.2
    refine ⟨upd v k (match o.dst with | some t => a.tmps.getD t undef | none => undef), ?_⟩
    simp only [putAll]
    rw [show upd v k (match o.dst with | some t => a.tmps.getD t undef | none => undef) k = (match o.dst with | some t => a.tmps.getD t undef | none => undef) by simp [upd], put_self]
    rw [putAll_congr (v' := v) fun j hj => by simp [upd]; omega]
    exact hv
theorem upon_then {P : Program} {o : Oper} {a : Act} {K : Act → World → Prop} {Q : Exit → Act → World → Prop} {r : Result Next} (h : o.upon P a K (Exit.then K Q) r) : o.upon P a K Q r := by
  cases r with
  | ok n w' =>
    cases n <;> simp only [Oper.upon] at h ⊢
    all_goals first
      | exact h
      | exact Calls.mono h (fun e w'' he => by cases e <;> exact he)
  | halt x w' => cases x <;> simp only [Oper.upon] at h ⊢ <;> exact h
theorem wpOp_of_list {P : Program} {ops : Array Oper} {K : Act → World → Prop} {Q : Exit → Act → World → Prop} {i : Nat} {o : Oper} {a : Act} {w : World} (ho : ops[i]? = some o) (h : wpList P ops (Exit.then K Q) [o] a w) : wpOp P ops Q i K a w := by
  unfold wpOp
  simp only [ho]
  simp only [wpList] at h
  split
  · rename_i hw
    rw [if_pos hw] at h
    rcases h with h | ⟨h1, h2⟩
    · exact .inl (upon_then h)
    · exact .inr ⟨h1, h2⟩
  · rename_i hw
    rw [if_neg hw] at h
    exact h
def unl (listed : Array Bool) : Nat → Nat
  | 0 => 0
  | k + 1 => unl listed k + if listed.getD k true then 0 else 1
theorem unl_set {listed : Array Bool} {i : Nat} (hi : listed.getD i true = false) : ∀ {k : Nat}, (i < k → unl (listed.setIfInBounds i true) k + 1 = unl listed k) ∧ (¬ i < k → unl (listed.setIfInBounds i true) k = unl listed k)
  | 0 => ⟨fun h => by omega, fun _ => rfl⟩
  | k + 1 => by
    have hlt : i < listed.size := by
      rcases Nat.lt_or_ge i listed.size with h | h
      · exact h
      · simp [Array.getElem?_eq_none h] at hi
    obtain ⟨h1, h2⟩ := unl_set (k := k) hi
    refine ⟨fun h => ?_, fun h => ?_⟩
    · by_cases hik : i = k
      · subst hik
        simp only [unl]
        rw [h2 (by omega), hi]
        simp [hlt]
      · simp only [unl]
        rw [getD_set_ne true hik]
        have := h1 (by omega)
        omega
    · simp only [unl]
      rw [getD_set_ne true (by omega), h2 (by omega)]
theorem unl_zero {listed : Array Bool} : ∀ {k : Nat}, unl listed k = 0 → ∀ i, i < k → listed.getD i true = true
  | 0, _, i, hi => by omega
  | k + 1, h, i, hi => by
    simp only [unl] at h
    by_cases hik : i = k
    · subst hik
      cases hc : listed.getD i true
      · rw [hc] at h; simp at h
      · rfl
    · exact unl_zero (k := k) (by omega) i (by omega)
theorem unl_pos {listed : Array Bool} : ∀ {k : Nat}, 0 < unl listed k → ∃ i, i < k ∧ listed.getD i true = false ∧ ∀ j, j < i → listed.getD j true = true
  | 0, h => by simp [unl] at h
  | k + 1, h => by
    by_cases h0 : 0 < unl listed k
    · obtain ⟨i, hi, r⟩ := unl_pos h0
      exact ⟨i, by omega, r⟩
    · have hz : unl listed k = 0 := by omega
      refine ⟨k, by omega, ?_, fun j hj => unl_zero hz j hj⟩
      simp only [unl, hz] at h
      cases hc : listed.getD k true
      · rfl
      · rw [hc] at h; simp at h
theorem conf_walk {P : Program} {ops : Array Oper} {Q : Exit → Act → World → Prop} {a0 : Act} {w0 : World} {n : Nat} {Φ : List Fact} {A : (Nat → Value) → Act} (hok : confOk ops n = true)
    (hA : ∀ v, putAll v 0 (ops.toList.take n) a0 = A v) (ho : Obls P ops Q A w0 Φ 0 (ops.toList.take n))
    (hend : ∀ v w, Below w0.heap.size w0 w → (∀ j, j < n → (Φ.getD j Fact.any).p (v j) w) → wpList P ops Q (ops.toList.drop n) (A v) w) :
    ∀ (f : Nat) (listed : Array Bool) (v : Nat → Value) (w : World), HeadInv .any ops n listed → unl listed n = f → Below w0.heap.size w0 w → (∀ j, j < n → listed.getD j false = true → (Φ.getD j Fact.any).p (v j) w) →
      wpAny P .any ops Q (f + (ops.size - n)) listed (A v) w := by
  simp only [confOk, Bool.and_eq_true, decide_eq_true_eq] at hok
  obtain ⟨⟨⟨⟨⟨hd, hbk⟩, hn⟩, hs⟩, hc⟩, hq⟩ := hok
  intro f
  induction f with
  | zero =>
    intro listed v w inv hu hB hF
    have hall := unl_zero hu
    have hl : listed = headListed n (ops.size - n) := by
      apply Array.ext
      · simp only [headListed, List.size_toArray, List.length_append, List.length_replicate]
        rw [inv.size]
        omega
      · intro i h1 h2
        have e1 : listed[i] = listed.getD i true := by simp [h1]
        by_cases hin : i < n
        · rw [e1, hall i hin]
          simp only [headListed, List.getElem_toArray]
          rw [List.getElem_append_left (by simpa using hin)]
          simp
        · rw [e1, inv.tail i (by omega) (by rw [← inv.size]; exact h1)]
          simp only [headListed, List.getElem_toArray]
          rw [List.getElem_append_right (by simpa using Nat.le_of_not_lt hin)]
          simp
    rw [Nat.zero_add]
    have hlen : (ops.toList.drop n).length = ops.size - n := by simp
    rw [← hlen]
    refine wpAny_of_seq (ops.toList.drop n) n listed (A v) w (fun j => by simp) (by rw [hlen, hl]; exact hq) (hend v w hB fun j hj => hF j hj ?_)
    have h1 := hall j hj
    have hjs : j < listed.size := by rw [inv.size]; omega
    simp [hjs] at h1 ⊢
    exact h1
  | succ f ih =>
    intro listed v w inv hu hB hF
    obtain ⟨i0, hi0, hun0, hbef⟩ := unl_pos (listed := listed) (k := n) (by omega)
    have hnt := tail_waits hs hc hn inv _ i0 rfl hi0 hun0
    rw [show f + 1 + (ops.size - n) = (f + (ops.size - n)) + 1 by omega]
    refine ⟨fun h => ?_, fun i hi => ?_⟩
    · exfalso
      have hlt : i0 < ops.size := by omega
      have hr : i0 ∈ Region.ready .any ops listed := mem_ready.2 ⟨hun0, ops[i0], by simp, fun e he hb => by
        have hlt2 := edgesBack_spec hbk (i := i0) (o := ops[i0]) (by simp) e he hb
        have h1 := hbef e.on (by omega)
        have hes : e.on < listed.size := by rw [inv.size]; omega
        simp [hes] at h1 ⊢
        exact h1⟩
      rw [h] at hr
      cases hr
    · have hin : i < n := by
        rcases Nat.lt_or_ge i n with h | h
        · exact h
        · exact absurd hi (hnt i h)
      obtain ⟨hui, o, hoi, hdep⟩ := mem_ready.1 hi
      have hoi' : (ops.toList.take n)[i]? = some o := by simp [hin, hoi]
      have ob := ho.at hoi'
      rw [Nat.zero_add] at ob
      refine wpOp_of_list hoi (ob v w _ hB ?_ ?_)
      · have hdeps : ∀ l : List Edge, (∀ e ∈ l, e ∈ o.after) → Deps Φ v w l := by
          intro l
          induction l with
          | nil => intro _; exact trivial
          | cons e r ihl =>
            intro hl
            refine ⟨fun hb => hF e.on ?_ (hdep e (hl e (by simp)) hb), ihl fun x hx => hl x (by simp [hx])⟩
            have := edgesBack_spec hbk (i := i) (o := o) (by simpa using hoi) e (hl e (by simp)) hb
            omega
        exact hdeps _ fun e he => by simpa using he
      · intro u w' hBw hR
        rw [← hA v, putAll_upd (k := 0) hd hoi', hA, Nat.zero_add]
        have hsz : w0.heap.size ≤ w.heap.size := hB.size
        refine ih (listed.setIfInBounds i true) (upd v i u) w' (inv.set hi hin) ?_ (hB.trans (hBw.mono hsz)) ?_
        · have := (unl_set hui (k := n)).1 hin
          omega
        · intro j hj hl
          by_cases hji : j = i
          · subst hji
            rw [show upd v j u j = u by simp [upd]]
            exact hR
          · rw [show upd v i u j = v j by simp [upd, hji]]
            rw [getD_set_ne false (Ne.symm hji)] at hl
            exact (Φ.getD j Fact.any).st _ _ _ (hF j hj hl) hBw
/-- THE LAW. -/
theorem wp_region_conf {P : Program} {ops : Array Oper} {Q : Exit → Act → World → Prop} {a0 : Act} {w0 : World} {id : Nat} (n : Nat) (Φ : List Fact) (A : (Nat → Value) → Act) (hm : P.follows .mixedOrders = true) (hok : confOk ops n = true)
    (hA : ∀ v, putAll v 0 (ops.toList.take n) a0 = A v) (ho : Obls P ops Q A w0 Φ 0 (ops.toList.take n))
    (hend : ∀ v w, Below w0.heap.size w0 w → (∀ j, j < n → (Φ.getD j Fact.any).p (v j) w) → wpList P ops Q (ops.toList.drop n) (A v) w) : (Code.region id ops true).wp P Q a0 w0 := by
  have hok' := hok
  simp only [confOk, Bool.and_eq_true, decide_eq_true_eq] at hok'
  obtain ⟨⟨⟨⟨⟨hd, _⟩, hn⟩, _⟩, _⟩, _⟩ := hok'
  obtain ⟨v, hv⟩ := putAll_self (k := 0) (a := a0) hd
  have inv0 : HeadInv .any ops n (Array.replicate ops.size false) :=
    ⟨by simp, fun j oj _ hl => (by rw [getD_replicate_false] at hl; cases hl), fun t _ ht => getD_in (by simpa using ht) (getD_replicate_false _ _)⟩
  have hu : ∀ k, k ≤ n → unl (Array.replicate ops.size false) k = k := by
    intro k
    induction k with
    | zero => intro _; rfl
    | succ k ih =>
      intro hk
      simp only [unl]
      rw [ih (by omega), getD_in (by simp; omega) (getD_replicate_false _ _)]
      simp
  have h := conf_walk (w0 := w0) hok hA ho hend n _ v w0.drew inv0 (hu n (Nat.le_refl _)) (Below.refl _ _).drew (fun j hj hl => by rw [getD_replicate_false] at hl; cases hl)
  rw [← hA v, hv, show n + (ops.size - n) = ops.size by omega] at h
  exact wp_region_any hm h
end Go.Rv
namespace Go.Rv
/-- a guarded operation whose guard says yes is as one without a guard; one whose guard says no leaves nothing -/
theorem wpList_guard_yes {P : Program} {ops : Array Oper} {Q : Exit → Act → World → Prop} {dst : Option Tmp} {op : Op} {type : TypeId} {pos : String} {after : Array Edge} {g : Nat} {b : Bool} {a : Act} {w : World}
    (hy : yielded ops a.tmps g = some b) (h : wpList P ops Q [⟨dst, op, type, pos, after, none⟩] a w) : wpList P ops Q [⟨dst, op, type, pos, after, some (g, b)⟩] a w := by
  have hw : Region.wanted (⟨dst, op, type, pos, after, some (g, b)⟩ : Oper) (yielded ops a.tmps) = true := by simp [Region.wanted, hy]
  have hn : Region.wanted (⟨dst, op, type, pos, after, none⟩ : Oper) (yielded ops a.tmps) = true := rfl
  simp only [wpList, hn, if_true] at h
  simp only [wpList, hw, if_true]
  exact h
theorem wpList_guard_no {P : Program} {ops : Array Oper} {Q : Exit → Act → World → Prop} {dst : Option Tmp} {op : Op} {type : TypeId} {pos : String} {after : Array Edge} {g : Nat} {b : Bool} {a : Act} {w : World}
    (hy : yielded ops a.tmps g = some (!b)) (h : Q .normal (a.put dst undef) w) : wpList P ops Q [⟨dst, op, type, pos, after, some (g, b)⟩] a w := by
  have hw : Region.wanted (⟨dst, op, type, pos, after, some (g, b)⟩ : Oper) (yielded ops a.tmps) = false := by cases b <;> simp [Region.wanted, hy]
  simp only [wpList, hw, Bool.false_eq_true, if_false]
  exact h
end Go.Rv
namespace Go.Rv
/-- what an obligation's words come to, as rules -/
theorem confRules : (∀ (Φ : List Fact) (v : Nat → Value) (w : World), Deps Φ v w [] = True) ∧ (∀ (Φ : List Fact) (v : Nat → Value) (w : World) (e : Edge) (r : List Edge), Deps Φ v w (e :: r) = ((Region.binds .any e = true → (Φ.getD e.on Fact.any).p (v e.on) w) ∧ Deps Φ v w r)) ∧
    (∀ l : List Edge, l.toArray.toList = l) ∧ (∀ x u w, (Fact.eq x).p u w = (u = x)) ∧ (∀ l u w, (Fact.bytes l).p u w = (∃ a cap, u = .slice a l.length cap ∧ Bytes w a l ∧ (a = none → cap = 0))) ∧ (∀ (x : Fact) l d, (x :: l).getD 0 d = x) ∧ (∀ (x : Fact) l n d, (x :: l).getD (n + 1) d = l.getD n d) ∧
    (∀ n, Region.binds .any { on := n, ground := .data } = true) ∧ (∀ n, Region.binds .any { on := n, ground := .phase } = true) ∧ (∀ n, Region.binds .any { on := n, ground := .chain } = true) ∧ (∀ n, Region.binds .any { on := n, ground := .guard } = true) ∧
    (∀ p : Prop, (True → p) = p) ∧ (∀ p : Prop, (p ∧ True) = p) ∧ (∀ (t : Array Value) d i u, Act.put ⟨t, d⟩ (some i) u = ⟨t.setIfInBounds i u, d⟩) ∧ (∀ (l : List Value) i u, l.toArray.setIfInBounds i u = (l.set i u).toArray) ∧ (∀ (x u : Value) l, (x :: l).set 0 u = u :: l) ∧ (∀ (x u : Value) l n, (x :: l).set (n + 1) u = x :: l.set n u) := by
  refine ⟨fun _ _ _ => rfl, fun _ _ _ _ _ => rfl, fun l => by simp, fun _ _ _ => rfl, fun _ _ _ => rfl, fun _ _ _ => rfl, fun _ _ _ _ => rfl, fun _ => rfl, fun _ => rfl, fun _ => rfl, fun _ => rfl, fun p => by simp, fun p => by simp, fun _ _ _ _ => rfl, fun _ _ _ => by simp, fun _ _ _ => rfl, fun _ _ _ _ => rfl⟩
theorem putRules : (∀ v k a, putAll v k [] a = a) ∧ (∀ v k o r a, putAll v k (o :: r) a = putAll v (k + 1) r (a.put o.dst (v k))) ∧ (∀ (t : Array Value) d i u, Act.put ⟨t, d⟩ (some i) u = ⟨t.setIfInBounds i u, d⟩) ∧ (∀ (l : List Value) i u, l.toArray.setIfInBounds i u = (l.set i u).toArray) ∧ (∀ (x u : Value) l, (x :: l).set 0 u = u :: l) ∧ (∀ (x u : Value) l n, (x :: l).set (n + 1) u = x :: l.set n u) ∧
    (∀ (o : Oper) l n, (o :: l).take (n + 1) = o :: l.take n) ∧ (∀ (l : List Oper), l.take 0 = []) ∧ (∀ l : List Oper, l.toArray.toList = l) := by
  refine ⟨fun _ _ _ => rfl, fun _ _ _ _ _ => rfl, fun _ _ _ _ => rfl, fun _ _ _ => by simp, fun _ _ _ => rfl, fun _ _ _ _ => rfl, fun _ _ _ => rfl, fun _ => rfl, fun l => by simp⟩
theorem endRules : (∀ x u w, (Fact.eq x).p u w = (u = x)) ∧ (∀ (x : Fact) l d, (x :: l).getD 0 d = x) ∧ (∀ (x : Fact) l n d, (x :: l).getD (n + 1) d = l.getD n d) := ⟨fun _ _ _ => rfl, fun _ _ _ => rfl, fun _ _ _ _ => rfl⟩
theorem dropRules : (∀ (o : Oper) l n, (o :: l).drop (n + 1) = l.drop n) ∧ (∀ (l : List Oper), l.drop 0 = l) ∧ (∀ l : List Oper, l.toArray.toList = l) := ⟨fun _ _ _ => rfl, fun _ => rfl, fun l => by simp⟩
end Go.Rv
