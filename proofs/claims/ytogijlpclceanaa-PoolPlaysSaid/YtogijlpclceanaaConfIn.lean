/- The law on drawn regions (Conf), inside a fence: in a round of a range over a function too. -/
import Derived.Test.YtogijlpclceanaaConf2
import Derived.OrdersIn
import Derived.TacticsIn
namespace Go.Rv
open Go.RowKit
set_option linter.unusedVariables false
theorem upon_thenIn {F : Fence} {m : Nat} {P : Program} {o : Oper} {a : Act} {K : Act → World → Prop} {Q : Exit → Act → World → Prop} {r : Result Next} (h : o.uponIn F m P a K (Exit.then K Q) r) : o.uponIn F m P a K Q r := by
  cases r with
  | ok n w' =>
    cases n <;> simp only [Oper.uponIn] at h ⊢
    all_goals first
      | exact h
      | exact ⟨h.1, CallsIn.mono h.2 (fun e w'' he => by cases e <;> exact he)⟩
      | exact ⟨h.1, RoundIn.mono h.2 (fun e w'' he => by cases e <;> exact he)⟩
  | halt x w' => cases x <;> simp only [Oper.uponIn] at h ⊢ <;> exact h
theorem wpOpIn_of_list {F : Fence} {m : Nat} {P : Program} {ops : Array Oper} {K : Act → World → Prop} {Q : Exit → Act → World → Prop} {i : Nat} {o : Oper} {a : Act} {w : World} (ho : ops[i]? = some o) (h : wpListIn F m P ops (Exit.then K Q) [o] a w) : wpOpIn F m P ops Q i K a w := by
  unfold wpOpIn
  simp only [ho]
  simp only [wpListIn] at h
  split
  · rename_i hw
    rw [if_pos hw] at h
    unfold Oper.wpIn at h ⊢
    exact ⟨h.1, upon_thenIn h.2⟩
  · rename_i hw
    rw [if_neg hw] at h
    exact h
theorem wpAnyIn_of_seq {F : Fence} {m : Nat} {P : Program} {md : Region.Mode} {ops : Array Oper} {Q' : Exit → Act → World → Prop} : ∀ (l : List Oper) (k : Nat) (listed : Array Bool) (a : Act) (w : World), (∀ j, l[j]? = ops[k + j]?) →
    Region.seqB md ops l.length k listed = true → wpListIn F m P ops Q' l a w → wpAnyIn F m P md ops Q' l.length listed a w
  | [], _, _, _, _, _, hB, h => ⟨by simpa [Region.seqB] using hB, h⟩
  | o :: l, k, listed, a, w, hl, hB, h => by
    have h0 : ops[k]? = some o := by simpa using (hl 0).symm
    simp only [List.length_cons, Region.seqB, Bool.and_eq_true, decide_eq_true_eq] at hB
    refine ⟨fun h1 => (by rw [hB.1] at h1; cases h1), fun i hi => ?_⟩
    rw [hB.1] at hi
    obtain rfl : i = k := by simpa using hi
    have hw : wpOpIn F m P ops Q' i (wpListIn F m P ops Q' l) a w := by unfold wpOpIn; simp only [h0]; exact h
    exact wpOpIn_mono (fun a' w' h' => wpAnyIn_of_seq l (i + 1) _ a' w' (fun j => by have := hl (j + 1); simpa [Nat.add_assoc, Nat.add_comm 1 j] using this) hB.2 h') hw
def OblIn (F : Fence) (m : Nat) (P : Program) (ops : Array Oper) (Q : Exit → Act → World → Prop) (A : (Nat → Value) → Act) (w0 : World) (Φ : List Fact) (i : Nat) (o : Oper) : Prop :=
  ∀ (v : Nat → Value) (w : World) (K : Act → World → Prop), Below w0.heap.size w0 w → Deps Φ v w o.after.toList →
    (∀ u w', Below w.heap.size w w' → (Φ.getD i Fact.any).p u w' → K ((A v).put o.dst u) w') → wpListIn F m P ops (Exit.then K Q) [o] (A v) w
def OblsIn (F : Fence) (m : Nat) (P : Program) (ops : Array Oper) (Q : Exit → Act → World → Prop) (A : (Nat → Value) → Act) (w0 : World) (Φ : List Fact) : Nat → List Oper → Prop
  | _, [] => True
  | i, o :: r => OblIn F m P ops Q A w0 Φ i o ∧ OblsIn F m P ops Q A w0 Φ (i + 1) r
theorem OblsIn.at {F : Fence} {m : Nat} {P : Program} {ops : Array Oper} {Q : Exit → Act → World → Prop} {A : (Nat → Value) → Act} {w0 : World} {Φ : List Fact} : ∀ {k : Nat} {l : List Oper}, OblsIn F m P ops Q A w0 Φ k l → ∀ {i : Nat} {o : Oper}, l[i]? = some o → OblIn F m P ops Q A w0 Φ (k + i) o
  | _, [], _, _, _, h => by simp at h
  | k, _ :: r, h, 0, _, ho => by simp at ho; subst ho; exact h.1
  | k, _ :: r, h, i + 1, _, ho => by
    have := OblsIn.at h.2 (i := i) (by simpa using ho)
    rwa [show k + 1 + i = k + (i + 1) by omega] at this
theorem confIn_walk {F : Fence} {m : Nat} {P : Program} {ops : Array Oper} {Q : Exit → Act → World → Prop} {a0 : Act} {w0 : World} {n : Nat} {Φ : List Fact} {A : (Nat → Value) → Act} (hok : confOk ops n = true)
    (hA : ∀ v, putAll v 0 (ops.toList.take n) a0 = A v) (ho : OblsIn F m P ops Q A w0 Φ 0 (ops.toList.take n))
    (hend : ∀ v w, Below w0.heap.size w0 w → (∀ j, j < n → (Φ.getD j Fact.any).p (v j) w) → wpListIn F m P ops Q (ops.toList.drop n) (A v) w) :
    ∀ (f : Nat) (listed : Array Bool) (v : Nat → Value) (w : World), HeadInv .any ops n listed → unl listed n = f → Below w0.heap.size w0 w → (∀ j, j < n → listed.getD j false = true → (Φ.getD j Fact.any).p (v j) w) →
      wpAnyIn F m P .any ops Q (f + (ops.size - n)) listed (A v) w := by
  simp only [confOk, Bool.and_eq_true, decide_eq_true_eq] at hok
  obtain ⟨⟨⟨⟨⟨hd, hbk⟩, hn⟩, hs⟩, hc⟩, hq⟩ := hok
  intro f
  induction f with
  | zero =>
    intro listed v w inv hu hB hF
    have hall := unl_zero hu
    have hl : listed = headListed n (ops.size - n) := by
      apply Array.ext
      · simp only [headListed, List.size_toArray, List.length_append, List.length_replicate]
        rw [inv.size]
        omega
      · intro i h1 h2
        have e1 : listed[i] = listed.getD i true := by simp [h1]
        by_cases hin : i < n
        · rw [e1, hall i hin]
          simp only [headListed, List.getElem_toArray]
          rw [List.getElem_append_left (by simpa using hin)]
          simp
        · rw [e1, inv.tail i (by omega) (by rw [← inv.size]; exact h1)]
          simp only [headListed, List.getElem_toArray]
          rw [List.getElem_append_right (by simpa using Nat.le_of_not_lt hin)]
          simp
    rw [Nat.zero_add]
    have hlen : (ops.toList.drop n).length = ops.size - n := by simp
    rw [← hlen]
    refine wpAnyIn_of_seq (ops.toList.drop n) n listed (A v) w (fun j => by simp) (by rw [hlen, hl]; exact hq) (hend v w hB fun j hj => hF j hj ?_)
    have h1 := hall j hj
    have hjs : j < listed.size := by rw [inv.size]; omega
    simp [hjs] at h1 ⊢
    exact h1
  | succ f ih =>
    intro listed v w inv hu hB hF
    obtain ⟨i0, hi0, hun0, hbef⟩ := unl_pos (listed := listed) (k := n) (by omega)
    have hnt := tail_waits hs hc hn inv _ i0 rfl hi0 hun0
    rw [show f + 1 + (ops.size - n) = (f + (ops.size - n)) + 1 by omega]
    refine ⟨fun h => ?_, fun i hi => ?_⟩
    · exfalso
      have hlt : i0 < ops.size := by omega
      have hr : i0 ∈ Region.ready .any ops listed := mem_ready.2 ⟨hun0, ops[i0], by simp, fun e he hb => by
        have hlt2 := edgesBack_spec hbk (i := i0) (o := ops[i0]) (by simp) e he hb
        have h1 := hbef e.on (by omega)
        have hes : e.on < listed.size := by rw [inv.size]; omega
        simp [hes] at h1 ⊢
        exact h1⟩
      rw [h] at hr
      cases hr
    · have hin : i < n := by
        rcases Nat.lt_or_ge i n with h | h
        · exact h
        · exact absurd hi (hnt i h)
      obtain ⟨hui, o, hoi, hdep⟩ := mem_ready.1 hi
      have hoi' : (ops.toList.take n)[i]? = some o := by simp [hin, hoi]
      have ob := ho.at hoi'
      rw [Nat.zero_add] at ob
      refine wpOpIn_of_list hoi (ob v w _ hB ?_ ?_)
      · have hdeps : ∀ l : List Edge, (∀ e ∈ l, e ∈ o.after) → Deps Φ v w l := by
          intro l
          induction l with
          | nil => intro _; exact trivial
          | cons e r ihl =>
            intro hl
            refine ⟨fun hb => hF e.on ?_ (hdep e (hl e (by simp)) hb), ihl fun x hx => hl x (by simp [hx])⟩
            have := edgesBack_spec hbk (i := i) (o := o) (by simpa using hoi) e (hl e (by simp)) hb
            omega
        exact hdeps _ fun e he => by simpa using he
      · intro u w' hBw hR
        rw [← hA v, putAll_upd (k := 0) hd hoi', hA, Nat.zero_add]
        have hsz : w0.heap.size ≤ w.heap.size := hB.size
        refine ih (listed.setIfInBounds i true) (upd v i u) w' (inv.set hi hin) ?_ (hB.trans (hBw.mono hsz)) ?_
        · have := (unl_set hui (k := n)).1 hin
          omega
        · intro j hj hl
          by_cases hji : j = i
          · subst hji
            rw [show upd v j u j = u by simp [upd]]
            exact hR
          · rw [show upd v i u j = v j by simp [upd, hji]]
            rw [getD_set_ne false (Ne.symm hji)] at hl
            exact (Φ.getD j Fact.any).st _ _ _ (hF j hj hl) hBw
theorem wpIn_region_conf {F : Fence} {m : Nat} {P : Program} {ops : Array Oper} {Q : Exit → Act → World → Prop} {a0 : Act} {w0 : World} {id : Nat} (n : Nat) (Φ : List Fact) (A : (Nat → Value) → Act) (hm : P.follows .mixedOrders = true) (hok : confOk ops n = true)
    (hA : ∀ v, putAll v 0 (ops.toList.take n) a0 = A v) (ho : OblsIn F m P ops Q A w0 Φ 0 (ops.toList.take n))
    (hend : ∀ v w, Below w0.heap.size w0 w → (∀ j, j < n → (Φ.getD j Fact.any).p (v j) w) → wpListIn F m P ops Q (ops.toList.drop n) (A v) w) : (Code.region id ops true).wpIn F m P Q a0 w0 := by
  have hok' := hok
  simp only [confOk, Bool.and_eq_true, decide_eq_true_eq] at hok'
  obtain ⟨⟨⟨⟨⟨hd, _⟩, hn⟩, _⟩, _⟩, _⟩ := hok'
  obtain ⟨v, hv⟩ := putAll_self (k := 0) (a := a0) hd
  have inv0 : HeadInv .any ops n (Array.replicate ops.size false) :=
    ⟨by simp, fun j oj _ hl => (by rw [getD_replicate_false] at hl; cases hl), fun t _ ht => getD_in (by simpa using ht) (getD_replicate_false _ _)⟩
  have hu : ∀ k, k ≤ n → unl (Array.replicate ops.size false) k = k := by
    intro k
    induction k with
    | zero => intro _; rfl
    | succ k ih =>
      intro hk
      simp only [unl]
      rw [ih (by omega), getD_in (by simp; omega) (getD_replicate_false _ _)]
      simp
  have h := confIn_walk (w0 := w0) hok hA ho hend n _ v w0.drew inv0 (hu n (Nat.le_refl _)) (Below.refl _ _).drew (fun j hj hl => by rw [getD_replicate_false] at hl; cases hl)
  rw [← hA v, hv, show n + (ops.size - n) = ops.size by omega] at h
  exact wpIn_region_any hm h
theorem wpListIn_guard_yes {F : Fence} {m : Nat} {P : Program} {ops : Array Oper} {rest : List Oper} {Q : Exit → Act → World → Prop} {dst : Option Tmp} {op : Op} {type : TypeId} {pos : String} {after : Array Edge} {g : Nat} {b : Bool} {a : Act} {w : World}
    (hy : yielded ops a.tmps g = some b) (h : wpListIn F m P ops Q (⟨dst, op, type, pos, after, none⟩ :: rest) a w) : wpListIn F m P ops Q (⟨dst, op, type, pos, after, some (g, b)⟩ :: rest) a w := by
  have hw : Region.wanted (⟨dst, op, type, pos, after, some (g, b)⟩ : Oper) (yielded ops a.tmps) = true := by simp [Region.wanted, hy]
  have hn : Region.wanted (⟨dst, op, type, pos, after, none⟩ : Oper) (yielded ops a.tmps) = true := rfl
  simp only [wpListIn, hn, if_true] at h
  simp only [wpListIn, hw, if_true]
  exact h
/-- an operation that reads, where nothing of the world is asked for but that it yields -/
theorem wpListIn_yields {F : Fence} {m : Nat} {P : Program} {ops : Array Oper} {rest : List Oper} {o : Oper} {a : Act} {w : World} {Q : Exit → Act → World → Prop} (hgd : Region.wanted o (yielded ops a.tmps) = true) (v : Value) (hab : o.about P w a.eval = none)
    (hr : (o.semAt F.round a.eval).run P w = .ok (.value v) w) (h : wpListIn F m P ops Q rest (a.put o.dst v) w) : wpListIn F m P ops Q (o :: rest) a w := by
  unfold wpListIn
  rw [if_pos hgd]
  refine ⟨fun f hf => (by rw [hab] at hf; cases hf), ?_⟩
  rw [hr]
  exact h
def OblIn2 (F : Fence) (m : Nat) (P : Program) (ops : Array Oper) (Q : Exit → Act → World → Prop) (A : (Nat → Value) → Act) (w0 : World) (Φ : List Fact) (i : Nat) (o : Oper) : Prop :=
  ∀ (v : Nat → Value) (w : World) (K : Act → World → Prop), Below w0.heap.size w0 w → Deps Φ v w o.after.toList →
    Hid (∀ u w', Below w.heap.size w w' → (Φ.getD i Fact.any).p u w' → K ((A v).put o.dst u) w') → wpListIn F m P ops (Exit.then K Q) [o] (A v) w
def OblsIn2 (F : Fence) (m : Nat) (P : Program) (ops : Array Oper) (Q : Exit → Act → World → Prop) (A : (Nat → Value) → Act) (w0 : World) (Φ : List Fact) : Nat → List Oper → Prop
  | _, [] => True
  | i, o :: r => OblIn2 F m P ops Q A w0 Φ i o ∧ OblsIn2 F m P ops Q A w0 Φ (i + 1) r
theorem oblsIn_of2 {F : Fence} {m : Nat} {P : Program} {ops : Array Oper} {Q : Exit → Act → World → Prop} {A : (Nat → Value) → Act} {w0 : World} {Φ : List Fact} : ∀ {i : Nat} {l : List Oper}, OblsIn2 F m P ops Q A w0 Φ i l → OblsIn F m P ops Q A w0 Φ i l
  | _, [], _ => trivial
  | _, _ :: _, h => ⟨fun v w K hB hd hK => h.1 v w K hB hd (Lib.hid hK), oblsIn_of2 h.2⟩
theorem wpIn_region_conf2 {F : Fence} {m : Nat} {P : Program} {ops : Array Oper} {Q : Exit → Act → World → Prop} {a0 : Act} {w0 : World} {id : Nat} (n : Nat) (Φ : List Fact) (A : (Nat → Value) → Act) (hm : P.follows .mixedOrders = true) (hok : confOk ops n = true)
    (hA : ∀ v, putAll v 0 (ops.toList.take n) a0 = A v) (ho : OblsIn2 F m P ops Q A w0 Φ 0 (ops.toList.take n))
    (hend : ∀ v w, Below w0.heap.size w0 w → (∀ j, j < n → (Φ.getD j Fact.any).p (v j) w) → wpListIn F m P ops Q (ops.toList.drop n) (A v) w) : (Code.region id ops true).wpIn F m P Q a0 w0 :=
  wpIn_region_conf n Φ A hm hok hA (oblsIn_of2 ho) hend
theorem wpListIn_row_on {F : Fence} {m : Nat} {P : Program} {ops : Array Oper} {rest : List Oper} {o : Oper} {a : Act} {w : World} {Q : Exit → Act → World → Prop} (hgd : Region.wanted o (yielded ops a.tmps) = true) (ty : TypeId) (x : Operand) (ho : o.op = .load ty x)
    (g : Nat) (hx : a.eval x = .pointer (some ⟨g, 0, none⟩)) (t : TypeId) (cs : Array Value) (fr : Nat × Nat) (d : TypeDesc) (hg : w.heap[g]? = some (.cells cs t fr))
    (hu : P.underlying ty = some d) (hd : (match d with | .struct _ | .array _ _ => true | _ => false) = true) (hi : (P.info? ty).map (·.size) = some cs.size)
    (h : wpListIn F m P ops Q rest (a.put o.dst (.agg cs)) w) : wpListIn F m P ops Q (o :: rest) a w := by
  refine wpListIn_yields hgd (.agg cs) ?_ ?_ h
  · unfold Oper.about
    rw [ho]
  · have hl := run_loadVar_row w g t ty cs fr d hg hu hd hi
    cases hr : F.round <;> simp [Oper.semAt, ho, execOp, hx, Instr.loadAt, Instr.sureAddr, Sem.run_bind, Sem.run_pure, Result.andThen_ok, hl]
end Go.Rv
