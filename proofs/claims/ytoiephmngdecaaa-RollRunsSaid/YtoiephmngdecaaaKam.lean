/- Proved here: A law over any program: a region that draws its order, in which one operation may turn the blocks of a list, others make blocks; none but what comes last leans on that one; what it gives is told of the world in which it stands; a Data is taken (the roller's data); contracts of the document's Right of an entry, and of the law's turn of an entry; the contract of the document's Read: the number of bytes; the contract of the document's entry of a body (Of); '==' of the document's entries; what an entry of a frame comes to. -/
import Derived.Great.BuildSlice
import Derived.LoopTactic
import Derived.Test.YtoiephmngdecaaaKaa
import Derived.Test.YtoiephmngdecaaaKaf
import Derived.Test.YtoiephmngdecaaaKag
import Derived.Test.YtoiephmngdecaaaKak
import Derived.Test.YtoiephmngdecaaaKal
namespace Go.Rv
open Go.RowKit
set_option linter.unusedVariables false
def Obl11 (S : List Nat) (P : Program) (ops : Array Oper) (Q : Exit → Act → World → Prop) (A : (Nat → Value) → Act) (w0 : World) (F : List (FactS S)) (I : World → Prop) (G : Value → World → Prop) (iw : Nat) (i : Nat) (o : Oper) : Prop :=
  cond (i == iw) (∀ (v : Nat → Value) (w : World) (K : Act → World → Prop), Only S w0 w → I w → DepsS F v w o.after.toList →
      Hid (∀ u w', Only S w w' → G u w' → K ((A v).put o.dst u) w') → wpList P ops (Exit.then K Q) [o] (A v) w)
    (∀ (v : Nat → Value) (w : World) (K : Act → World → Prop), Only S w0 w → DepsS F v w o.after.toList →
      Hid (∀ u w', Below w.heap.size w w' → fpS F i u w' → K ((A v).put o.dst u) w') → wpList P ops (Exit.then K Q) [o] (A v) w)
def Obls11 (S : List Nat) (P : Program) (ops : Array Oper) (Q : Exit → Act → World → Prop) (A : (Nat → Value) → Act) (w0 : World) (F : List (FactS S)) (I : World → Prop) (G : Value → World → Prop) (iw : Nat) : Nat → List Oper → Prop
  | _, [] => True
  | i, o :: r => Obl11 S P ops Q A w0 F I G iw i o ∧ Obls11 S P ops Q A w0 F I G iw (i + 1) r
theorem Obls11.at {S : List Nat} {P : Program} {ops : Array Oper} {Q : Exit → Act → World → Prop} {A : (Nat → Value) → Act} {w0 : World} {F : List (FactS S)} {I : World → Prop} {G : Value → World → Prop} {iw : Nat} : ∀ {k : Nat} {l : List Oper}, Obls11 S P ops Q A w0 F I G iw k l → ∀ {i : Nat} {o : Oper}, l[i]? = some o → Obl11 S P ops Q A w0 F I G iw (k + i) o
  | _, [], _, _, _, h => by simp at h
  | k, _ :: r, h, 0, _, ho => by simp at ho; subst ho; exact h.1
  | k, _ :: r, h, i + 1, _, ho => by
    have := Obls11.at h.2 (i := i) (by simpa using ho)
    rwa [show k + 1 + i = k + (i + 1) by omega] at this
/-- none of the first leans on the writing one -/
def noDep (ops : Array Oper) (n iw : Nat) : Bool := decide (iw < n) && (List.range n).all fun i => match ops[i]? with | some o => o.after.all fun e => !(Region.binds .any e) || !(e.on == iw) | none => true
theorem wp_region_conf11 {P : Program} {ops : Array Oper} {Q : Exit → Act → World → Prop} {a0 : Act} {w0 : World} {id : Nat} (S : List Nat) (n : Nat) (F : List (FactS S)) (iw : Nat) (I : World → Prop) (G : Value → World → Prop) (A : (Nat → Value) → Act) (hm : P.follows .mixedOrders = true) (hok : confOk ops n = true) (hnd : noDep ops n iw = true)
    (hA : ∀ v, putAll v 0 (ops.toList.take n) a0 = A v) (h0 : I w0.drew) (hIb : ∀ w w', I w → Below w.heap.size w w' → I w') (hGb : ∀ u w w', G u w → Below w.heap.size w w' → G u w') (ho : Obls11 S P ops Q A w0 F I G iw 0 (ops.toList.take n))
    (hend : ∀ v w, Only S w0 w → (∀ j, j < n → (j == iw) = false → fpS F j (v j) w) → G (v iw) w → wpList P ops Q (ops.toList.drop n) (A v) w) : (Code.region id ops true).wp P Q a0 w0 := by
  simp only [noDep, Bool.and_eq_true, decide_eq_true_eq, List.all_eq_true, List.mem_range] at hnd; obtain ⟨hiw, hnd⟩ := hnd; refine wp_region_conf3 n (fun L v w => (∀ j, j < n → (j == iw) = false → L.getD j false = true → fpS F j (v j) w) ∧ Only S w0 w ∧ (L.getD iw false = false → I w) ∧ (L.getD iw false = true → G (v iw) w)) A hm hok hA ?_ ?_ ?_
  · intro i o hin hoi L v w K hui hdep ⟨hv, hOw, hI, hG⟩ HK
    have hilt : i < L.size := by
      rcases Nat.lt_or_ge i L.size with h | h
      · exact h
      · simp [Array.getElem?_eq_none h] at hui
    have hif : L.getD i false = false := by simp [hilt] at hui ⊢; exact hui
    have hit : (L.setIfInBounds i true).getD i false = true := by simp [hilt]
    have hdv : ∀ l : List Edge, (∀ e ∈ l, e ∈ o.after) → DepsS F v w l := by
      intro l
      induction l with
      | nil => intro _; exact trivial
      | cons e r ihl =>
        intro hl; refine ⟨fun hb => hv e.on ?_ ?_ (hdep e (hl e (by simp)) hb), ihl fun x hx => hl x (by simp [hx])⟩
        · have hbk : edgesBack 0 ops.toList = true := by
            simp only [confOk, Bool.and_eq_true] at hok; exact hok.1.1.1.1.2
          have := edgesBack_spec hbk (i := i) (o := o) (by simpa using hoi) e (hl e (by simp)) hb; omega
        · have h1 := hnd i hin; rw [hoi] at h1; simp only [Array.all_eq_true] at h1; obtain ⟨k, hk, hke⟩ := Array.getElem_of_mem (hl e (by simp)); have h3 := h1 k hk; rw [hke, hb, Bool.not_true, Bool.false_or] at h3; simpa using h3
    have hdv := hdv o.after.toList (fun e he => by simpa using he); have ob := ho.at (i := i) (o := o) (by simp [hin, hoi]); rw [Nat.zero_add] at ob; unfold Obl11 at ob; cases hiiw : i == iw
    · rw [hiiw] at ob; have hne : i ≠ iw := by simpa using hiiw
      refine ob v w K hOw hdv (Lib.hid fun u w' hB hu => HK.out u w' ⟨fun j hj hjw hl => ?_, hOw.trans (Only.of_below hB), fun h => ?_, fun h => ?_⟩)
      · by_cases hji : j = i
        · subst hji; rw [show upd v j u j = u by simp [upd]]; exact hu
        · rw [show upd v i u j = v j by simp [upd, hji]]; rw [getD_set_ne false (Ne.symm hji)] at hl; exact (hv j hj hjw hl).st (Only.of_below hB)
      · rw [getD_set_ne false hne] at h; exact hIb w w' (hI h) hB
      · rw [getD_set_ne false hne] at h; rw [show upd v i u iw = v iw by simp [upd, Ne.symm hne]]; exact hGb _ w w' (hG h) hB
    · rw [hiiw] at ob; have he : i = iw := by simpa using hiiw
      subst he; refine ob v w K hOw (hI hif) hdv (Lib.hid fun u w' hO hu => HK.out u w' ⟨fun j hj hjw hl => ?_, hOw.trans hO, fun h => ?_, fun h => ?_⟩)
      · have hji : j ≠ i := by simpa using hjw
        rw [show upd v i u j = v j by simp [upd, hji]]; rw [getD_set_ne false (Ne.symm hji)] at hl; exact (hv j hj hjw hl).st hO
      · rw [hit] at h; cases h
      · rw [show upd v i u i = u by simp [upd]]; exact hu
  · intro v; refine ⟨fun j hj _ hl => (by rw [getD_replicate_false] at hl; cases hl), (Only.refl _ _).drew, fun _ => h0, fun h => (by rw [getD_replicate_false] at h; cases h)⟩
  · intro v w ⟨hv, hOw, hI, hG⟩
    have hall : ∀ j, j < n → (headListed n (ops.size - n)).getD j false = true := fun j hj => by
      simp only [headListed]; rw [Array.getD_eq_getD_getElem?, List.getElem?_toArray, List.getElem?_append_left (by simpa using hj)]; simp [hj]
    exact hend v w hOw (fun j hj hjw => hv j hj hjw (hall j hj)) (hG (hall iw hiw))
end Go.Rv
namespace Go.Proofs.Ytoiephmngdecaaa
open Go.RowKit Go.Rv Rl Frm
set_option linter.unusedVariables false
attribute [local go_sem] Oper.semAt_some
theorem filled_ch (c : Ch) (h : ChQ c) (ie : Array Value) (h0 : ie = chC ch0) : Instr.fill (fun i => some (i * 41, 41)) ((Array.range (1 * 41)).map (ie[· % 41]!)) [(0, .agg (chC c))] = some (chC c) := by
  obtain ⟨⟨⟨k, f, c, bl, m, t, l⟩, z, o⟩, s⟩ := c; obtain ⟨fn, rfl⟩ := list_fn l 32 h.1; subst h0; kernel_rfl
/-- a slice of one choice is made -/
theorem wpList_slice1h {w : World} {ops : Array Oper} {rest : List Oper} {o : Oper} {a : Act} {Q : Exit → Act → World → Prop} (hg : o.guard = none) (x : Operand) (ho : o.op = .buildSlice 95 1 #[(0, x)]) (c : Ch) (hq : ChQ c) (X : Array Value) (hX : chC c = X) (hx : a.eval x = .agg X)
    (h : wpList Try.prog ops Q rest (a.put o.dst (.slice (some ⟨w.heap.size, 0, none⟩) 1 1)) (w.alloc (.cells X 104))) : wpList Try.prog ops Q (o :: rest) a w := by
  subst hX; have hi := Try.infoCh
  cases hie : Try.prog.info? 104 with
  | none => rw [hie] at hi; cases hi
  | some ie =>
    rw [hie, Option.map_some, Option.some.injEq, Prod.mk.injEq] at hi; obtain ⟨hz, hs⟩ := hi; refine wpList_buildSlice hg 95 104 1 #[(0, x)] ho (chC c) ie (.agg (chC ch0)) Try.underlying95 hie hz (by rw [hs]; decide) (by rw [hs]; decide) ?_ h; rw [hs]; have h1 := filled_ch c hq _ rfl; simp only [List.map_toArray, List.map_cons, List.map_nil, hx]; exact h1
theorem built_grp (f c : Int) : Try.prog.built 97 [(0, .int .i64 f), (1, .int .i64 c)] = some #[.int .i64 f, .int .i64 c, .slice none 0 0] := by kernel_rfl
def FactS.rowSl {S : List Nat} (B : Nat) (C : Array Value) (t : TypeId) (hS : ∀ x ∈ S, x < B) : FactS S := ⟨fun u w => ∃ g, u = .slice (some ⟨g, 0, none⟩) 1 1 ∧ B ≤ g ∧ w.heap[g]? = some (.cells C t (0, 0)), fun u w w' ⟨g, e, hb, h⟩ hO => ⟨g, e, hb, (hO.block g (Array.getElem?_eq_some_iff.1 h).1 (fun hm => by have := hS _ hm; omega)).trans h⟩⟩
theorem RolIs.pushed {w w' : World} {B q p le ll ce cl sb : Nat} {g : Geo.G} {v : Value} {st : St} (h : RolIs w B q p le ll ce cl sb g v st) {SB : List Nat} (hO : Only SB w w') (hSB : ∀ x ∈ SB, v.ownBlock = some x) (u : Value) (ol : List Ch) (hv : OwnM w' 104 41 chC ChQ B u ol) : RolIs (w'.setCell ⟨q, 259, none⟩ u) B q p le ll ce cl sb g u { st with ol := ol } := by
  obtain ⟨n1, n2, n3, n4, n5, n6, nv⟩ := h.ne; have key : ∀ x ∈ SB, x ≠ q ∧ x ≠ p ∧ x ≠ le ∧ x ≠ ll ∧ x ≠ sb := fun x hx => nv x (hSB x hx); have hq := hO.get h.hq (fun hm => (key _ hm).1 rfl); have h2 := heap_setCell_same w' q 259 _ _ u hq; rw [show (259 : Nat) = 256 + 3 from rfl, rolC_set] at h2; have hO2 : Only [q] w' (w'.setCell ⟨q, 259, none⟩ u) := (Only.refl _ _).setCell (.inl (by simp)) _; have hm := h.hm.only hO (fun hm => (key _ hm).2.1 rfl) (fun hm => (key _ hm).2.2.1 rfl) (fun hm => (key _ hm).2.2.2.1 rfl); refine ⟨h2, hv.only hO2 (fun k hk => ?_), hm.only hO2 (by simp [Ne.symm n1]) (by simp [Ne.symm n2]) (by simp [Ne.symm n3]), hO2.get (hO.get h.hs (fun hm => (key _ hm).2.2.2.2 rfl)) (by simp [Ne.symm n4]), by have h1 := hO.size; have h2 := hO2.size; have := h.hB; omega, h.hok, h.hn, h.hne⟩; obtain ⟨-, C, hC⟩ := hv.base_le hk; simp only [List.mem_singleton]; intro e; subst e; have := hC.symm.trans hq; simp at this
namespace Rl
theorem lieAll_snoc (g : Geo.G) (first : Int) : ∀ (l : List Ch) (i : Nat) (c : Ch) (st : St), lieAll g first (l ++ [c]) i st = lie g (lieAll g first l i st) (first + ((i + l.length : Nat) : Int)) c
  | [], i, c, st => rfl
  | x :: l, i, c, st => by
    have ih := lieAll_snoc g first l (i + 1) c (lie g st (first + (i : Nat)) x); rw [List.cons_append]; unfold lieAll; rw [ih, show i + 1 + l.length = i + (x :: l).length by simp; omega]
theorem lieAll_ol (g : Geo.G) (first : Int) (ol : List Ch) : ∀ (l : List Ch) (i : Nat) (st : St), lieAll g first l i { st with ol := ol } = { lieAll g first l i st with ol := ol }
  | [], _, _ => rfl
  | x :: l, i, st => by
    unfold lieAll; rw [← lieAll_ol g first ol l (i + 1) (lie g st (first + (i : Nat)) x)]; rfl
theorem lieAll_keeps (g : Geo.G) (first : Int) : ∀ (l : List Ch) (i : Nat) (st : St), (lieAll g first l i st).first = st.first ∧ (lieAll g first l i st).count = st.count ∧ (lieAll g first l i st).ol = st.ol ∧ (lieAll g first l i st).applied = st.applied
  | [], _, _ => ⟨rfl, rfl, rfl, rfl⟩
  | x :: l, i, st => by
    unfold lieAll; exact lieAll_keeps g first l (i + 1) (lie g st (first + (i : Nat)) x)
end Rl
end Go.Proofs.Ytoiephmngdecaaa
namespace Go.Proofs.Ytoiephmngdecaaa
open Go.RowKit Go.Rv Frm
set_option linter.unusedVariables false
theorem Try.infoRE : (Try.prog.info? 72).map (fun i => (i.zero, i.size)) = some (some (.agg (EC En.E.zero)), 38) := by kernel_rfl
theorem size_re {e : En.E} (h : e.bytes.length = 32) : (Try.prog.info? 72).map (·.size) = some (EC e).size := by rw [EC_size, h]; exact (zero_of_info Try.infoRE).2
theorem Try.infoA32 : (Try.prog.info? 62).map (fun i => (i.zero, i.size)) = some (some (.agg (byteCells (List.replicate 32 0))), 32) := by kernel_rfl
set_option maxRecDepth 100000 in
set_option maxHeartbeats 4000000 in
theorem rright_core (k f c b m t : Int) (C : Array Value) (BL : List Value) (bz : Bool) (w : World)
    (hc : ∀ W : World, W.heap[w.heap.size]? = some (.cells C 72 (0, 0)) → (W.cell? ⟨w.heap.size, 0, none⟩ = some (.int .i64 k) ∧ W.cell? ⟨w.heap.size, 1, none⟩ = some (.int .i64 f) ∧ W.cell? ⟨w.heap.size, 2, none⟩ = some (.int .i64 c) ∧ W.cell? ⟨w.heap.size, 3, none⟩ = some (.int .i64 b) ∧ W.cell? ⟨w.heap.size, 4, none⟩ = some (.int .i64 m) ∧ W.cell? ⟨w.heap.size, 5, none⟩ = some (.int .i64 t)) ∧ W.rangeAt w.heap.size 6 BL)
    (hIL : (Try.prog.info? 62).map (·.size) = some BL.length) (hq : ∀ W, (Op.equalIn 10000 62 (.agg BL.toArray) (.agg #[.int .u8 0, .int .u8 0, .int .u8 0, .int .u8 0, .int .u8 0, .int .u8 0, .int .u8 0, .int .u8 0, .int .u8 0, .int .u8 0, .int .u8 0, .int .u8 0, .int .u8 0, .int .u8 0, .int .u8 0, .int .u8 0, .int .u8 0, .int .u8 0, .int .u8 0, .int .u8 0, .int .u8 0, .int .u8 0, .int .u8 0, .int .u8 0, .int .u8 0, .int .u8 0, .int .u8 0, .int .u8 0, .int .u8 0, .int .u8 0, .int .u8 0, .int .u8 0])).run Try.prog W = .ok bz W) :
    Calls Try.prog 61 #[.agg C] w fun x w' => x = .returned (.bool (if decide (f < 0) = true then false else if decide (281474976710655 < f) = true then false else if decide (b < 0) = true then false else if decide (255 < b) = true then false else if decide (t < 0) = true then false else if decide (65535 < t) = true then false else if decide (c < 1) = true then false else if (k == 1) = true then (decide (c ≤ 4) && (m == 0)) else if (k == 2) = true then ((c == 1) && (decide (1 ≤ m) && (decide (m ≤ 256 - b) && bz))) else ((k == 3) && ((c == 1) && (m == 0))))) ∧ Below w.heap.size w w' := by
  obtain ⟨W0, hW0⟩ : ∃ W0, w.alloc (.cells C 72) = W0 := ⟨_, rfl⟩; have hE0 : W0.heap[w.heap.size]? = some (.cells C 72 (0, 0)) := by rw [← hW0]; exact heap_alloc_new w _
  have hB : Below w.heap.size w W0 := by rw [← hW0]; exact (Below.refl _ w).alloc (Nat.le_refl _) _
  obtain ⟨⟨c0, c1, c2, c3, c4, c5⟩, hmid⟩ := hc W0 hE0; have HW0 := Lib.hid hW0; have HIL := Lib.hid hIL; have HQ := Lib.hid hq; have HMID := Lib.hid hmid; clear hW0 hE0 hc hIL hq hmid; by_cases t1 : decide (f < 0) = true
  · rw [if_pos t1]; go_enter Try.func61, Try.ntmps61; go_upto_region 1 with (fail); rw [HW0.out]; go_wp2; go_ret; exact ⟨rfl, hB⟩
  rw [if_neg t1]; rw [Bool.not_eq_true] at t1; by_cases t2 : decide (281474976710655 < f) = true
  · rw [if_pos t2]; go_enter Try.func61, Try.ntmps61; go_upto_region 1 with (fail); rw [HW0.out]; go_wp2; go_ret; exact ⟨rfl, hB⟩
  rw [if_neg t2]; rw [Bool.not_eq_true] at t2; by_cases t3 : decide (b < 0) = true
  · rw [if_pos t3]; go_enter Try.func61, Try.ntmps61; go_upto_region 1 with (fail); rw [HW0.out]; go_wp2; go_ret; exact ⟨rfl, hB⟩
  rw [if_neg t3]; rw [Bool.not_eq_true] at t3; by_cases t4 : decide (255 < b) = true
  · rw [if_pos t4]; go_enter Try.func61, Try.ntmps61; go_upto_region 1 with (fail); rw [HW0.out]; go_wp2; go_ret; exact ⟨rfl, hB⟩
  rw [if_neg t4]; rw [Bool.not_eq_true] at t4; by_cases t5 : decide (t < 0) = true
  · rw [if_pos t5]; go_enter Try.func61, Try.ntmps61; go_upto_region 1 with (fail); rw [HW0.out]; go_wp2; go_ret; exact ⟨rfl, hB⟩
  rw [if_neg t5]; rw [Bool.not_eq_true] at t5; by_cases t6 : decide (65535 < t) = true
  · rw [if_pos t6]; go_enter Try.func61, Try.ntmps61; go_upto_region 1 with (fail); rw [HW0.out]; go_wp2; go_ret; exact ⟨rfl, hB⟩
  rw [if_neg t6]; rw [Bool.not_eq_true] at t6; by_cases t7 : decide (c < 1) = true
  · rw [if_pos t7]; go_enter Try.func61, Try.ntmps61; go_upto_region 1 with (fail); rw [HW0.out]; go_wp2; go_ret; exact ⟨rfl, hB⟩
  rw [if_neg t7]; rw [Bool.not_eq_true] at t7; have hb0 : 0 ≤ b := by have := of_decide_eq_false t3; omega
  have hb1 : b ≤ 255 := by have := of_decide_eq_false t4; omega
  by_cases t8 : (k == 1) = true
  · rw [if_pos t8]; cases u1 : decide (c ≤ 4)
    · go_enter Try.func61, Try.ntmps61; go_upto_region 1 with (fail); rw [HW0.out]; go_wp2; go_ret; exact ⟨rfl, hB⟩
    · skip; cases u2 : m == 0
      · go_enter Try.func61, Try.ntmps61; go_upto_region 1 with (fail); rw [HW0.out]; go_wp2; go_ret; exact ⟨rfl, hB⟩
      · go_enter Try.func61, Try.ntmps61; go_upto_region 1 with (fail); rw [HW0.out]; go_wp2; go_ret; exact ⟨rfl, hB⟩
  rw [if_neg t8]; rw [Bool.not_eq_true] at t8; by_cases t9 : (k == 2) = true
  · rw [if_pos t9]; cases u1 : c == 1
    · go_enter Try.func61, Try.ntmps61; go_upto_region 1 with (fail); rw [HW0.out]; go_wp2; go_ret; exact ⟨rfl, hB⟩
    · skip; cases u2 : decide (1 ≤ m)
      · go_enter Try.func61, Try.ntmps61; go_upto_region 1 with (fail); rw [HW0.out]; go_wp2; go_ret; exact ⟨rfl, hB⟩
      · skip; cases u3 : decide (m ≤ 256 - b)
        · go_enter Try.func61, Try.ntmps61; go_upto_region 1 with (fail); rw [HW0.out]; go_wp2; go_ret; exact ⟨rfl, hB⟩
        · go_enter Try.func61, Try.ntmps61; go_upto_region 1 with (fail); rw [HW0.out]; have hq := HQ.out; go_wp2_with (refine wpList_load_mid_asked (by rfl) 62 _ rfl w.heap.size 6 rfl BL _ HMID.out Try.underlying62 rfl HIL.out ?_); go_ret; exact ⟨rfl, hB⟩
  rw [if_neg t9]; rw [Bool.not_eq_true] at t9; cases u1 : k == 3
  · go_enter Try.func61, Try.ntmps61; go_upto_region 1 with (fail); rw [HW0.out]; go_wp2; go_ret; exact ⟨rfl, hB⟩
  · skip; cases u2 : c == 1
    · go_enter Try.func61, Try.ntmps61; go_upto_region 1 with (fail); rw [HW0.out]; go_wp2; go_ret; exact ⟨rfl, hB⟩
    · skip; cases u3 : m == 0
      · go_enter Try.func61, Try.ntmps61; go_upto_region 1 with (fail); rw [HW0.out]; go_wp2; go_ret; exact ⟨rfl, hB⟩
      · go_enter Try.func61, Try.ntmps61; go_upto_region 1 with (fail); rw [HW0.out]; go_wp2; go_ret; exact ⟨rfl, hB⟩
set_option maxRecDepth 100000 in
theorem rright_any (e : En.E) (w : World) (hb : EBody e) :
    Calls Try.prog 61 #[.agg (EC e)] w fun x w' => x = .returned (.bool (En.right e)) ∧ Below w.heap.size w w' := by
  have h := rright_core e.kind e.first e.count e.block e.many e.mate (EC e) (byteCells e.bytes).toList (decide (e.bytes = List.replicate 32 0)) w (fun W hW => ⟨ent_cells hW, ent_range hW⟩)
    (by rw [Array.length_toList, size_byteCells, hb.1]; exact (zero_of_info Try.infoA32).2) (fun W => by rw [Array.toArray_toList]; exact eq_arr32 e.bytes (List.replicate 32 0) hb.1 (by simp) hb.2 (by simp) _ (by simp) W)
  refine h.mono ?_; rintro x w' ⟨rfl, hB⟩; refine ⟨?_, hB⟩; congr 2; unfold En.right En.counts En.inB; by_cases t1 : e.first < 0
  · simp [t1]; omega
  by_cases t2 : 281474976710655 < e.first
  · simp [t2]; omega
  by_cases t3 : e.block < 0
  · simp [t3]; omega
  by_cases t4 : 255 < e.block
  · simp [t4]; omega
  by_cases t5 : e.mate < 0
  · simp [t5]; omega
  by_cases t6 : 65535 < e.mate
  · simp [t6]; omega
  have a1 : decide (0 ≤ e.first) = true := decide_eq_true (by omega); have a2 : decide (e.first ≤ 281474976710655) = true := decide_eq_true (by omega); have a3 : decide (0 ≤ e.block) = true := decide_eq_true (by omega); have a4 : decide (e.block ≤ 255) = true := decide_eq_true (by omega); have a5 : decide (0 ≤ e.mate) = true := decide_eq_true (by omega); have a6 : decide (e.mate ≤ 65535) = true := decide_eq_true (by omega); simp only [decide_eq_false t1, decide_eq_false t2, decide_eq_false t3, decide_eq_false t4, decide_eq_false t5, decide_eq_false t6, a1, a2, a3, a4, a5, a6, Bool.true_and, Bool.false_eq_true, if_false]; by_cases t7 : e.count < 1
  · have b1 : decide (1 ≤ e.count) = false := decide_eq_false (by omega); have b2 : (e.count == 1) = false := by simp; omega
    simp only [decide_eq_true t7, b1, b2, if_true, Bool.false_and, Bool.and_false]; split <;> simp
  · have b1 : decide (1 ≤ e.count) = true := decide_eq_true (by omega); simp only [decide_eq_false t7, b1, Bool.false_eq_true, if_false, Bool.true_and]; split
    · rfl
    · split
      · cases (e.count == 1) <;> cases decide (1 ≤ e.many) <;> simp
      · rfl
end Go.Proofs.Ytoiephmngdecaaa
namespace Go.Proofs.Ytoiephmngdecaaa
open Go.RowKit Go.Rv
set_option linter.unusedVariables false
set_option maxRecDepth 100000 in
set_option maxHeartbeats 400000 in
theorem rread_any (a : Option Addr) (l : List Nat) (cap : Nat) (w : World) (hb : Bytes w a l) (hlen : l.length ≤ 7) :
    Calls Try.prog 60 #[.slice a l.length cap] w fun e w' => e = .returned (.int .i64 (Cod.rd l : Nat)) ∧ w = w' := by
  go_enter Try.func60, Try.ntmps60; go_wp2
  go_loop [3, 4] (fun v i => ∃ k : Nat, k ≤ l.length ∧ i = .int .i64 ((k : Int) - 1) ∧ v = .int .i64 (Cod.rd (l.drop k) : Nat)) (fun _ i => (intOf i + 1).toNat)
  case atStart => exact ⟨l.length, by omega, rfl, by simp [Cod.rd]⟩
  case round =>
    obtain ⟨k, hk, rfl, rfl⟩ := hrel; by_cases hlt : 0 < k
    · obtain ⟨j, rfl⟩ : ∃ j, k = j + 1 := ⟨k - 1, by omega⟩; obtain ⟨b1, o1, c, rfl, hbl, hc, hc8, hlk⟩ := hb.at (show j < l.length by omega); have hs := Lib.hid (Cod.rd_drop l j c hlk); have hlt := Cod.rd_drop_lt l hb.1 (j + 1); have hpw := (Cod.pow_le (l.length - (j + 1)) (by omega)).1; have hpw6 := Cod.pw_le6 (l.length - (j + 1)) (by omega); unfold Cod.pw at hpw6; have hx : Cod.rd (l.drop (j + 1)) < 281474976710656 := Nat.lt_of_lt_of_le hlt hpw6; clear hlt hpw hpw6 hlk; generalize Cod.rd (l.drop (j + 1)) = x at *; have e1 : ((j + 1 : Nat) : Int) - 1 = (j : Int) := by omega
      rw [e1]; go_wp2; go_round
      case rel => exact ⟨j, by omega, rfl, by rw [hs.out]; go_num⟩
      case measure => simp [intOf]
    · obtain rfl : k = 0 := by omega
      go_wp2; go_ret; exact ⟨by simp, rfl⟩
end Go.Proofs.Ytoiephmngdecaaa
namespace Go.Proofs.Ytoiephmngdecaaa
open Go.RowKit Go.Rv Frm
set_option linter.unusedVariables false
def rowOfFact (B : Nat) (C : Array Value) (t : TypeId) : Fact := ⟨fun u w => ∃ g, u = .pointer (some ⟨g, 0, none⟩) ∧ B ≤ g ∧ w.heap[g]? = some (.cells C t (0, 0)), fun u w w' ⟨g, e, hb, h⟩ hB => ⟨g, e, hb, (hB.block g (Array.getElem?_eq_some_iff.1 h).1).trans h⟩⟩
theorem built_re6 (k f c b m t : Int) : Try.prog.built 72 [(0, .int .i64 k), (1, .int .i64 f), (2, .int .i64 c), (3, .int .i64 b), (4, .int .i64 m), (5, .int .i64 t)] = some (EC ⟨k, f, c, b, m, t, List.replicate 32 0⟩) := by kernel_rfl
theorem built_re0 : Try.prog.built 72 [] = some (EC En.E.zero) := by kernel_rfl
/-- the bytes, k of them filled -/
def part32 (l : List Nat) (k : Nat) : List Nat := l.take k ++ List.replicate (32 - k) 0
theorem part32_length (l : List Nat) (k : Nat) (hl : l.length = 32) (h : k ≤ 32) : (part32 l k).length = 32 := by simp [part32, hl]; omega
theorem part32_set (l : List Nat) (k : Nat) (hl : l.length = 32) (h : k < 32) : (part32 l k).set k (l.getD k 0) = part32 l (k + 1) := by
  unfold part32; rw [List.set_append_right _ _ (by simp [hl]; omega), List.length_take, hl, show k - min k 32 = 0 by omega, show 32 - k = (32 - (k + 1)) + 1 by omega, List.replicate_succ, List.set_cons_zero, List.take_succ_eq_append_getElem (show k < l.length by omega), List.append_assoc, List.getD_eq_getElem?_getD, List.getElem?_eq_getElem (show k < l.length by omega)]; rfl
theorem part32_all (l : List Nat) (hl : l.length = 32) : part32 l 32 = l := by simp [part32, List.take_of_length_le (show l.length ≤ 32 by omega)]
theorem EC_set_byte (f : En.E) (k c : Nat) : (EC f).setIfInBounds (6 + k) (.int .u8 (c : Nat)) = EC { f with bytes := f.bytes.set k c } := by
  apply Array.toList_inj.1; simp only [EC, Array.toList_setIfInBounds, Array.toList_append]; rw [List.set_append_right _ _ (by simp)]; simp [byteCells, List.map_set]
def RofPost (r : En.E × Int) (w : World) (e : Ending) (w' : World) : Prop := e = .returned (.tuple #[.agg (EC r.1), .bool (decide (r.2 = 0))]) ∧ Below w.heap.size w w'
set_option maxRecDepth 100000 in
set_option maxHeartbeats 4000000 in
theorem rof_any (kind : Int) (s : List Nat) (w : World) (hl : s.length = 44) (hs : ∀ c ∈ s, c < 256) :
    Calls Try.prog 42 #[.int .i64 kind, .agg (byteCells s)] w (RofPost (En.ofE kind s) w) := by
  have hz := (zero_of_info Try.infoRE).1; have HIZ := Lib.hid (size_re (e := En.E.zero) (by simp [En.E.zero])); have hone := EC_one En.E.zero; have HBZ := Lib.hid built_re0; have hA0 := heap_alloc2_old w (.cells (byteCells s) 57) (.cells (EC En.E.zero) 72); have hC0 := heap_alloc2_new w (.cells (byteCells s) 57) (.cells (EC En.E.zero) 72); have hB0 : Below w.heap.size w ((w.alloc (.cells (byteCells s) 57)).alloc (.cells (EC En.E.zero) 72)) := ((Below.refl _ w).alloc (Nat.le_refl _) _).alloc (by simp) _; have HL := Lib.hid hl; have HS := Lib.hid hs; have HBW := Lib.hid (fun (W : World) (h : W.heap[w.heap.size]? = some (.cells (byteCells s) 57 (0, 0))) => byteCells_row h hs)
  have hrd := fun (a b : Nat) (h : b ≤ 7) (hab : a + b ≤ 44) (cap : Nat) (W : World) (hb : Bytes W (some ⟨w.heap.size, 0, none⟩) s) => (show Calls Try.prog 60 #[.slice (some ⟨w.heap.size, a, none⟩) b cap] W fun e w' => e = .returned (.int .i64 (Cod.rd ((s.drop a).take b) : Nat)) ∧ W = w' by
    have hb2 := (hb.drop a).take b; rw [Nat.zero_add] at hb2; have hlen : ((s.drop a).take b).length = b := by rw [List.length_take, List.length_drop, HL.out]; omega
    have := rread_any (some ⟨w.heap.size, a, none⟩) ((s.drop a).take b) cap W hb2 (by omega)
    rwa [hlen] at this)
  have HRD := Lib.hid hrd; have HC0 := Lib.hid (fun (W : World) (j : Nat) (h : W.heap[w.heap.size]? = some (.cells (byteCells s) 57 (0, 0))) (hj : j < 44) => (show W.cell? ⟨w.heap.size, j, none⟩ = some (.int .u8 (s.getD j 0 : Nat)) from (cell_of_row _ _ _ _ _ _ h).trans (byteCells_at s j (by rw [HL.out]; exact hj)))); obtain ⟨k6, hk6⟩ : ∃ k, s.getD 6 0 = k := ⟨_, rfl⟩; obtain ⟨k7, hk7⟩ : ∃ k, s.getD 7 0 = k := ⟨_, rfl⟩
  have hk6b : k6 < 256 := by
    rw [← hk6, List.getD_eq_getElem?_getD, List.getElem?_eq_getElem (by omega)]; exact hs _ (List.getElem_mem _)
  have hk7b : k7 < 256 := by
    rw [← hk7, List.getD_eq_getElem?_getD, List.getElem?_eq_getElem (by omega)]; exact hs _ (List.getElem_mem _)
  have hone1 : ∀ j, j < 44 → Cod.rd ((s.drop j).take 1) = s.getD j 0 := fun j h => by
    have hjl : j < s.length := by omega
    have h1 : (s.drop j).take 1 = [s[j]] := by rw [List.drop_eq_getElem_cons hjl]; rfl
    rw [h1, List.getD_eq_getElem?_getD, List.getElem?_eq_getElem hjl]; show s[j] + 256 * 0 = s[j]; omega
  obtain ⟨f0, hf0⟩ : ∃ f0 : En.E, f0 = ⟨kind, (Cod.rd ((s.drop 0).take 6) : Nat), (k6 : Nat), (k7 : Nat), (Cod.rd ((s.drop 8).take 2) : Nat), (Cod.rd ((s.drop 10).take 2) : Nat), List.replicate 32 0⟩ := ⟨_, rfl⟩; have hbu := built_re6 kind (Cod.rd ((s.drop 0).take 6) : Nat) (k6 : Nat) (k7 : Nat) (Cod.rd ((s.drop 8).take 2) : Nat) (Cod.rd ((s.drop 10).take 2) : Nat); rw [← hf0] at hbu
  have hpar : En.parse kind s = { f0 with bytes := (s.drop 12).take 32 } := by
    rw [hf0]; unfold En.parse; rw [hone1 6 (by omega), hone1 7 (by omega), hk6, hk7, List.drop_zero]
  have HPAR := Lib.hid hpar; have HIX0 := Lib.hid (size_re (e := f0) (by rw [hf0]; simp)); have H1X0 := Lib.hid (EC_one f0); have HF0 := Lib.hid hf0; have HK6 := Lib.hid hk6; have HK7 := Lib.hid hk7; obtain ⟨X0, hX0⟩ : ∃ X0, EC f0 = X0 := ⟨_, rfl⟩; obtain ⟨Z, hZ⟩ : ∃ Z, EC En.E.zero = Z := ⟨_, rfl⟩; obtain ⟨BS, hBS⟩ : ∃ BS, byteCells s = BS := ⟨_, rfl⟩; have HZX0 : Hid (Z.size = X0.size) := Lib.hid (by rw [← hX0, ← hZ, EC_size, EC_size, hf0]; rfl); rw [hX0] at hbu HIX0 H1X0; rw [hZ] at hz HIZ hone HBZ hA0 hC0 hB0; rw [hBS] at hA0 hC0 hB0 HBW HC0 ⊢; have HX0 := Lib.hid hX0; have HZ := Lib.hid hZ; have HBU := Lib.hid hbu; clear hrd hl hs hk6 hk7 hone1 hf0 hbu hpar hX0 hZ hBS; have zz : w.heap.size + 1 + 1 ≤ ((w.alloc (.cells BS 57)).alloc (.cells Z 72)).heap.size := by simp
  go_enter Try.func42, Try.ntmps42; go_upto_region 1 with (fail); obtain ⟨W0, hW0⟩ : ∃ W0, (w.alloc (.cells BS 57)).alloc (.cells Z 72) = W0 := ⟨_, rfl⟩; rw [hW0] at hA0 hC0 hB0 zz ⊢; have HA1 := Lib.hid hA0; have HC1 := Lib.hid hC0; have HB1 := Lib.hid hB0; have n0 : w.heap.size < W0.heap.size := by omega
  have n1 : w.heap.size + 1 < W0.heap.size := by omega
  have HZB : Hid (W0.heap.size ≤ W0.heap.size) := Lib.hid (Nat.le_refl _); clear hW0 hA0 hC0 hB0; go_wp2; refine wp_region_conf2 20 [Fact.eq ?rax0, Fact.eq ?rax1, Fact.eq ?rax2, Fact.eq ?rax3, Fact.eq ?rax4, Fact.eq ?rax5, Fact.eq ?rax6, Fact.eq ?rax7, Fact.eq ?rax8, Fact.eq ?rax9, Fact.eq ?rax10, Fact.eq ?rax11, Fact.eq ?rax12, Fact.eq ?rax13, Fact.eq ?rax14, Fact.eq ?rax15, Fact.eq ?rax16, Fact.eq ?rax17, Fact.eq (.agg X0), rowOfFact W0.heap.size Z 72] ?raA (by kernel_rfl) (by kernel_rfl) ?rahA ?raho ?rahend
  case rahA =>
    intro vv; simp only [putRules, Nat.reduceAdd]; rfl
  case raho =>
    refine ⟨?_, ?_, ?_, ?_, ?_, ?_, ?_, ?_, ?_, ?_, ?_, ?_, ?_, ?_, ?_, ?_, ?_, ?_, ?_, ?_, trivial⟩
    · intro vv W K hB hd HK; simp only [confRules] at HK; clear hd; go_wp2; refine HK.out _ _ (Below.refl _ _) ?_; rfl
    · intro vv W K hB hd HK; simp only [confRules] at HK; clear hd; go_wp2; refine HK.out _ _ (Below.refl _ _) ?_; rfl
    · intro vv W K hB hd HK; simp only [confRules] at hd HK; have h1 := hd; clear hd; simp only [h1] at HK ⊢; clear h1; go_wp2; refine HK.out _ _ (Below.refl _ _) ?_; rfl
    · intro vv W K hB hd HK; simp only [confRules] at hd HK; have h2 := hd; clear hd; simp only [h2] at HK ⊢; clear h2; have hT := HBW.out W ((hB.block w.heap.size n0).trans HA1.out); go_wp2_with (refine (HRD.out 0 6 (by omega) (by omega) _ _ hT).mono ?_; rintro e w9 ⟨rfl, rfl⟩); refine HK.out _ _ (Below.refl _ _) ?_; rfl
    · intro vv W K hB hd HK; simp only [confRules] at HK; clear hd; go_wp2; refine HK.out _ _ (Below.refl _ _) ?_; rfl
    · intro vv W K hB hd HK; simp only [confRules] at hd HK; have h4 := hd; clear hd; simp only [h4] at HK ⊢; clear h4; go_wp2; refine HK.out _ _ (Below.refl _ _) ?_; rfl
    · intro vv W K hB hd HK; simp only [confRules] at hd HK; have h5 := hd; clear hd; simp only [h5] at HK ⊢; clear h5; have hT := HC0.out W 6 ((hB.block w.heap.size n0).trans HA1.out) (by omega); rw [HK6.out] at hT; go_wp2; refine HK.out _ _ (Below.refl _ _) ?_; rfl
    · intro vv W K hB hd HK; simp only [confRules] at hd HK; have h6 := hd; clear hd; simp only [h6] at HK ⊢; clear h6; go_wp2; refine HK.out _ _ (Below.refl _ _) ?_; rfl
    · intro vv W K hB hd HK; simp only [confRules] at HK; clear hd; go_wp2; refine HK.out _ _ (Below.refl _ _) ?_; rfl
    · intro vv W K hB hd HK; simp only [confRules] at hd HK; have h8 := hd; clear hd; simp only [h8] at HK ⊢; clear h8; go_wp2; refine HK.out _ _ (Below.refl _ _) ?_; rfl
    · intro vv W K hB hd HK; simp only [confRules] at hd HK; have h9 := hd; clear hd; simp only [h9] at HK ⊢; clear h9; have hT := HC0.out W 7 ((hB.block w.heap.size n0).trans HA1.out) (by omega); rw [HK7.out] at hT; go_wp2; refine HK.out _ _ (Below.refl _ _) ?_; rfl
    · intro vv W K hB hd HK; simp only [confRules] at hd HK; have h10 := hd; clear hd; simp only [h10] at HK ⊢; clear h10; go_wp2; refine HK.out _ _ (Below.refl _ _) ?_; rfl
    · intro vv W K hB hd HK; simp only [confRules] at HK; clear hd; go_wp2; refine HK.out _ _ (Below.refl _ _) ?_; rfl
    · intro vv W K hB hd HK; simp only [confRules] at hd HK; have h12 := hd; clear hd; simp only [h12] at HK ⊢; clear h12; go_wp2; refine HK.out _ _ (Below.refl _ _) ?_; rfl
    · intro vv W K hB hd HK; simp only [confRules] at hd HK; obtain ⟨h13, h3⟩ := hd; simp only [h13, h3] at HK ⊢; clear h13 h3; have hT := HBW.out W ((hB.block w.heap.size n0).trans HA1.out); go_wp2_with (refine (HRD.out 8 2 (by omega) (by omega) _ _ hT).mono ?_; rintro e w9 ⟨rfl, rfl⟩); refine HK.out _ _ (Below.refl _ _) ?_; rfl
    · intro vv W K hB hd HK; simp only [confRules] at HK; clear hd; go_wp2; refine HK.out _ _ (Below.refl _ _) ?_; rfl
    · intro vv W K hB hd HK; simp only [confRules] at hd HK; have h15 := hd; clear hd; simp only [h15] at HK ⊢; clear h15; go_wp2; refine HK.out _ _ (Below.refl _ _) ?_; rfl
    · intro vv W K hB hd HK; simp only [confRules] at hd HK; obtain ⟨h16, h14⟩ := hd; simp only [h16, h14] at HK ⊢; clear h16 h14; have hT := HBW.out W ((hB.block w.heap.size n0).trans HA1.out); go_wp2_with (refine (HRD.out 10 2 (by omega) (by omega) _ _ hT).mono ?_; rintro e w9 ⟨rfl, rfl⟩); refine HK.out _ _ (Below.refl _ _) ?_; rfl
    · intro vv W K hB hd HK; simp only [confRules] at hd HK; obtain ⟨h0, h3, h7, h11, h14, h17⟩ := hd; simp only [h0, h3, h7, h11, h14, h17] at HK ⊢; clear h0 h3 h7 h11 h14 h17; go_wp2_with (refine wpList_build_asked (by rfl) 72 _ rfl #[(0, .int .i64 kind), (1, .int .i64 (Cod.rd ((s.drop 0).take 6) : Nat)), (2, .int .i64 (k6 : Nat)), (3, .int .i64 (k7 : Nat)), (4, .int .i64 (Cod.rd ((s.drop 8).take 2) : Nat)), (5, .int .i64 (Cod.rd ((s.drop 10).take 2) : Nat))] (by simp [Act.eval]) X0 HBU.out ?_); refine HK.out _ _ (Below.refl _ _) ?_; rfl
    · intro vv W K hB hd HK; simp only [confRules] at HK; clear hd; go_wp2; refine HK.out _ _ ((Below.refl _ _).alloc (Nat.le_refl _) _) ?_; exact ⟨_, rfl, Nat.le_trans HZB.out hB.size, heap_alloc_new _ _⟩
  case rahend =>
    intro vv W hB hf; have e18 := hf 18 (by decide); obtain ⟨g, e19, lg, rg⟩ := hf 19 (by decide); simp only [endRules] at e18; simp only [e18, e19, dropRules]; clear hf e18 e19; go_upto_region 3 with (refine wpList_store_row rfl 72 _ _ rfl g X0 rfl rfl 72 Z rg HIX0.out HZX0.out H1X0.out ?_); have hgN : w.heap.size + 1 < g := by omega
    have hbs := below_setRow (Below.refl g W) (Nat.le_refl _) X0; have rg3 := setRow_heap W g Z X0 _ _ rg; have hA3 := (hbs.block w.heap.size (by omega)).trans ((hB.block w.heap.size n0).trans HA1.out); have hC3 := (hbs.block (w.heap.size + 1) hgN).trans ((hB.block (w.heap.size + 1) n1).trans HC1.out); have hB3 := below_setRow (HB1.out.trans (hB.mono HB1.out.size)) (show w.heap.size ≤ g by omega) X0; obtain ⟨W3, hW3⟩ : ∃ W3, W.setRow g X0 = W3 := ⟨_, rfl⟩; rw [hW3] at rg3 hA3 hC3 hB3 ⊢; have hz3 : g < W3.heap.size := (Array.getElem?_eq_some_iff.1 rg3).1; obtain ⟨l, hl⟩ : ∃ l, (s.drop 12).take 32 = l := ⟨_, rfl⟩; have hll : l.length = 32 := by rw [← hl, List.length_take, List.length_drop, HL.out]; rfl
    have hlg : ∀ k, k < 32 → l.getD k 0 = s.getD (12 + k) 0 := by
      intro k hk; rw [← hl, List.getD_eq_getElem?_getD, List.getD_eq_getElem?_getD, List.getElem?_take, if_pos hk, List.getElem?_drop]
    have hP0 : ({ f0 with bytes := part32 l 0 } : En.E) = f0 := by
      have : part32 l 0 = f0.bytes := by rw [HF0.out]; simp [part32]
      rw [this]
    have HLL := Lib.hid hll; have HLG := Lib.hid hlg; have HP0 := Lib.hid hP0; have HLS := Lib.hid hl; have HR3 := Lib.hid rg3; have HA3 := Lib.hid hA3; have HC3 := Lib.hid hC3; have HBB3 := Lib.hid hB3; clear hl hll hlg hP0 hbs hW3 hA3 hC3 rg3 rg hB3 hB; go_wp2; go_loopw [8] (fun i wr => ∃ k : Nat, k ≤ 32 ∧ i = .int .i64 k ∧ wr.heap[g]? = some (.cells (EC { f0 with bytes := part32 l k }) 72 (0, 0)) ∧ Only [g] W3 wr) (fun i _ => 32 - (intOf i).toNat)
    case atStart => exact ⟨0, by omega, rfl, by rw [HP0.out, HX0.out]; exact HR3.out, Only.refl _ _⟩
    case round =>
      obtain ⟨k, hk, rfl, hg, hO⟩ := hrel; have hA := (hO.block w.heap.size (by omega) (by simp; omega)).trans HA3.out; by_cases hlt : k < 32
      · have hpl := part32_length l k HLL.out hk; have hc := HC0.out wr (12 + k) hA (by omega); rw [← HLG.out k hlt] at hc; have hc2 : wr.cell? ⟨g, 6 + k, none⟩ = some (.int .u8 ((part32 l k).getD k 0 : Nat)) := (cell_of_row _ _ _ _ _ _ hg).trans (EC_bytes _ k (by show k < (part32 l k).length; omega)); have hf2 : wr.frozen? ⟨g, 6 + k, none⟩ = false := frozen_of_row _ _ _ _ _ hg
        have H := Lib.hid (show (wr.setCell ⟨g, 6 + k, none⟩ (.int .u8 (l.getD k 0 : Nat))).heap[g]? = some (.cells (EC { f0 with bytes := part32 l (k + 1) }) 72 (0, 0)) by
          rw [heap_setCell_same _ _ _ _ _ _ hg, EC_set_byte]; show some (Obj.cells (EC { f0 with bytes := (part32 l k).set k (l.getD k 0) }) 72) = _; rw [part32_set l k HLL.out hlt])
        obtain ⟨c, hcc⟩ : ∃ c, l.getD k 0 = c := ⟨_, rfl⟩; obtain ⟨c', hcc'⟩ : ∃ c, (part32 l k).getD k 0 = c := ⟨_, rfl⟩; rw [hcc] at hc H; rw [hcc'] at hc2; clear hg hpl hcc hcc'; go_wp2; go_roundw
        case rel => exact ⟨k + 1, by omega, by go_num, H.out, hO.setCell (.inl (by simp)) _⟩
        case measure => simp [intOf]; omega
      · obtain rfl : k = 32 := by omega
        rw [part32_all l HLL.out] at hg; have hC := (hO.block (w.heap.size + 1) (by omega) (by simp; omega)).trans HC3.out; have hBr := HBB3.out.trans (hO.below (B := w.heap.size) (by simp; omega) (by omega)); have hzr : g < wr.heap.size := (Array.getElem?_eq_some_iff.1 hg).1; obtain ⟨f1, hf1⟩ : ∃ f1 : En.E, ({ f0 with bytes := l } : En.E) = f1 := ⟨_, rfl⟩; have hp1 : En.parse kind s = f1 := by rw [HPAR.out, HLS.out, hf1]
        rw [hf1] at hg; have hb1 : EBody f1 := by rw [← hp1]; exact parse_ebody HL.out HS.out
        have HRI := Lib.hid (fun W => rright_any f1 W hb1); have HI1 := Lib.hid (size_re (e := f1) hb1.1); have H11 := Lib.hid (EC_one f1); have HZ1 : Hid (Z.size = (EC f1).size) := Lib.hid (by rw [← HZ.out, EC_size, EC_size, hb1.1]; rfl); have HG := Lib.hid hg; have HOF : Hid (En.ofE kind s = if En.right f1 = true then (f1, 0) else (En.E.zero, 10)) := Lib.hid (by unfold En.ofE; rw [hp1]); obtain ⟨X1, hX1⟩ : ∃ X, EC f1 = X := ⟨_, rfl⟩; rw [hX1] at HG HRI HI1 H11 HZ1; have HX1 := Lib.hid hX1; clear hg hf1 hp1 hb1 hX1; obtain ⟨rf, hrf⟩ : ∃ rf, En.right f1 = rf := ⟨_, rfl⟩; rw [hrf] at HRI HOF; clear hrf; go_wp2_with (refine wpList_load_row rfl 72 _ rfl g rfl 72 _ _ _ HG.out Try.underlying72 rfl HI1.out ?_); refine (HRI.out _).mono ?_; rintro e4 w4 ⟨rfl, hB4⟩; have hC4 := (hB4.block (w.heap.size + 1) (by omega)).trans hC; have hG4 := (hB4.block g hzr).trans HG.out; have hBr4 := hBr.trans (hB4.mono hBr.size); cases rf
        · go_wp2_with (first | (refine wpList_build_asked (by rfl) 72 _ rfl #[] (by rfl) Z HBZ.out ?_) | (refine wpList_store_row rfl 72 _ _ rfl (w.heap.size + 1) Z rfl rfl 72 Z hC4 HIZ.out rfl hone ?_)); refine bodyPost_ret (results_row_tmp rfl _ _ (w.heap.size + 1) 72 Z _ _ rfl (setRow_heap _ _ _ _ _ _ hC4) Try.underlying72 rfl HIZ.out) rfl ?_; exact ⟨by rw [HOF.out, ← HZ.out]; rfl, below_setRow hBr4 (by omega) _⟩
        · go_wp2_with (first | (refine wpList_load_row rfl 72 _ rfl g rfl 72 _ _ _ hG4 Try.underlying72 rfl HI1.out ?_) | (refine wpList_store_row rfl 72 _ _ rfl (w.heap.size + 1) X1 rfl rfl 72 Z hC4 HI1.out HZ1.out H11.out ?_)); refine bodyPost_ret (results_row_tmp rfl _ _ (w.heap.size + 1) 72 X1 _ _ rfl (setRow_heap _ _ _ _ _ _ hC4) Try.underlying72 rfl HI1.out) rfl ?_; exact ⟨by rw [HOF.out, ← HX1.out]; rfl, below_setRow hBr4 (by omega) _⟩
end Go.Proofs.Ytoiephmngdecaaa
namespace Go.Proofs.Ytoiephmngdecaaa
open Go.RowKit Go.Rv Frm
set_option linter.unusedVariables false
theorem zero_ebody : EBody En.E.zero := ⟨by simp [En.E.zero], by simp [En.E.zero]⟩
/-- the frame that an entry has which has been read from it -/
theorem frame_parse (f : Fr) (hb : Body f.body) : (⟨(En.parse f.kind f.body).kind, f.zone, f.off, f.epoch, f.seq, En.body (En.parse f.kind f.body)⟩ : Fr) = f := by
  rw [En.body_parse hb.1 hb.2]; rfl
/-- when a frame is an entry's -/
theorem readE_cases (f : Fr) (hb : Body f.body) :
    ((En.ofE f.kind f.body).2 ≠ 0 ∧ readE f = (En.E.zero, 10)) ∨ ((En.ofE f.kind f.body).2 = 0 ∧ rightF f = false ∧ readE f = (En.E.zero, 10)) ∨
    ((En.ofE f.kind f.body).2 = 0 ∧ rightF f = true ∧ f.seq < (En.ofE f.kind f.body).1.first ∧ readE f = (En.E.zero, 10)) ∨
    ((En.ofE f.kind f.body).2 = 0 ∧ rightF f = true ∧ ¬ f.seq < (En.ofE f.kind f.body).1.first ∧ (En.ofE f.kind f.body).1.first + (En.ofE f.kind f.body).1.count ≤ f.seq ∧ readE f = (En.E.zero, 10)) ∨
    ((En.ofE f.kind f.body).2 = 0 ∧ rightF f = true ∧ ¬ f.seq < (En.ofE f.kind f.body).1.first ∧ ¬ (En.ofE f.kind f.body).1.first + (En.ofE f.kind f.body).1.count ≤ f.seq ∧ readE f = ((En.ofE f.kind f.body).1, 0) ∧ frameE (En.ofE f.kind f.body).1 f.zone f.off f.epoch f.seq = (f, 0)) := by
  by_cases hr : En.right (En.parse f.kind f.body) = true
  · have ho : En.ofE f.kind f.body = (En.parse f.kind f.body, 0) := by unfold En.ofE; rw [if_pos hr]
    have hfp := frame_parse f hb
    have hfr : frameE (En.parse f.kind f.body) f.zone f.off f.epoch f.seq = if rightF f = true ∧ (En.parse f.kind f.body).first ≤ f.seq ∧ f.seq < (En.parse f.kind f.body).first + (En.parse f.kind f.body).count then (f, 0) else (Fr.zero, 10) := by
      unfold frameE; rw [hfp]; simp only [hr, true_and]
    rw [ho]; unfold readE; rw [ho]; simp only [ne_eq, not_true_eq_false, if_false, true_and, false_and, false_or]; by_cases h1 : rightF f = true
    · right; by_cases h2 : f.seq < (En.parse f.kind f.body).first
      · left; have hv : frameE (En.parse f.kind f.body) f.zone f.off f.epoch f.seq = (Fr.zero, 10) := by rw [hfr]; exact if_neg (by omega)
        rw [hv]; exact ⟨h1, h2, rfl⟩
      · right; by_cases h3 : (En.parse f.kind f.body).first + (En.parse f.kind f.body).count ≤ f.seq
        · left; have hv : frameE (En.parse f.kind f.body) f.zone f.off f.epoch f.seq = (Fr.zero, 10) := by rw [hfr]; exact if_neg (by omega)
          rw [hv]; exact ⟨h1, h2, h3, rfl⟩
        · right; have hv : frameE (En.parse f.kind f.body) f.zone f.off f.epoch f.seq = (f, 0) := by rw [hfr]; exact if_pos ⟨h1, by omega, by omega⟩
          rw [hv]; exact ⟨h1, h2, h3, rfl, rfl⟩
    · left; have hv : frameE (En.parse f.kind f.body) f.zone f.off f.epoch f.seq = (Fr.zero, 10) := by rw [hfr]; exact if_neg (fun h => h1 h.1)
      rw [hv]; exact ⟨by simpa using h1, rfl⟩
  · left; have ho : En.ofE f.kind f.body = (En.E.zero, 10) := by unfold En.ofE; rw [if_neg hr]
    unfold readE; rw [ho]; simp
end Go.Proofs.Ytoiephmngdecaaa
