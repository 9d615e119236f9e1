/- Proved here: plain facts on what a right list gives the roller: its records are right, and the roller's state stays within bounds; Small laws, over any program: a map from ints of the call's own, of which it is known what value lies at each key; Arguments that are geometries, by their cells; what an argument of entries, or of steps, has in its cells; Plain laws: a list's things, each with its place; The law on drawn regions (Conf), inside a fence: in a round of a range over a function too; Laws over any program: whole rows stored, and compared, inside a round; a map's entries, one by one (slices.All), by the law on turns; the map's All. -/
import Derived.Maps.OwnSet
import Derived.OpenShut
import Derived.OrdersIn
import Derived.TacticsIn
import Derived.LoopTactic
import Derived.Test.YtoiephmngdecaaaKaa
import Derived.Test.YtoiephmngdecaaaKae
import Derived.Test.YtoiephmngdecaaaKaf
import Derived.Test.YtoiephmngdecaaaKag
import Derived.Test.YtoiephmngdecaaaKai
import Derived.Test.YtoiephmngdecaaaKaj
import Derived.Test.YtoiephmngdecaaaKam
import Derived.Test.YtoiephmngdecaaaKan
namespace Go.Proofs.Ytoiephmngdecaaa
open Go.RowKit Go.Rv Frm
set_option linter.unusedVariables false
namespace Rl
theorem wfI {x : Int} (h : -9223372036854775808 ≤ x ∧ x ≤ 9223372036854775807) : (Go.Lit.int .i64 x).wf = true := by
  simp [Go.Lit.wf, Go.IntKind.min, Go.IntKind.max, Go.IntKind.signed, Go.IntKind.bits]; omega
/-- a record that is right in a geometry -/
structure RecOk (g : Geo.G) (r : Rec) : Prop where
  q : RecQ r
  b : 0 ≤ r.e.block ∧ r.e.block < g.b
  m : 0 ≤ r.e.many ∧ r.e.block + r.e.many ≤ g.b
  z : 0 ≤ r.zone ∧ r.zone ≤ 1000000
  t : 0 ≤ r.e.mate ∧ r.e.mate ≤ 1000000
  o : 0 ≤ r.off ∧ r.off ≤ 1000000
  f : 0 ≤ r.e.first ∧ r.e.first ≤ 281474976710655
theorem holdsG_bound {g : Geo.G} {z o : Int} (h : holdsG g z o = true) : (0 ≤ z ∧ z ≤ 1000000) ∧ (0 ≤ o ∧ o ≤ 1000000) := by
  have hs := holdsG_small h; unfold holdsG at h; simp only [Bool.and_eq_true, Geo.inB_iff] at h; obtain ⟨-, ⟨h1, h2⟩, h3, h4⟩ := h; obtain ⟨hd, hz, hss, -⟩ := hs; have : g.d * g.z ≤ 8 * 64 := Int.mul_le_mul hd.2 hz.2 (by omega) (by omega); omega
theorem recE_ok {g : Geo.G} {epoch : Int} {f : Fnd} {e : En.E} (hf : Body f.fr.body) (h : recE g epoch f = some e) : RecOk g ⟨e, f.zone, f.off⟩ := by
  unfold recE at h; split at h
  · rename_i hh; obtain ⟨h1, -, -, -, h5⟩ := hh; simp only [Option.some.injEq] at h; have hr := readE_ok hf h1; have hb := readE_body f.fr hf; rw [h] at hr hb h5; unfold Rl.lies at h5; simp only [Bool.and_eq_true, decide_eq_true_eq] at h5; obtain ⟨h6, h7, -, h8⟩ := h5; have b1 := holdsG_bound h6; have b2 := holdsG_bound h7; obtain ⟨a, b, c, m, t2, he, k1, k2, k3, k4, k5, k6⟩ := En.right_nat hr; have e1 : e.first = a := by rw [he]
    have e2 : e.block = c := by rw [he]
    have e3 : e.many = m := by rw [he]
    refine ⟨hb, ?_, ?_, b1.1, b2.1, b1.2, ?_⟩
    · show 0 ≤ e.block ∧ e.block < g.b; omega
    · show 0 ≤ e.many ∧ e.block + e.many ≤ g.b; omega
    · show 0 ≤ e.first ∧ e.first ≤ 281474976710655; omega
  · cases h
theorem recF_ok {g : Geo.G} {epoch next : Int} {f : Fnd} {x : Int × Rec} (hf : Body f.fr.body) (h : recF g epoch next f = some x) : RecOk g x.2 := by
  unfold recF at h; split at h
  · cases h
  · rename_i e he; split at h
    · cases h
    · simp only [Option.some.injEq] at h; subst h; exact recE_ok hf he
theorem recs_ok {g : Geo.G} {epoch next : Int} {l : List Fnd} (hl : ∀ f ∈ l, Body f.fr.body) : ∀ x ∈ recs g epoch next l, RecOk g x.2 ∧ next ≤ x.1 := by
  intro x hx; unfold recs at hx; rw [List.mem_filterMap] at hx; obtain ⟨f, hf, hx⟩ := hx; exact ⟨recF_ok (hl f hf) hx, (recF_seq hx).2⟩
theorem atSeq_ok {g : Geo.G} {R : List (Int × Rec)} (hR : ∀ x ∈ R, RecOk g x.2) (s : Int) : ∀ r ∈ atSeq R s, RecOk g r := by
  intro r hr; unfold atSeq at hr; rw [List.mem_map] at hr; obtain ⟨x, hx, rfl⟩ := hr; exact hR x (List.mem_filter.1 hx).1
theorem firstPair_mem : ∀ {l : List Rec} {a : Rec}, firstPair l = some a → a ∈ l
  | [], a, h => by simp [firstPair] at h
  | x :: l, a, h => by
    unfold firstPair at h; split at h
    · simp only [Option.some.injEq] at h; subst h; simp
    · exact List.mem_cons_of_mem _ (firstPair_mem h)
theorem choose_mem {l : List Rec} (h : l ≠ []) : (choose l).r ∈ l := by
  unfold choose; split
  · rename_i a ha; exact firstPair_mem ha
  · cases l with
    | nil => exact absurd rfl h
    | cons x l => simp
theorem beE64 {g : Geo.G} {c : Ch} (h : RecOk g c.r) {seq : Int} (hs : 0 ≤ seq ∧ seq ≤ 1125899906842624) : E64 (beOf seq c) := by
  have hsum : Crc.sum c.r.e.bytes < 4294967296 := Crc.sum_lt h.q.2; have := h.z; have := h.t; have := h.o; refine ⟨rfl, ?_, ?_, ?_, ?_, ?_⟩
  all_goals (refine wfI ?_)
  all_goals (unfold beOf; simp only; omega)
/-- a state that is within bounds -/
structure StOk (g : Geo.G) (st : St) (k : Nat) : Prop where
  ap : 0 ≤ st.applied ∧ st.applied ≤ (k : Int)
  fi : 0 ≤ st.first ∧ st.first ≤ 562949953421312
  len : st.ol.length ≤ k
  ok : ∀ x ∈ st.ol, RecOk g x.r
theorem trim_keeps (g : Geo.G) : ∀ (n : Nat) (b : Int) (st : St), (trim g b n st).first = st.first ∧ (trim g b n st).ol = st.ol
  | 0, _, _ => ⟨rfl, rfl⟩
  | n + 1, b, st => by
    unfold trim; exact trim_keeps g n (b + 1) _
theorem StOk.step {g : Geo.G} {st : St} {k : Nat} (h : StOk g st k) {c : Ch} (hc : RecOk g c.r) {seq : Int} (hs : 0 ≤ seq ∧ seq ≤ 562949953421312) : StOk g (step g st seq c) (k + 1) := by
  have ha := step_applied g st seq c; have hap : 0 ≤ (Rl.step g st seq c).applied ∧ (Rl.step g st seq c).applied ≤ ((k + 1 : Nat) : Int) := by have := h.ap; omega
  refine ⟨hap, ?_, ?_, ?_⟩
  all_goals clear ha hap
  all_goals unfold Rl.step
  all_goals split
  · have h1 : 0 ≤ (opened st seq c.r.e).first ∧ (opened st seq c.r.e).first ≤ 562949953421312 := by unfold opened; split; exact hs; exact h.fi
    unfold data; simp only; split
    · simp [shut]
    · split
      · exact h1
      · simp [shut]
  · unfold other; simp only; split
    · simp [lie, shut]
    · rw [(trim_keeps g _ _ _).1]; simp [shut]
  · have h1 : (opened st seq c.r.e).ol.length ≤ k := by unfold opened; split; simp; exact h.len
    unfold data; simp only; split
    · simp [shut]
    · split
      · simp; exact h1
      · simp [shut]
  · unfold other; simp only; split
    · simp [lie, shut]
    · rw [(trim_keeps g _ _ _).2]; simp [shut]
  · have h1 : ∀ x ∈ (opened st seq c.r.e).ol, RecOk g x.r := by unfold opened; split; simp; exact h.ok
    unfold data; simp only; split
    · simp [shut]
    · split
      · intro x hx; simp only [List.mem_append, List.mem_singleton] at hx; rcases hx with hx | rfl
        · exact h1 x hx
        · exact hc
      · simp [shut]
  · unfold other; simp only; split
    · simp [lie, shut]
    · rw [(trim_keeps g _ _ _).2]; simp [shut]
theorem after_ok {g : Geo.G} {R : List (Int × Rec)} {next : Int} {st : St} (h : StOk g st 0) (hR : ∀ x ∈ R, RecOk g x.2) (hn : 0 ≤ next ∧ next ≤ 281474976710655) : ∀ k : Nat, k ≤ 1000000 → (∀ j, j < k → atSeq R (next + (j : Nat)) ≠ []) → StOk g (after g R next st k) k
  | 0, _, _ => h
  | k + 1, hk, hj => by
    unfold after; exact (after_ok h hR hn k (by omega) (fun j hjk => hj j (by omega))).step (atSeq_ok hR _ _ (choose_mem (hj k (by omega)))) (by omega)
/-- what data asks of the roller's list -/
theorem StOk.opened {g : Geo.G} {st : St} {k : Nat} (h : StOk g st k) (hk : k ≤ 1000000) {c : Ch} (hc : RecOk g c.r) {seq : Int} (hs : 0 ≤ seq ∧ seq ≤ 562949953421312) :
    ∀ (i : Nat) x, ((Rl.opened st seq c.r.e).ol ++ [c])[i]? = some x → ChQ x ∧ (0 ≤ x.r.e.block ∧ x.r.e.block < g.b) ∧ E64 (beOf ((Rl.opened st seq c.r.e).first + (i : Nat)) x) := by
  intro i x hx; have hi := (List.getElem?_eq_some_iff.1 hx).1; have hm := List.mem_of_getElem? hx; rw [List.mem_append, List.mem_singleton] at hm; rw [List.length_append, List.length_singleton] at hi
  have hcase : ((Rl.opened st seq c.r.e).ol.length ≤ k ∧ ∀ x ∈ (Rl.opened st seq c.r.e).ol, RecOk g x.r) ∧ (0 ≤ (Rl.opened st seq c.r.e).first ∧ (Rl.opened st seq c.r.e).first ≤ 562949953421312) := by
    unfold Rl.opened; split
    · exact ⟨⟨by simp, by simp⟩, hs⟩
    · exact ⟨⟨h.len, h.ok⟩, h.fi⟩
  obtain ⟨⟨h1, h2⟩, h3⟩ := hcase
  have hok : RecOk g x.r := by
    rcases hm with hm | rfl
    · exact h2 x hm
    · exact hc
  exact ⟨hok.q, hok.b, beE64 hok (by omega)⟩
end Rl
end Go.Proofs.Ytoiephmngdecaaa
namespace Go.Rv
open Go.RowKit Go.Maps
set_option linter.unusedVariables false
/-- a value is read as itself -/
def selfElem (v : Value) : Option (DataW Value × List MemPlace) := some (.held v, [])
theorem selfElem_inv {v : Value} {d : DataW Value} {ps : List MemPlace} (h : selfElem v = some (d, ps)) : d = .held v ∧ ps = [] := by
  unfold selfElem at h; simp only [Option.some.injEq, Prod.mk.injEq] at h; exact ⟨h.1.symm, h.2.symm⟩
/-- block b is a map from ints, of at most n entries; V tells what lies at each key (z where there is none) -/
def MapI (w : World) (P : Program) (k : TypeId) (z : Value) (b n : Nat) (V : Int → Value) : Prop :=
  ∃ D : DataW Value, w.ownsMap P k selfElem b n D ∧ ∀ i : Int, D.atKey (.int .i64 i) (.held z) = .held (V i)
theorem MapI.made (w : World) (P : Program) (k : TypeId) (z : Value) : MapI (w.alloc (.map #[] 0)) P k z w.heap.size 0 (fun _ => z) :=
  ⟨_, World.ownsMap_made _ _ _ _, fun _ => rfl⟩
theorem MapI.mono {w : World} {P : Program} {k : TypeId} {z : Value} {b n : Nat} {V : Int → Value} (h : MapI w P k z b n V) {n' : Nat} (hn : n ≤ n') : MapI w P k z b n' V :=
  let ⟨D, h1, h2⟩ := h
  ⟨D, h1.mono hn, h2⟩
theorem MapI.lt {w : World} {P : Program} {k : TypeId} {z : Value} {b n : Nat} {V : Int → Value} (h : MapI w P k z b n V) : b < w.heap.size :=
  let ⟨_, h1, _⟩ := h
  h1.lt
theorem MapI.kept {w w' : World} {P : Program} {k : TypeId} {z : Value} {b n : Nat} {V : Int → Value} {row : Option Nat} (h : MapI w P k z b n V) (hg : w.grownBy w' row) (hne : some b ≠ row) : MapI w' P k z b n V :=
  let ⟨D, h1, h2⟩ := h
  ⟨D, h1.kept hg hne, h2⟩
theorem MapI.below {w w' : World} {P : Program} {k : TypeId} {z : Value} {b n : Nat} {V : Int → Value} (h : MapI w P k z b n V) (hb : Below w.heap.size w w') : MapI w' P k z b n V :=
  h.kept (grownBy_of_below hb none) (by simp)
theorem MapI.alloc {w : World} {P : Program} {k : TypeId} {z : Value} {b n : Nat} {V : Int → Value} (h : MapI w P k z b n V) (o : Obj) : MapI (w.alloc o) P k z b n V :=
  let ⟨D, h1, h2⟩ := h
  ⟨D, h1.alloc o, h2⟩
/-- a map's block is no row of cells -/
theorem MapI.obj {w : World} {P : Program} {k : TypeId} {z : Value} {b n : Nat} {V : Int → Value} (h : MapI w P k z b n V) : ∃ es clock, w.heap[b]? = some (.map es clock) :=
  let ⟨_, ⟨es, clock, h1, _⟩, _⟩ := h
  ⟨es, clock, h1⟩
/-- V, but v at key i -/
def putV (V : Int → Value) (i : Int) (v : Value) : Int → Value := fun j => if j = i then v else V j
/-- 'm[k]' -/
theorem wpList_lookupI {P : Program} {w : World} {ops : Array Oper} {rest : List Oper} {o : Oper} {a : Act} {Q : Exit → Act → World → Prop}
    (hg : o.guard = none) (m x : Operand) (t : TypeId) (hop : o.op = Op.lookup t m x false)
    (k e : TypeId) (hk : P.underlying k = some (.int .i64)) (ht : P.underlying t = some (.map k e)) (z : Value) (hz : ∀ w, (zeroValue e).run P w = .ok z w) (b n : Nat) (V : Int → Value)
    (hm : a.eval m = .map (some b)) (hown : MapI w P k z b n V) (i : Int) (hx : a.eval x = .int .i64 i) (hi : (Lit.int .i64 i).wf = true)
    (hK : wpList P ops Q rest (a.put o.dst (V i)) w) : wpList P ops Q (o :: rest) a w := by
  refine wpList_plain hg fun K' hK' => ?_
  obtain ⟨D, h1, h2⟩ := hown; obtain ⟨v, ps, hrun, hv⟩ := h1.lookup (int_keyed hk) ht (hz w) (zd := .held z) (zp := []) rfl (keyOf_int_mk hk hi); obtain ⟨hd, -⟩ := selfElem_inv hv; rw [h2 i, DataW.held.injEq] at hd; subst hd; unfold Oper.wp; simp [execOp, hop, hm, hx, hrun, Result.andThen]; exact hK' _ _ hK
/-- 'm[k] = v' -/
theorem wpList_mapUpdateI {P : Program} {w : World} {ops : Array Oper} {rest : List Oper} {o : Oper} {a : Act} {Q : Exit → Act → World → Prop}
    (hg : o.guard = none) (m x v : Operand) (t : TypeId) (hop : o.op = Op.mapUpdate t m x v)
    (k e : TypeId) (hk : P.underlying k = some (.int .i64)) (ht : P.underlying t = some (.map k e)) (z : Value) (b n : Nat) (V : Int → Value)
    (hm : a.eval m = .map (some b)) (hown : MapI w P k z b n V) (hn : n < maxLen) (i : Int) (hx : a.eval x = .int .i64 i) (hi : (Lit.int .i64 i).wf = true)
    (hK : ∀ w', MapI w' P k z b (n + 1) (putV V i (a.eval v)) → w.grownBy w' (some b) → wpList P ops Q rest (a.put o.dst undef) w') : wpList P ops Q (o :: rest) a w := by
  obtain ⟨D, h1, h2⟩ := hown; refine wpList_mapUpdate_own w hg m x v t hop k e (int_keyed hk) ht selfElem b n D hm h1 hn _ _ _ hx rfl (keyOf_int_mk hk hi) (.held (a.eval v)) [] rfl fun w' h3 h4 => hK w' ⟨_, h3, fun j => ?_⟩ h4
  unfold putV; by_cases hj : j = i
  · subst hj; rw [if_pos rfl]; exact atKey_put_same (k := .int .i64 j) h1.isMap ((int_keyed hk).key (keyOf_int_mk hk hi)) _ _
  · rw [if_neg hj, atKey_put_other (fun he => hj (by cases he; rfl)), h2 j]
end Go.Rv
namespace Go.Proofs.Ytoiephmngdecaaa
open Go.RowKit Go.Rv
set_option linter.unusedVariables false
theorem agg6 {v : Value} (h : v.cells.toList.length = 6) : ∃ xs : Array Value, v = .agg xs := by
  cases v
  case agg xs => exact ⟨xs, rfl⟩
  all_goals (exfalso; exact (show (1 : Nat) ≠ 6 by omega) h)
theorem six_vals {L : List Value} {a b c d e f : Value} (hl : L.length = 6) (h0 : (L.drop 0).take 1 = [a]) (h1 : (L.drop 1).take 1 = [b]) (h2 : (L.drop 2).take 1 = [c]) (h3 : (L.drop 3).take 1 = [d]) (h4 : (L.drop 4).take 1 = [e]) (h5 : (L.drop 5).take 1 = [f]) : L = [a, b, c, d, e, f] := by
  match L, hl with
  | [x0, x1, x2, x3, x4, x5], _ =>
    simp at h0 h1 h2 h3 h4 h5; subst h0 h1 h2 h3 h4 h5; rfl
set_option maxRecDepth 100000 in
def Num6 (g : Geo.G) : Prop := (Lit.int .i64 g.d).wf = true ∧ (Lit.int .i64 g.z).wf = true ∧ (Lit.int .i64 g.s).wf = true ∧ (Lit.int .i64 g.b).wf = true ∧ (Lit.int .i64 g.p).wf = true ∧ (Lit.int .i64 g.o).wf = true
set_option maxRecDepth 100000 in
theorem geo_of_fits {d : Nat} {w : World} {v : Value} (h : Fits Try.prog w (d + 2) 23 v.cells.toList) : ∃ g : Geo.G, v = .agg (GC g) ∧ Num6 g := by
  obtain ⟨hl, hx⟩ := fits_struct (d := d + 1) Try.underlying23 h; have k1 : Try.prog.cellsOf 3 = 1 := by kernel_rfl
  have k6 : Try.prog.cellsOf 23 = 6 := by kernel_rfl
  rw [k6] at hl; obtain ⟨xs, rfl⟩ := agg6 hl; simp only [List.forall_mem_cons, k1] at hx; obtain ⟨f0, f1, f2, f3, f4, f5, -⟩ := hx; obtain ⟨n0, c0, w0⟩ := fits_int Try.underlying3 f0; obtain ⟨n1, c1, w1⟩ := fits_int Try.underlying3 f1; obtain ⟨n2, c2, w2⟩ := fits_int Try.underlying3 f2; obtain ⟨n3, c3, w3⟩ := fits_int Try.underlying3 f3; obtain ⟨n4, c4, w4⟩ := fits_int Try.underlying3 f4; obtain ⟨n5, c5, w5⟩ := fits_int Try.underlying3 f5; have he := six_vals hl c0 c1 c2 c3 c4 c5; refine ⟨⟨n0, n1, n2, n3, n4, n5⟩, ?_, w0, w1, w2, w3, w4, w5⟩; have : xs = GC ⟨n0, n1, n2, n3, n4, n5⟩ := Array.toList_inj.1 he; rw [this]
end Go.Proofs.Ytoiephmngdecaaa
namespace Go.Proofs.Ytoiephmngdecaaa
open Go.RowKit Go.Rv
set_option linter.unusedVariables false
set_option maxRecDepth 100000 in
theorem ent_of_fits6 {d : Nat} {w : World} {cs : List Value} (h : Fits Try.prog w (d + 2) 54 cs) : ∃ e : BE, cs = (BEC e).toList ∧ E64 e := by
  obtain ⟨hl, hx⟩ := fits_struct (d := d + 1) Try.underlying54 h; have k1 : Try.prog.cellsOf 3 = 1 := by kernel_rfl
  have k6 : Try.prog.cellsOf 54 = 6 := by kernel_rfl
  rw [k6] at hl; simp only [List.forall_mem_cons, k1] at hx; obtain ⟨f0, f1, f2, f3, f4, f5, -⟩ := hx; obtain ⟨n0, c0, w0⟩ := fits_int Try.underlying3 f0; obtain ⟨n1, c1, w1⟩ := fits_int Try.underlying3 f1; obtain ⟨n2, c2, w2⟩ := fits_int Try.underlying3 f2; obtain ⟨n3, c3, w3⟩ := fits_int Try.underlying3 f3; obtain ⟨n4, c4, w4⟩ := fits_int Try.underlying3 f4; obtain ⟨n5, c5, w5⟩ := fits_int Try.underlying3 f5; exact ⟨⟨n0, n1, n2, n3, n4, n5⟩, six_vals hl c0 c1 c2 c3 c4 c5, w0, w1, w2, w3, w4, w5⟩
/-- a step: a block, and its entry -/
def opC (x : Int × BE) : Array Value := #[.int .i64 x.1, .int .i64 x.2.st, .int .i64 x.2.z, .int .i64 x.2.m, .int .i64 x.2.o, .int .i64 x.2.q, .int .i64 x.2.s]
theorem opC_one (x : Int × BE) : (opC x).all (·.oneCell') = true := by simp [opC, Value.oneCell']
def Op64 (x : Int × BE) : Prop := (Lit.int .i64 x.1).wf = true ∧ E64 x.2
end Go.Proofs.Ytoiephmngdecaaa
namespace Go.Rv
set_option linter.unusedVariables false
theorem zip_take {α : Type} (l : List α) {k : Nat} {x : α} (h : l[k]? = some x) : (l.take (k + 1)).zipIdx = (l.take k).zipIdx ++ [(x, k)] := by
  obtain ⟨hk, rfl⟩ := List.getElem?_eq_some_iff.1 h; rw [List.take_succ_eq_append_getElem hk, List.zipIdx_append]; simp [List.length_take, Nat.min_eq_left (Nat.le_of_lt hk)]
theorem zip_prefix {α : Type} (l : List α) {k m : Nat} (h : k ≤ m) : (l.take k).zipIdx <+: (l.take m).zipIdx := by
  obtain ⟨d, rfl⟩ : ∃ d, m = k + d := ⟨m - k, by omega⟩; refine ⟨((l.drop k).take d).zipIdx (l.take k).length, ?_⟩; rw [List.take_add, List.zipIdx_append]; simp
theorem zip_full {α : Type} (l : List α) (k : Nat) : (l.take k).zipIdx <+: l.zipIdx := by
  by_cases h : k ≤ l.length
  · have := zip_prefix l h
    rwa [List.take_length] at this
  · rw [List.take_of_length_le (by omega)]; exact ⟨[], by simp⟩
theorem zip_len {α : Type} (l : List α) {k : Nat} (h : k ≤ l.length) : (l.take k).zipIdx.length = k := by simp [h]
/-- what has come so far is a beginning: so the next one is known -/
theorem zip_next {α : Type} {l : List α} {pre : List (α × Nat)} {x : α × Nat} (h : pre ++ [x] <+: l.zipIdx) : x.2 = pre.length ∧ l[pre.length]? = some x.1 ∧ pre.length < l.length ∧ pre = (l.take pre.length).zipIdx := by
  obtain ⟨t, ht⟩ := h; have hlen := congrArg List.length ht; simp at hlen; have h1 : l.zipIdx[pre.length]? = some x := by rw [← ht]; simp
  rw [List.getElem?_zipIdx] at h1; simp only [Option.map_eq_some_iff, Nat.zero_add] at h1; obtain ⟨y, hy, rfl⟩ := h1; refine ⟨rfl, hy, by omega, ?_⟩; have h2 : l.zipIdx.take pre.length = pre := by rw [← ht]; simp
  have h3 := List.prefix_iff_eq_take.1 (zip_full l pre.length); rw [zip_len l (by omega), h2] at h3; exact h3.symm
end Go.Rv
namespace Go.Rv
open Go.RowKit
set_option linter.unusedVariables false
theorem upon_thenIn {F : Fence} {m : Nat} {P : Program} {o : Oper} {a : Act} {K : Act → World → Prop} {Q : Exit → Act → World → Prop} {r : Result Next} (h : o.uponIn F m P a K (Exit.then K Q) r) : o.uponIn F m P a K Q r := by
  cases r with
  | ok n w' =>
    cases n <;> simp only [Oper.uponIn] at h ⊢
    all_goals first
      | exact h
      | exact ⟨h.1, CallsIn.mono h.2 (fun e w'' he => by cases e <;> exact he)⟩
      | exact ⟨h.1, RoundIn.mono h.2 (fun e w'' he => by cases e <;> exact he)⟩
  | halt x w' => cases x <;> simp only [Oper.uponIn] at h ⊢ <;> exact h
theorem wpOpIn_of_list {F : Fence} {m : Nat} {P : Program} {ops : Array Oper} {K : Act → World → Prop} {Q : Exit → Act → World → Prop} {i : Nat} {o : Oper} {a : Act} {w : World} (ho : ops[i]? = some o) (h : wpListIn F m P ops (Exit.then K Q) [o] a w) : wpOpIn F m P ops Q i K a w := by
  unfold wpOpIn; simp only [ho]; simp only [wpListIn] at h; split
  · rename_i hw; rw [if_pos hw] at h; unfold Oper.wpIn at h ⊢; exact ⟨h.1, upon_thenIn h.2⟩
  · rename_i hw; rw [if_neg hw] at h; exact h
theorem wpAnyIn_of_seq {F : Fence} {m : Nat} {P : Program} {md : Region.Mode} {ops : Array Oper} {Q' : Exit → Act → World → Prop} : ∀ (l : List Oper) (k : Nat) (listed : Array Bool) (a : Act) (w : World), (∀ j, l[j]? = ops[k + j]?) →
    Region.seqB md ops l.length k listed = true → wpListIn F m P ops Q' l a w → wpAnyIn F m P md ops Q' l.length listed a w
  | [], _, _, _, _, _, hB, h => ⟨by simpa [Region.seqB] using hB, h⟩
  | o :: l, k, listed, a, w, hl, hB, h => by
    have h0 : ops[k]? = some o := by simpa using (hl 0).symm
    simp only [List.length_cons, Region.seqB, Bool.and_eq_true, decide_eq_true_eq] at hB; refine ⟨fun h1 => (by rw [hB.1] at h1; cases h1), fun i hi => ?_⟩
    rw [hB.1] at hi; obtain rfl : i = k := by simpa using hi
    have hw : wpOpIn F m P ops Q' i (wpListIn F m P ops Q' l) a w := by unfold wpOpIn; simp only [h0]; exact h
    exact wpOpIn_mono (fun a' w' h' => wpAnyIn_of_seq l (i + 1) _ a' w' (fun j => by have := hl (j + 1); simpa [Nat.add_assoc, Nat.add_comm 1 j] using this) hB.2 h') hw
def OblIn (F : Fence) (m : Nat) (P : Program) (ops : Array Oper) (Q : Exit → Act → World → Prop) (A : (Nat → Value) → Act) (w0 : World) (Φ : List Fact) (i : Nat) (o : Oper) : Prop :=
  ∀ (v : Nat → Value) (w : World) (K : Act → World → Prop), Below w0.heap.size w0 w → Deps Φ v w o.after.toList →
    (∀ u w', Below w.heap.size w w' → (Φ.getD i Fact.any).p u w' → K ((A v).put o.dst u) w') → wpListIn F m P ops (Exit.then K Q) [o] (A v) w
def OblsIn (F : Fence) (m : Nat) (P : Program) (ops : Array Oper) (Q : Exit → Act → World → Prop) (A : (Nat → Value) → Act) (w0 : World) (Φ : List Fact) : Nat → List Oper → Prop
  | _, [] => True
  | i, o :: r => OblIn F m P ops Q A w0 Φ i o ∧ OblsIn F m P ops Q A w0 Φ (i + 1) r
theorem OblsIn.at {F : Fence} {m : Nat} {P : Program} {ops : Array Oper} {Q : Exit → Act → World → Prop} {A : (Nat → Value) → Act} {w0 : World} {Φ : List Fact} : ∀ {k : Nat} {l : List Oper}, OblsIn F m P ops Q A w0 Φ k l → ∀ {i : Nat} {o : Oper}, l[i]? = some o → OblIn F m P ops Q A w0 Φ (k + i) o
  | _, [], _, _, _, h => by simp at h
  | k, _ :: r, h, 0, _, ho => by simp at ho; subst ho; exact h.1
  | k, _ :: r, h, i + 1, _, ho => by
    have := OblsIn.at h.2 (i := i) (by simpa using ho)
    rwa [show k + 1 + i = k + (i + 1) by omega] at this
theorem confIn_walk {F : Fence} {m : Nat} {P : Program} {ops : Array Oper} {Q : Exit → Act → World → Prop} {a0 : Act} {w0 : World} {n : Nat} {Φ : List Fact} {A : (Nat → Value) → Act} (hok : confOk ops n = true)
    (hA : ∀ v, putAll v 0 (ops.toList.take n) a0 = A v) (ho : OblsIn F m P ops Q A w0 Φ 0 (ops.toList.take n))
    (hend : ∀ v w, Below w0.heap.size w0 w → (∀ j, j < n → (Φ.getD j Fact.any).p (v j) w) → wpListIn F m P ops Q (ops.toList.drop n) (A v) w) :
    ∀ (f : Nat) (listed : Array Bool) (v : Nat → Value) (w : World), HeadInv .any ops n listed → unl listed n = f → Below w0.heap.size w0 w → (∀ j, j < n → listed.getD j false = true → (Φ.getD j Fact.any).p (v j) w) →
      wpAnyIn F m P .any ops Q (f + (ops.size - n)) listed (A v) w := by
  simp only [confOk, Bool.and_eq_true, decide_eq_true_eq] at hok; obtain ⟨⟨⟨⟨⟨hd, hbk⟩, hn⟩, hs⟩, hc⟩, hq⟩ := hok; intro f
  induction f with
  | zero =>
    intro listed v w inv hu hB hF; have hall := unl_zero hu
    have hl : listed = headListed n (ops.size - n) := by
      apply Array.ext
      · simp only [headListed, List.size_toArray, List.length_append, List.length_replicate]; rw [inv.size]; omega
      · intro i h1 h2; have e1 : listed[i] = listed.getD i true := by simp [h1]
        by_cases hin : i < n
        · rw [e1, hall i hin]; simp only [headListed, List.getElem_toArray]; rw [List.getElem_append_left (by simpa using hin)]; simp
        · rw [e1, inv.tail i (by omega) (by rw [← inv.size]; exact h1)]; simp only [headListed, List.getElem_toArray]; rw [List.getElem_append_right (by simpa using Nat.le_of_not_lt hin)]; simp
    rw [Nat.zero_add]; have hlen : (ops.toList.drop n).length = ops.size - n := by simp
    rw [← hlen]; refine wpAnyIn_of_seq (ops.toList.drop n) n listed (A v) w (fun j => by simp) (by rw [hlen, hl]; exact hq) (hend v w hB fun j hj => hF j hj ?_); have h1 := hall j hj; have hjs : j < listed.size := by rw [inv.size]; omega
    simp [hjs] at h1 ⊢; exact h1
  | succ f ih =>
    intro listed v w inv hu hB hF; obtain ⟨i0, hi0, hun0, hbef⟩ := unl_pos (listed := listed) (k := n) (by omega); have hnt := tail_waits hs hc hn inv _ i0 rfl hi0 hun0; rw [show f + 1 + (ops.size - n) = (f + (ops.size - n)) + 1 by omega]; refine ⟨fun h => ?_, fun i hi => ?_⟩
    · exfalso; have hlt : i0 < ops.size := by omega
      have hr : i0 ∈ Region.ready .any ops listed := mem_ready.2 ⟨hun0, ops[i0], by simp, fun e he hb => by
        have hlt2 := edgesBack_spec hbk (i := i0) (o := ops[i0]) (by simp) e he hb; have h1 := hbef e.on (by omega); have hes : e.on < listed.size := by rw [inv.size]; omega
        simp [hes] at h1 ⊢; exact h1⟩
      rw [h] at hr; cases hr
    · have hin : i < n := by
        rcases Nat.lt_or_ge i n with h | h
        · exact h
        · exact absurd hi (hnt i h)
      obtain ⟨hui, o, hoi, hdep⟩ := mem_ready.1 hi; have hoi' : (ops.toList.take n)[i]? = some o := by simp [hin, hoi]
      have ob := ho.at hoi'; rw [Nat.zero_add] at ob; refine wpOpIn_of_list hoi (ob v w _ hB ?_ ?_)
      · have hdeps : ∀ l : List Edge, (∀ e ∈ l, e ∈ o.after) → Deps Φ v w l := by
          intro l
          induction l with
          | nil => intro _; exact trivial
          | cons e r ihl =>
            intro hl; refine ⟨fun hb => hF e.on ?_ (hdep e (hl e (by simp)) hb), ihl fun x hx => hl x (by simp [hx])⟩; have := edgesBack_spec hbk (i := i) (o := o) (by simpa using hoi) e (hl e (by simp)) hb; omega
        exact hdeps _ fun e he => by simpa using he
      · intro u w' hBw hR; rw [← hA v, putAll_upd (k := 0) hd hoi', hA, Nat.zero_add]; have hsz : w0.heap.size ≤ w.heap.size := hB.size; refine ih (listed.setIfInBounds i true) (upd v i u) w' (inv.set hi hin) ?_ (hB.trans (hBw.mono hsz)) ?_
        · have := (unl_set hui (k := n)).1 hin; omega
        · intro j hj hl; by_cases hji : j = i
          · subst hji; rw [show upd v j u j = u by simp [upd]]; exact hR
          · rw [show upd v i u j = v j by simp [upd, hji]]; rw [getD_set_ne false (Ne.symm hji)] at hl; exact (Φ.getD j Fact.any).st _ _ _ (hF j hj hl) hBw
theorem wpIn_region_conf {F : Fence} {m : Nat} {P : Program} {ops : Array Oper} {Q : Exit → Act → World → Prop} {a0 : Act} {w0 : World} {id : Nat} (n : Nat) (Φ : List Fact) (A : (Nat → Value) → Act) (hm : P.follows .mixedOrders = true) (hok : confOk ops n = true)
    (hA : ∀ v, putAll v 0 (ops.toList.take n) a0 = A v) (ho : OblsIn F m P ops Q A w0 Φ 0 (ops.toList.take n))
    (hend : ∀ v w, Below w0.heap.size w0 w → (∀ j, j < n → (Φ.getD j Fact.any).p (v j) w) → wpListIn F m P ops Q (ops.toList.drop n) (A v) w) : (Code.region id ops true).wpIn F m P Q a0 w0 := by
  have hok' := hok; simp only [confOk, Bool.and_eq_true, decide_eq_true_eq] at hok'; obtain ⟨⟨⟨⟨⟨hd, _⟩, hn⟩, _⟩, _⟩, _⟩ := hok'; obtain ⟨v, hv⟩ := putAll_self (k := 0) (a := a0) hd
  have inv0 : HeadInv .any ops n (Array.replicate ops.size false) :=
    ⟨by simp, fun j oj _ hl => (by rw [getD_replicate_false] at hl; cases hl), fun t _ ht => getD_in (by simpa using ht) (getD_replicate_false _ _)⟩
  have hu : ∀ k, k ≤ n → unl (Array.replicate ops.size false) k = k := by
    intro k
    induction k with
    | zero => intro _; rfl
    | succ k ih =>
      intro hk; simp only [unl]; rw [ih (by omega), getD_in (by simp; omega) (getD_replicate_false _ _)]; simp
  have h := confIn_walk (w0 := w0) hok hA ho hend n _ v w0.drew inv0 (hu n (Nat.le_refl _)) (Below.refl _ _).drew (fun j hj hl => by rw [getD_replicate_false] at hl; cases hl); rw [← hA v, hv, show n + (ops.size - n) = ops.size by omega] at h; exact wpIn_region_any hm h
/-- an operation that reads, where nothing of the world is asked for but that it yields -/
theorem wpListIn_yields {F : Fence} {m : Nat} {P : Program} {ops : Array Oper} {rest : List Oper} {o : Oper} {a : Act} {w : World} {Q : Exit → Act → World → Prop} (hgd : Region.wanted o (yielded ops a.tmps) = true) (v : Value) (hab : o.about P w a.eval = none)
    (hr : (o.semAt F.round a.eval).run P w = .ok (.value v) w) (h : wpListIn F m P ops Q rest (a.put o.dst v) w) : wpListIn F m P ops Q (o :: rest) a w := by
  unfold wpListIn; rw [if_pos hgd]; refine ⟨fun f hf => (by rw [hab] at hf; cases hf), ?_⟩; rw [hr]; exact h
def OblIn2 (F : Fence) (m : Nat) (P : Program) (ops : Array Oper) (Q : Exit → Act → World → Prop) (A : (Nat → Value) → Act) (w0 : World) (Φ : List Fact) (i : Nat) (o : Oper) : Prop :=
  ∀ (v : Nat → Value) (w : World) (K : Act → World → Prop), Below w0.heap.size w0 w → Deps Φ v w o.after.toList →
    Hid (∀ u w', Below w.heap.size w w' → (Φ.getD i Fact.any).p u w' → K ((A v).put o.dst u) w') → wpListIn F m P ops (Exit.then K Q) [o] (A v) w
def OblsIn2 (F : Fence) (m : Nat) (P : Program) (ops : Array Oper) (Q : Exit → Act → World → Prop) (A : (Nat → Value) → Act) (w0 : World) (Φ : List Fact) : Nat → List Oper → Prop
  | _, [] => True
  | i, o :: r => OblIn2 F m P ops Q A w0 Φ i o ∧ OblsIn2 F m P ops Q A w0 Φ (i + 1) r
theorem oblsIn_of2 {F : Fence} {m : Nat} {P : Program} {ops : Array Oper} {Q : Exit → Act → World → Prop} {A : (Nat → Value) → Act} {w0 : World} {Φ : List Fact} : ∀ {i : Nat} {l : List Oper}, OblsIn2 F m P ops Q A w0 Φ i l → OblsIn F m P ops Q A w0 Φ i l
  | _, [], _ => trivial
  | _, _ :: _, h => ⟨fun v w K hB hd hK => h.1 v w K hB hd (Lib.hid hK), oblsIn_of2 h.2⟩
theorem wpIn_region_conf2 {F : Fence} {m : Nat} {P : Program} {ops : Array Oper} {Q : Exit → Act → World → Prop} {a0 : Act} {w0 : World} {id : Nat} (n : Nat) (Φ : List Fact) (A : (Nat → Value) → Act) (hm : P.follows .mixedOrders = true) (hok : confOk ops n = true)
    (hA : ∀ v, putAll v 0 (ops.toList.take n) a0 = A v) (ho : OblsIn2 F m P ops Q A w0 Φ 0 (ops.toList.take n))
    (hend : ∀ v w, Below w0.heap.size w0 w → (∀ j, j < n → (Φ.getD j Fact.any).p (v j) w) → wpListIn F m P ops Q (ops.toList.drop n) (A v) w) : (Code.region id ops true).wpIn F m P Q a0 w0 :=
  wpIn_region_conf n Φ A hm hok hA (oblsIn_of2 ho) hend
theorem wpListIn_row_on {F : Fence} {m : Nat} {P : Program} {ops : Array Oper} {rest : List Oper} {o : Oper} {a : Act} {w : World} {Q : Exit → Act → World → Prop} (hgd : Region.wanted o (yielded ops a.tmps) = true) (ty : TypeId) (x : Operand) (ho : o.op = .load ty x)
    (g : Nat) (hx : a.eval x = .pointer (some ⟨g, 0, none⟩)) (t : TypeId) (cs : Array Value) (fr : Nat × Nat) (d : TypeDesc) (hg : w.heap[g]? = some (.cells cs t fr))
    (hu : P.underlying ty = some d) (hd : (match d with | .struct _ | .array _ _ => true | _ => false) = true) (hi : (P.info? ty).map (·.size) = some cs.size)
    (h : wpListIn F m P ops Q rest (a.put o.dst (.agg cs)) w) : wpListIn F m P ops Q (o :: rest) a w := by
  refine wpListIn_yields hgd (.agg cs) ?_ ?_ h
  · unfold Oper.about; rw [ho]
  · have hl := run_loadVar_row w g t ty cs fr d hg hu hd hi; cases hr : F.round <;> simp [Oper.semAt, ho, execOp, hx, Instr.loadAt, Instr.sureAddr, Result.andThen_ok, hl]
end Go.Rv
namespace Go.Rv
open Go.RowKit
set_option linter.unusedVariables false
theorem wpListIn_skips {F : Fence} {m : Nat} {P : Program} {ops : Array Oper} {rest : List Oper} {o : Oper} {a : Act} {w w' : World} {Q : Exit → Act → World → Prop} (hgd : Region.wanted o (yielded ops a.tmps) = true) (hab : o.about P w a.eval = none)
    (hr : (o.semAt F.round a.eval).run P w = .ok .skip w') (h : wpListIn F m P ops Q rest (a.put o.dst undef) w') : wpListIn F m P ops Q (o :: rest) a w := by
  unfold wpListIn; rw [if_pos hgd]; refine ⟨fun f hf => (by rw [hab] at hf; cases hf), ?_⟩; rw [hr]; exact h
theorem wpListIn_store_row {F : Fence} {m : Nat} {P : Program} {ops : Array Oper} {rest : List Oper} {o : Oper} {a : Act} {w : World} {Q : Exit → Act → World → Prop} (hgd : Region.wanted o (yielded ops a.tmps) = true) (ty : TypeId) (x y : Operand) (ho : o.op = .store ty x y)
    (g : Nat) (cells : Array Value) (hx : a.eval x = .pointer (some ⟨g, 0, none⟩)) (hy : a.eval y = .agg cells)
    (t : TypeId) (old : Array Value) (hg : w.heap[g]? = some (.cells old t (0, 0))) (hi : (P.info? ty).map (·.size) = some cells.size)
    (hold : old.size = cells.size) (h1 : cells.all (·.oneCell') = true)
    (h : wpListIn F m P ops Q rest (a.put o.dst undef) (w.setRow g cells)) : wpListIn F m P ops Q (o :: rest) a w := by
  refine wpListIn_skips hgd ?_ ?_ h
  · unfold Oper.about; rw [ho]
  · have hl := run_storeVar_row w g t ty old cells hg hi hold h1; cases hr : F.round <;> simp [Oper.semAt, ho, execOp, hx, hy, Instr.storeAt, Instr.sureAddr, Result.andThen_ok, hl]
theorem wpListIn_neq_on {F : Fence} {m : Nat} {P : Program} {ops : Array Oper} {rest : List Oper} {o : Oper} {a : Act} {w : World} {Q : Exit → Act → World → Prop} (hgd : Region.wanted o (yielded ops a.tmps) = true) (ty ty2 : TypeId) (x y : Operand) (ho : o.op = .binOp .neq ty x y ty2)
    (xs ys : Array Value) (hx : a.eval x = .agg xs) (hy : a.eval y = .agg ys) (hm : P.eqGuardType P.depth ty = false) (r : Bool) (hr : ∀ w, (Op.equalIn 10000 ty (.agg xs) (.agg ys)).run P w = .ok r w)
    (h : wpListIn F m P ops Q rest (a.put o.dst (.bool (!r))) w) : wpListIn F m P ops Q (o :: rest) a w := by
  refine wpListIn_yields hgd (.bool (!r)) ?_ ?_ h
  · unfold Oper.about; rw [ho]
  · have h1 := run_eqGuard_agg (P := P) w .neq ty x y xs ys hm; have h2 := run_neq_struct (P := P) w ty xs ys; rw [hr w] at h2; cases hro : F.round <;> simp only [Oper.semAt, execOp, ho, hx, hy, Sem.run_bind, Sem.run_pure, h1, h2, Result.andThen_ok]
end Go.Rv
namespace Go.Proofs.Ytoiephmngdecaaa
open Go.RowKit Go.Rv Go.Shelf
set_option linter.unusedVariables false
attribute [local go_sem] Oper.semAt_some
theorem BmIs.rows {w : World} {p le ll ce cl : Nat} {g : Geo.G} {es : List BE} {lv : List Int} (h : BmIs w p le ll ce cl g es lv) : RowOf w 6 BEC (fun _ => True) (some ⟨le, 0, none⟩) es := by
  by_cases h0 : es = []
  · exact .inl h0
  · refine .inr ⟨le, 0, rfl, h.lt.2.1, fun k x hk => ⟨fun j hj => ?_, trivial⟩⟩
    obtain ⟨a0, a1, a2, a3, a4, a5⟩ := h.ent hk; rw [Nat.zero_add]
    match j, hj with
    | 0, _ => exact a0
    | 1, _ => exact a1
    | 2, _ => exact a2
    | 3, _ => exact a3
    | 4, _ => exact a4
    | 5, _ => exact a5
theorem _root_.Go.Rv.RowOf.ent6 {w : World} {Q : BE → Prop} {a : Option Addr} {xs : List BE} (h : RowOf w 6 BEC Q a xs) {k : Nat} {x : BE} (hk : xs[k]? = some x) : ∃ b o, a = some ⟨b, o, none⟩ ∧ b < w.heap.size ∧ Q x ∧
    w.cell? ⟨b, o + k * 6, none⟩ = some (.int .i64 x.st) ∧ w.cell? ⟨b, o + k * 6 + 1, none⟩ = some (.int .i64 x.z) ∧ w.cell? ⟨b, o + k * 6 + 2, none⟩ = some (.int .i64 x.m) ∧ w.cell? ⟨b, o + k * 6 + 3, none⟩ = some (.int .i64 x.o) ∧ w.cell? ⟨b, o + k * 6 + 4, none⟩ = some (.int .i64 x.q) ∧ w.cell? ⟨b, o + k * 6 + 5, none⟩ = some (.int .i64 x.s) := by
  obtain ⟨b, o, rfl, hb, hc, hq⟩ := h.at hk; exact ⟨b, o, rfl, hb, hq, hc 0 (by omega), hc 1 (by omega), hc 2 (by omega), hc 3 (by omega), hc 4 (by omega), hc 5 (by omega)⟩
def ieV (x : BE × Nat) : Array Value := #[.int .i64 (x.2 : Nat), .agg (BEC x.1)]
set_option maxRecDepth 100000 in
set_option maxHeartbeats 4000000 in
theorem eall1_stops (n : Nat) (hn : 1 ≤ n) (B rb : Nat) (a : Option Addr) (cp : Nat) (es : List BE) (w : World) (hB : w.cell? ⟨B, 0, none⟩ = some (.slice a es.length cp)) (hR : RowOf w 6 BEC (fun _ => True) a es) (hrb : ∀ x, a = some x → x.block = rb) (hrl : rb < w.heap.size) (hl : es.length ≤ 100000) :
    SeqT Fence.wide n Try.prog 57 #[.pointer (some ⟨B, 0, none⟩)] ieV [rb] [] (fun ys => ys = es.zipIdx) (fun pre => pre <+: es.zipIdx) es.length w := by
  intro r T J Jx W hW hr0 hrW hT hJ hJx hY h0; have hBW : W.cell? ⟨B, 0, none⟩ = some (.slice a es.length cp) := (hW.cell (p := ⟨B, 0, none⟩) (block_lt_of_cell hB)).trans hB; have HR := Lib.hid (hR.below hW); have hz := (zero_of_info Try.infoEnt).1; have HIE := Lib.hid (fun e => esize e); have HON := Lib.hid (fun e => BEC_one e); have HSZ : Hid (∀ e : BE, (BEC BE.zero).size = (BEC e).size) := Lib.hid (fun e => by rw [BEC_size, BEC_size]); have hzW := hW.size; clear hR hB hW; refine callsIn_of_wp Try.func57 rfl trivial ?_ rfl; simp only [Try.ntmps57, List.size_toArray, List.length_cons, List.length_nil, Nat.reduceAdd, Nat.reduceSub, Array.replicate_succ, Array.replicate_zero, List.push_toArray, List.append_toArray, List.nil_append, List.cons_append]; gi_wp2
  gi_loopw [7] (fun i wr => ∃ k : Nat, k ≤ es.length ∧ i = .int .i64 k ∧ J (es.take k).zipIdx wr ∧ RowOf wr 6 BEC (fun _ => True) a es ∧ W.heap.size ≤ wr.heap.size) (fun i _ => es.length - (intOf i).toNat)
  case atStart => exact ⟨0, Nat.zero_le _, rfl, h0, HR.out, Nat.le_refl _⟩
  case round =>
    obtain ⟨k, hk, rfl, hJk, hrow, hzr⟩ := hrel; by_cases hlt : k < es.length
    · obtain ⟨x, hx⟩ : ∃ x, es[k]? = some x := ⟨_, List.getElem?_eq_getElem hlt⟩; obtain ⟨b, o, rfl, hbl, -, d0, d1, d2, d3, d4, d5⟩ := hrow.ent6 hx; have HBB : Hid (b = rb) := Lib.hid (hrb _ rfl); have HS := Lib.hid (zip_take es hx); have HP : Hid ((es.take k).zipIdx ++ [(x, k)] <+: es.zipIdx) := Lib.hid (by rw [← HS.out]; exact zip_full es _); obtain ⟨WA, hWA⟩ : ∃ WA, wr.alloc (.cells (BEC x) 54) = WA := ⟨_, rfl⟩; have hba : Below wr.heap.size wr WA := by rw [← hWA]; exact (Below.refl wr.heap.size wr).alloc (Nat.le_refl _) _
      have hop : WA.heap[wr.heap.size]? = some (.cells (BEC x) 54 (0, 0)) := by rw [← hWA]; exact heap_alloc_new wr _
      have hJA := hJ _ _ _ hJk ((Turn.of_below hba : Turn W.heap.size [] wr WA)); have HRA := Lib.hid (hrow.below hba); have zA := hba.size; obtain ⟨fn, tmps, assign, body, hy', hRd⟩ := hY (es.take k).zipIdx (x, k) WA hJA (by rw [zip_len _ hk]; exact hlt) HP.out; have hy : (Instr.yield r #[.int .i64 (k : Nat), .agg (BEC x)]).run Try.prog WA = .ok (.round r fn tmps assign body) WA := hy'; have HWA := Lib.hid hWA; have HOP := Lib.hid hop; have HRD := Lib.hid hRd; clear hx hy' hJk hrow hba hop hJA hWA hRd; gi_wp2_with (first | (refine wpListIn_store_row (by rfl) 54 _ _ rfl wr.heap.size (BEC x) rfl rfl 54 (BEC BE.zero) (heap_alloc_new wr _) (HIE.out _) (HSZ.out _) (HON.out _) ?_; rw [World.setRow_alloc_new, HWA.out]; clear d0 d1 d2 d3 d4 d5) | (refine wpListIn_row_on (by rfl) 54 _ rfl wr.heap.size rfl 54 _ _ _ HOP.out Try.underlying54 rfl (HIE.out _) ?_)); refine HRD.out.mono ?_; rintro e W3 ⟨hO3, (⟨rfl, hJ3⟩ | ⟨rfl, hJx3⟩)⟩
      · have HRW : Hid (RowOf W3 6 BEC (fun _ => True) (some ⟨b, o, none⟩) es) := Lib.hid (HRA.out.only hO3 (by
          intro y hy2 hm; cases hy2; rcases List.mem_cons.1 hm with e | hm
          · have := HBB.out; simp only at e; omega
          · have := (hT _ hm).2; simp only [List.mem_singleton] at this; exact this HBB.out))
        have z3 := hO3.size; clear hy; gi_wp2; go_roundw
        case rel => exact ⟨k + 1, by omega, by go_num, by rw [HS.out]; exact hJ3, HRW.out, by omega⟩
        case measure => simp [intOf]; omega
      · clear hy; gi_wp2; refine bodyPost_ret (results_none rfl _ _ _) rfl ?_; exact ⟨⟨_, rfl⟩, .inr ⟨_, HP.out, hJx3⟩⟩
    · obtain rfl : k = es.length := by omega
      rw [List.take_length] at hJk; gi_wp2
      go_end0
      exact ⟨⟨_, rfl⟩, .inl ⟨_, rfl, hJk⟩⟩
end Go.Proofs.Ytoiephmngdecaaa
