/- Proved here, one behind the other: Proved here: plain facts on what a right list gives the roller: its records are right, and the roller's state stays within bounds; Small laws, over any program: a map from ints of the call's own, of which it is known what value lies at each key; Arguments that are geometries, by their cells; Proved here: what an argument of entries, or of steps, has in its cells; Plain laws: a list's things, each with its place; The law on drawn regions (Conf), inside a fence: in a round of a range over a function too; Laws over any program: whole rows stored, and compared, inside a round; Proved here: a map's entries, one by one (slices.All), by the law on turns; the map's All; Proved here: the contract of the map's New; Proved here: a map's Copy; Proved here: the records of a list by their numbers, in memory: a map from numbers to rows of the call's own; Proved here: the blocks that are single (the roller's singles); Laws over any program: results of which one is a row of cells; Proved here: what the snapshot's code writes with a pen: a body out of a pen; an entry; Proved here: snap's put: an entry goes through a pen; Proved here: snap's head: the body of a snapshot's first frame; A law over any program: a region that draws its order, in which a few operations, each behind the one before it, turn some blocks stage by stage, one makes a block, and one stores a row into it, in an open order; A law over any program: a region that draws its order, in which one operation makes a block, one stores a row into it, in an open order, and the others turn nothing: with facts of all other slots; Proved here: the library's sort of a slice of ints of the call's own, in the words of rows that are owned; Proved here: the library's Compact of a slice of ints of the call's own, in the words of rows that are owned; Proved here: the records of a list, by their numbers, and the zones in which they were found (roll's records). -/
import Derived.Maps.OwnSet
import Derived.OpenShut
import Derived.OrdersIn
import Derived.TacticsIn
import Derived.LoopTactic
import Derived.WalkSpells
import Derived.WalkLawsBesides
import Derived.Laws.StructEq
import Derived.Laws.Rows
import Derived.Laws.Tables
import Derived.Test.YtoiephmngdecaaaSrtLay
import Derived.Sort.OwnSortedInts
import Derived.Test.YtoiephmngdecaaaCmpLay
import Derived.Great.BuildSlice
import Derived.Test.YtoiephmngdecaaaQa
import Derived.Test.YtoiephmngdecaaaQb
import Derived.Test.YtoiephmngdecaaaQc
import Derived.Test.YtoiephmngdecaaaQd
import Derived.Test.YtoiephmngdecaaaQe
namespace Go.Proofs.Ytoiephmngdecaaa
open Go.RowKit Go.Rv Frm
set_option linter.unusedVariables false
namespace Rl
theorem wfI {x : Int} (h : -9223372036854775808 ≤ x ∧ x ≤ 9223372036854775807) : (Go.Lit.int .i64 x).wf = true := by
  simp [Go.Lit.wf, Go.IntKind.min, Go.IntKind.max, Go.IntKind.signed, Go.IntKind.bits]
  omega
/-- a record that is right in a geometry -/
structure RecOk (g : Geo.G) (r : Rec) : Prop where
  q : RecQ r
  b : 0 ≤ r.e.block ∧ r.e.block < g.b
  m : 0 ≤ r.e.many ∧ r.e.block + r.e.many ≤ g.b
  z : 0 ≤ r.zone ∧ r.zone ≤ 1000000
  t : 0 ≤ r.e.mate ∧ r.e.mate ≤ 1000000
  o : 0 ≤ r.off ∧ r.off ≤ 1000000
  f : 0 ≤ r.e.first ∧ r.e.first ≤ 281474976710655
theorem holdsG_bound {g : Geo.G} {z o : Int} (h : holdsG g z o = true) : (0 ≤ z ∧ z ≤ 1000000) ∧ (0 ≤ o ∧ o ≤ 1000000) := by
  have hs := holdsG_small h
  unfold holdsG at h
  simp only [Bool.and_eq_true, Geo.inB_iff] at h
  obtain ⟨-, ⟨h1, h2⟩, h3, h4⟩ := h
  obtain ⟨hd, hz, hss, -⟩ := hs
  have : g.d * g.z ≤ 8 * 64 := Int.mul_le_mul hd.2 hz.2 (by omega) (by omega)
  omega
theorem recE_ok {g : Geo.G} {epoch : Int} {f : Fnd} {e : En.E} (hf : Body f.fr.body) (h : recE g epoch f = some e) : RecOk g ⟨e, f.zone, f.off⟩ := by
  unfold recE at h
  split at h
  · rename_i hh
    obtain ⟨h1, -, -, -, h5⟩ := hh
    simp only [Option.some.injEq] at h
    have hr := readE_ok hf h1
    have hb := readE_body f.fr hf
    rw [h] at hr hb h5
    unfold Rl.lies at h5
    simp only [Bool.and_eq_true, decide_eq_true_eq] at h5
    obtain ⟨h6, h7, -, h8⟩ := h5
    have b1 := holdsG_bound h6
    have b2 := holdsG_bound h7
    obtain ⟨a, b, c, m, t2, he, k1, k2, k3, k4, k5, k6⟩ := En.right_nat hr
    have e1 : e.first = a := by rw [he]
    have e2 : e.block = c := by rw [he]
    have e3 : e.many = m := by rw [he]
    refine ⟨hb, ?_, ?_, b1.1, b2.1, b1.2, ?_⟩
    · show 0 ≤ e.block ∧ e.block < g.b
      omega
    · show 0 ≤ e.many ∧ e.block + e.many ≤ g.b
      omega
    · show 0 ≤ e.first ∧ e.first ≤ 281474976710655
      omega
  · cases h
theorem recF_ok {g : Geo.G} {epoch next : Int} {f : Fnd} {x : Int × Rec} (hf : Body f.fr.body) (h : recF g epoch next f = some x) : RecOk g x.2 := by
  unfold recF at h
  split at h
  · cases h
  · rename_i e he
    split at h
    · cases h
    · simp only [Option.some.injEq] at h
      subst h
      exact recE_ok hf he
theorem recs_ok {g : Geo.G} {epoch next : Int} {l : List Fnd} (hl : ∀ f ∈ l, Body f.fr.body) : ∀ x ∈ recs g epoch next l, RecOk g x.2 ∧ next ≤ x.1 := by
  intro x hx
  unfold recs at hx
  rw [List.mem_filterMap] at hx
  obtain ⟨f, hf, hx⟩ := hx
  exact ⟨recF_ok (hl f hf) hx, (recF_seq hx).2⟩
theorem atSeq_ok {g : Geo.G} {R : List (Int × Rec)} (hR : ∀ x ∈ R, RecOk g x.2) (s : Int) : ∀ r ∈ atSeq R s, RecOk g r := by
  intro r hr
  unfold atSeq at hr
  rw [List.mem_map] at hr
  obtain ⟨x, hx, rfl⟩ := hr
  exact hR x (List.mem_filter.1 hx).1
theorem firstPair_mem : ∀ {l : List Rec} {a : Rec}, firstPair l = some a → a ∈ l
  | [], a, h => by simp [firstPair] at h
  | x :: l, a, h => by
    unfold firstPair at h
    split at h
    · simp only [Option.some.injEq] at h
      subst h
      simp
    · exact List.mem_cons_of_mem _ (firstPair_mem h)
theorem choose_mem {l : List Rec} (h : l ≠ []) : (choose l).r ∈ l := by
  unfold choose
  split
  · rename_i a ha
    exact firstPair_mem ha
  · cases l with
    | nil => exact absurd rfl h
    | cons x l => simp
theorem beE64 {g : Geo.G} {c : Ch} (h : RecOk g c.r) {seq : Int} (hs : 0 ≤ seq ∧ seq ≤ 1125899906842624) : E64 (beOf seq c) := by
  have hsum : Crc.sum c.r.e.bytes < 4294967296 := Crc.sum_lt h.q.2
  have := h.z
  have := h.t
  have := h.o
  refine ⟨rfl, ?_, ?_, ?_, ?_, ?_⟩
  all_goals (refine wfI ?_)
  all_goals (unfold beOf; simp only; omega)
/-- a state that is within bounds -/
structure StOk (g : Geo.G) (st : St) (k : Nat) : Prop where
  ap : 0 ≤ st.applied ∧ st.applied ≤ (k : Int)
  fi : 0 ≤ st.first ∧ st.first ≤ 562949953421312
  len : st.ol.length ≤ k
  ok : ∀ x ∈ st.ol, RecOk g x.r
theorem trim_keeps (g : Geo.G) : ∀ (n : Nat) (b : Int) (st : St), (trim g b n st).first = st.first ∧ (trim g b n st).ol = st.ol
  | 0, _, _ => ⟨rfl, rfl⟩
  | n + 1, b, st => by
    unfold trim
    exact trim_keeps g n (b + 1) _
theorem StOk.step {g : Geo.G} {st : St} {k : Nat} (h : StOk g st k) {c : Ch} (hc : RecOk g c.r) {seq : Int} (hs : 0 ≤ seq ∧ seq ≤ 562949953421312) : StOk g (step g st seq c) (k + 1) := by
  have ha := step_applied g st seq c
  have hap : 0 ≤ (Rl.step g st seq c).applied ∧ (Rl.step g st seq c).applied ≤ ((k + 1 : Nat) : Int) := by have := h.ap; omega
  refine ⟨hap, ?_, ?_, ?_⟩
  all_goals clear ha hap
  all_goals unfold Rl.step
  all_goals split
  · have h1 : 0 ≤ (opened st seq c.r.e).first ∧ (opened st seq c.r.e).first ≤ 562949953421312 := by unfold opened; split; exact hs; exact h.fi
    unfold data
    simp only
    split
    · simp [shut]
    · split
      · exact h1
      · simp [shut]
  · unfold other
    simp only
    split
    · simp [lie, shut]
    · rw [(trim_keeps g _ _ _).1]; simp [shut]
  · have h1 : (opened st seq c.r.e).ol.length ≤ k := by unfold opened; split; simp; exact h.len
    unfold data
    simp only
    split
    · simp [shut]
    · split
      · simp; exact h1
      · simp [shut]
  · unfold other
    simp only
    split
    · simp [lie, shut]
    · rw [(trim_keeps g _ _ _).2]; simp [shut]
  · have h1 : ∀ x ∈ (opened st seq c.r.e).ol, RecOk g x.r := by unfold opened; split; simp; exact h.ok
    unfold data
    simp only
    split
    · simp [shut]
    · split
      · intro x hx
        simp only [List.mem_append, List.mem_singleton] at hx
        rcases hx with hx | rfl
        · exact h1 x hx
        · exact hc
      · simp [shut]
  · unfold other
    simp only
    split
    · simp [lie, shut]
    · rw [(trim_keeps g _ _ _).2]; simp [shut]
theorem after_ok {g : Geo.G} {R : List (Int × Rec)} {next : Int} {st : St} (h : StOk g st 0) (hR : ∀ x ∈ R, RecOk g x.2) (hn : 0 ≤ next ∧ next ≤ 281474976710655) : ∀ k : Nat, k ≤ 1000000 → (∀ j, j < k → atSeq R (next + (j : Nat)) ≠ []) → StOk g (after g R next st k) k
  | 0, _, _ => h
  | k + 1, hk, hj => by
    unfold after
    exact (after_ok h hR hn k (by omega) (fun j hjk => hj j (by omega))).step (atSeq_ok hR _ _ (choose_mem (hj k (by omega)))) (by omega)
/-- what data asks of the roller's list -/
theorem StOk.opened {g : Geo.G} {st : St} {k : Nat} (h : StOk g st k) (hk : k ≤ 1000000) {c : Ch} (hc : RecOk g c.r) {seq : Int} (hs : 0 ≤ seq ∧ seq ≤ 562949953421312) :
    ∀ (i : Nat) x, ((Rl.opened st seq c.r.e).ol ++ [c])[i]? = some x → ChQ x ∧ (0 ≤ x.r.e.block ∧ x.r.e.block < g.b) ∧ E64 (beOf ((Rl.opened st seq c.r.e).first + (i : Nat)) x) := by
  intro i x hx
  have hi := (List.getElem?_eq_some_iff.1 hx).1
  have hm := List.mem_of_getElem? hx
  rw [List.mem_append, List.mem_singleton] at hm
  rw [List.length_append, List.length_singleton] at hi
  have hcase : ((Rl.opened st seq c.r.e).ol.length ≤ k ∧ ∀ x ∈ (Rl.opened st seq c.r.e).ol, RecOk g x.r) ∧ (0 ≤ (Rl.opened st seq c.r.e).first ∧ (Rl.opened st seq c.r.e).first ≤ 562949953421312) := by
    unfold Rl.opened
    split
    · exact ⟨⟨by simp, by simp⟩, hs⟩
    · exact ⟨⟨h.len, h.ok⟩, h.fi⟩
  obtain ⟨⟨h1, h2⟩, h3⟩ := hcase
  have hok : RecOk g x.r := by
    rcases hm with hm | rfl
    · exact h2 x hm
    · exact hc
  exact ⟨hok.q, hok.b, beE64 hok (by omega)⟩
end Rl
end Go.Proofs.Ytoiephmngdecaaa
namespace Go.Rv
open Go.RowKit Go.Maps
set_option linter.unusedVariables false
/-- a value is read as itself -/
def selfElem (v : Value) : Option (DataW Value × List MemPlace) := some (.held v, [])
theorem selfElem_inv {v : Value} {d : DataW Value} {ps : List MemPlace} (h : selfElem v = some (d, ps)) : d = .held v ∧ ps = [] := by
  unfold selfElem at h
  simp only [Option.some.injEq, Prod.mk.injEq] at h
  exact ⟨h.1.symm, h.2.symm⟩
/-- block b is a map from ints, of at most n entries; V tells what lies at each key (z where there is none) -/
def MapI (w : World) (P : Program) (k : TypeId) (z : Value) (b n : Nat) (V : Int → Value) : Prop :=
  ∃ D : DataW Value, w.ownsMap P k selfElem b n D ∧ ∀ i : Int, D.atKey (.int .i64 i) (.held z) = .held (V i)
theorem MapI.made (w : World) (P : Program) (k : TypeId) (z : Value) : MapI (w.alloc (.map #[] 0)) P k z w.heap.size 0 (fun _ => z) :=
  ⟨_, World.ownsMap_made _ _ _ _, fun _ => rfl⟩
theorem MapI.mono {w : World} {P : Program} {k : TypeId} {z : Value} {b n : Nat} {V : Int → Value} (h : MapI w P k z b n V) {n' : Nat} (hn : n ≤ n') : MapI w P k z b n' V :=
  let ⟨D, h1, h2⟩ := h
  ⟨D, h1.mono hn, h2⟩
theorem MapI.lt {w : World} {P : Program} {k : TypeId} {z : Value} {b n : Nat} {V : Int → Value} (h : MapI w P k z b n V) : b < w.heap.size :=
  let ⟨_, h1, _⟩ := h
  h1.lt
theorem MapI.kept {w w' : World} {P : Program} {k : TypeId} {z : Value} {b n : Nat} {V : Int → Value} {row : Option Nat} (h : MapI w P k z b n V) (hg : w.grownBy w' row) (hne : some b ≠ row) : MapI w' P k z b n V :=
  let ⟨D, h1, h2⟩ := h
  ⟨D, h1.kept hg hne, h2⟩
theorem MapI.below {w w' : World} {P : Program} {k : TypeId} {z : Value} {b n : Nat} {V : Int → Value} (h : MapI w P k z b n V) (hb : Below w.heap.size w w') : MapI w' P k z b n V :=
  h.kept (grownBy_of_below hb none) (by simp)
theorem MapI.alloc {w : World} {P : Program} {k : TypeId} {z : Value} {b n : Nat} {V : Int → Value} (h : MapI w P k z b n V) (o : Obj) : MapI (w.alloc o) P k z b n V :=
  let ⟨D, h1, h2⟩ := h
  ⟨D, h1.alloc o, h2⟩
/-- a map's block is no row of cells -/
theorem MapI.obj {w : World} {P : Program} {k : TypeId} {z : Value} {b n : Nat} {V : Int → Value} (h : MapI w P k z b n V) : ∃ es clock, w.heap[b]? = some (.map es clock) :=
  let ⟨_, ⟨es, clock, h1, _⟩, _⟩ := h
  ⟨es, clock, h1⟩
/-- V, but v at key i -/
def putV (V : Int → Value) (i : Int) (v : Value) : Int → Value := fun j => if j = i then v else V j
/-- 'm[k]' -/
theorem wpList_lookupI {P : Program} {w : World} {ops : Array Oper} {rest : List Oper} {o : Oper} {a : Act} {Q : Exit → Act → World → Prop}
    (hg : o.guard = none) (m x : Operand) (t : TypeId) (hop : o.op = Op.lookup t m x false)
    (k e : TypeId) (hk : P.underlying k = some (.int .i64)) (ht : P.underlying t = some (.map k e)) (z : Value) (hz : ∀ w, (zeroValue e).run P w = .ok z w) (b n : Nat) (V : Int → Value)
    (hm : a.eval m = .map (some b)) (hown : MapI w P k z b n V) (i : Int) (hx : a.eval x = .int .i64 i) (hi : (Lit.int .i64 i).wf = true)
    (hK : wpList P ops Q rest (a.put o.dst (V i)) w) : wpList P ops Q (o :: rest) a w := by
  refine wpList_plain hg fun K' hK' => ?_
  obtain ⟨D, h1, h2⟩ := hown
  obtain ⟨v, ps, hrun, hv⟩ := h1.lookup (int_keyed hk) ht (hz w) (zd := .held z) (zp := []) rfl (keyOf_int_mk hk hi)
  obtain ⟨hd, -⟩ := selfElem_inv hv
  rw [h2 i, DataW.held.injEq] at hd
  subst hd
  unfold Oper.wp
  simp [execOp, hop, hm, hx, hrun, Result.andThen]
  exact hK' _ _ hK
/-- 'm[k] = v' -/
theorem wpList_mapUpdateI {P : Program} {w : World} {ops : Array Oper} {rest : List Oper} {o : Oper} {a : Act} {Q : Exit → Act → World → Prop}
    (hg : o.guard = none) (m x v : Operand) (t : TypeId) (hop : o.op = Op.mapUpdate t m x v)
    (k e : TypeId) (hk : P.underlying k = some (.int .i64)) (ht : P.underlying t = some (.map k e)) (z : Value) (b n : Nat) (V : Int → Value)
    (hm : a.eval m = .map (some b)) (hown : MapI w P k z b n V) (hn : n < maxLen) (i : Int) (hx : a.eval x = .int .i64 i) (hi : (Lit.int .i64 i).wf = true)
    (hK : ∀ w', MapI w' P k z b (n + 1) (putV V i (a.eval v)) → w.grownBy w' (some b) → wpList P ops Q rest (a.put o.dst undef) w') : wpList P ops Q (o :: rest) a w := by
  obtain ⟨D, h1, h2⟩ := hown
  refine wpList_mapUpdate_own w hg m x v t hop k e (int_keyed hk) ht selfElem b n D hm h1 hn _ _ _ hx rfl (keyOf_int_mk hk hi) (.held (a.eval v)) [] rfl fun w' h3 h4 => hK w' ⟨_, h3, fun j => ?_⟩ h4
  unfold putV
  by_cases hj : j = i
  · subst hj
    rw [if_pos rfl]
    exact atKey_put_same (k := .int .i64 j) h1.isMap ((int_keyed hk).key (keyOf_int_mk hk hi)) _ _
  · rw [if_neg hj, atKey_put_other (fun he => hj (by cases he; rfl)), h2 j]
end Go.Rv
namespace Go.Proofs.Ytoiephmngdecaaa
open Go.RowKit Go.Rv
set_option linter.unusedVariables false
theorem chunk1 {cs : List Value} {i : Nat} {v : Value} (h : (cs.drop i).take 1 = [v]) : cs[i]? = some v := by
  have : ((cs.drop i).take 1)[0]? = some v := by rw [h]; rfl
  rw [List.getElem?_take] at this
  simpa using this
theorem agg6 {v : Value} (h : v.cells.toList.length = 6) : ∃ xs : Array Value, v = .agg xs := by
  cases v
  case agg xs => exact ⟨xs, rfl⟩
  all_goals (exfalso; exact (show (1 : Nat) ≠ 6 by omega) h)
theorem six_vals {L : List Value} {a b c d e f : Value} (hl : L.length = 6) (h0 : (L.drop 0).take 1 = [a]) (h1 : (L.drop 1).take 1 = [b]) (h2 : (L.drop 2).take 1 = [c]) (h3 : (L.drop 3).take 1 = [d]) (h4 : (L.drop 4).take 1 = [e]) (h5 : (L.drop 5).take 1 = [f]) : L = [a, b, c, d, e, f] := by
  match L, hl with
  | [x0, x1, x2, x3, x4, x5], _ =>
    simp at h0 h1 h2 h3 h4 h5
    subst h0 h1 h2 h3 h4 h5
    rfl
set_option maxRecDepth 100000 in
def Num6 (g : Geo.G) : Prop := (Lit.int .i64 g.d).wf = true ∧ (Lit.int .i64 g.z).wf = true ∧ (Lit.int .i64 g.s).wf = true ∧ (Lit.int .i64 g.b).wf = true ∧ (Lit.int .i64 g.p).wf = true ∧ (Lit.int .i64 g.o).wf = true
set_option maxRecDepth 100000 in
theorem geo_of_fits {d : Nat} {w : World} {v : Value} (h : Fits Try.prog w (d + 2) 23 v.cells.toList) : ∃ g : Geo.G, v = .agg (GC g) ∧ Num6 g := by
  obtain ⟨hl, hx⟩ := fits_struct (d := d + 1) Try.underlying23 h
  have k1 : Try.prog.cellsOf 3 = 1 := by kernel_rfl
  have k6 : Try.prog.cellsOf 23 = 6 := by kernel_rfl
  rw [k6] at hl
  obtain ⟨xs, rfl⟩ := agg6 hl
  simp only [List.forall_mem_cons, k1] at hx
  obtain ⟨f0, f1, f2, f3, f4, f5, -⟩ := hx
  obtain ⟨n0, c0, w0⟩ := fits_int Try.underlying3 f0
  obtain ⟨n1, c1, w1⟩ := fits_int Try.underlying3 f1
  obtain ⟨n2, c2, w2⟩ := fits_int Try.underlying3 f2
  obtain ⟨n3, c3, w3⟩ := fits_int Try.underlying3 f3
  obtain ⟨n4, c4, w4⟩ := fits_int Try.underlying3 f4
  obtain ⟨n5, c5, w5⟩ := fits_int Try.underlying3 f5
  have he := six_vals hl c0 c1 c2 c3 c4 c5
  refine ⟨⟨n0, n1, n2, n3, n4, n5⟩, ?_, w0, w1, w2, w3, w4, w5⟩
  have : xs = GC ⟨n0, n1, n2, n3, n4, n5⟩ := Array.toList_inj.1 he
  rw [this]
end Go.Proofs.Ytoiephmngdecaaa
namespace Go.Proofs.Ytoiephmngdecaaa
open Go.RowKit Go.Rv
set_option linter.unusedVariables false
set_option maxRecDepth 100000 in
theorem ent_of_fits6 {d : Nat} {w : World} {cs : List Value} (h : Fits Try.prog w (d + 2) 54 cs) : ∃ e : BE, cs = (BEC e).toList ∧ E64 e := by
  obtain ⟨hl, hx⟩ := fits_struct (d := d + 1) Try.underlying54 h
  have k1 : Try.prog.cellsOf 3 = 1 := by kernel_rfl
  have k6 : Try.prog.cellsOf 54 = 6 := by kernel_rfl
  rw [k6] at hl
  simp only [List.forall_mem_cons, k1] at hx
  obtain ⟨f0, f1, f2, f3, f4, f5, -⟩ := hx
  obtain ⟨n0, c0, w0⟩ := fits_int Try.underlying3 f0
  obtain ⟨n1, c1, w1⟩ := fits_int Try.underlying3 f1
  obtain ⟨n2, c2, w2⟩ := fits_int Try.underlying3 f2
  obtain ⟨n3, c3, w3⟩ := fits_int Try.underlying3 f3
  obtain ⟨n4, c4, w4⟩ := fits_int Try.underlying3 f4
  obtain ⟨n5, c5, w5⟩ := fits_int Try.underlying3 f5
  exact ⟨⟨n0, n1, n2, n3, n4, n5⟩, six_vals hl c0 c1 c2 c3 c4 c5, w0, w1, w2, w3, w4, w5⟩
/-- a step: a block, and its entry -/
def opC (x : Int × BE) : Array Value := #[.int .i64 x.1, .int .i64 x.2.st, .int .i64 x.2.z, .int .i64 x.2.m, .int .i64 x.2.o, .int .i64 x.2.q, .int .i64 x.2.s]
theorem opC_one (x : Int × BE) : (opC x).all (·.oneCell') = true := by simp [opC, Value.oneCell']
def Op64 (x : Int × BE) : Prop := (Lit.int .i64 x.1).wf = true ∧ E64 x.2
end Go.Proofs.Ytoiephmngdecaaa
namespace Go.Rv
set_option linter.unusedVariables false
theorem zip_take {α : Type} (l : List α) {k : Nat} {x : α} (h : l[k]? = some x) : (l.take (k + 1)).zipIdx = (l.take k).zipIdx ++ [(x, k)] := by
  obtain ⟨hk, rfl⟩ := List.getElem?_eq_some_iff.1 h
  rw [List.take_succ_eq_append_getElem hk, List.zipIdx_append]
  simp [List.length_take, Nat.min_eq_left (Nat.le_of_lt hk)]
theorem zip_prefix {α : Type} (l : List α) {k m : Nat} (h : k ≤ m) : (l.take k).zipIdx <+: (l.take m).zipIdx := by
  obtain ⟨d, rfl⟩ : ∃ d, m = k + d := ⟨m - k, by omega⟩
  refine ⟨((l.drop k).take d).zipIdx (l.take k).length, ?_⟩
  rw [List.take_add, List.zipIdx_append]
  simp
theorem zip_full {α : Type} (l : List α) (k : Nat) : (l.take k).zipIdx <+: l.zipIdx := by
  by_cases h : k ≤ l.length
  · have := zip_prefix l h
    rwa [List.take_length] at this
  · rw [List.take_of_length_le (by omega)]
    exact ⟨[], by simp⟩
theorem zip_len {α : Type} (l : List α) {k : Nat} (h : k ≤ l.length) : (l.take k).zipIdx.length = k := by simp [h]
/-- what has come so far is a beginning: so the next one is known -/
theorem zip_next {α : Type} {l : List α} {pre : List (α × Nat)} {x : α × Nat} (h : pre ++ [x] <+: l.zipIdx) : x.2 = pre.length ∧ l[pre.length]? = some x.1 ∧ pre.length < l.length ∧ pre = (l.take pre.length).zipIdx := by
  obtain ⟨t, ht⟩ := h
  have hlen := congrArg List.length ht
  simp at hlen
  have h1 : l.zipIdx[pre.length]? = some x := by rw [← ht]; simp
  rw [List.getElem?_zipIdx] at h1
  simp only [Option.map_eq_some_iff, Nat.zero_add] at h1
  obtain ⟨y, hy, rfl⟩ := h1
  refine ⟨rfl, hy, by omega, ?_⟩
  have h2 : l.zipIdx.take pre.length = pre := by rw [← ht]; simp
  have h3 := List.prefix_iff_eq_take.1 (zip_full l pre.length)
  rw [zip_len l (by omega), h2] at h3
  exact h3.symm
end Go.Rv
namespace Go.Rv
open Go.RowKit
set_option linter.unusedVariables false
theorem upon_thenIn {F : Fence} {m : Nat} {P : Program} {o : Oper} {a : Act} {K : Act → World → Prop} {Q : Exit → Act → World → Prop} {r : Result Next} (h : o.uponIn F m P a K (Exit.then K Q) r) : o.uponIn F m P a K Q r := by
  cases r with
  | ok n w' =>
    cases n <;> simp only [Oper.uponIn] at h ⊢
    all_goals first
      | exact h
      | exact ⟨h.1, CallsIn.mono h.2 (fun e w'' he => by cases e <;> exact he)⟩
      | exact ⟨h.1, RoundIn.mono h.2 (fun e w'' he => by cases e <;> exact he)⟩
  | halt x w' => cases x <;> simp only [Oper.uponIn] at h ⊢ <;> exact h
theorem wpOpIn_of_list {F : Fence} {m : Nat} {P : Program} {ops : Array Oper} {K : Act → World → Prop} {Q : Exit → Act → World → Prop} {i : Nat} {o : Oper} {a : Act} {w : World} (ho : ops[i]? = some o) (h : wpListIn F m P ops (Exit.then K Q) [o] a w) : wpOpIn F m P ops Q i K a w := by
  unfold wpOpIn
  simp only [ho]
  simp only [wpListIn] at h
  split
  · rename_i hw
    rw [if_pos hw] at h
    unfold Oper.wpIn at h ⊢
    exact ⟨h.1, upon_thenIn h.2⟩
  · rename_i hw
    rw [if_neg hw] at h
    exact h
theorem wpAnyIn_of_seq {F : Fence} {m : Nat} {P : Program} {md : Region.Mode} {ops : Array Oper} {Q' : Exit → Act → World → Prop} : ∀ (l : List Oper) (k : Nat) (listed : Array Bool) (a : Act) (w : World), (∀ j, l[j]? = ops[k + j]?) →
    Region.seqB md ops l.length k listed = true → wpListIn F m P ops Q' l a w → wpAnyIn F m P md ops Q' l.length listed a w
  | [], _, _, _, _, _, hB, h => ⟨by simpa [Region.seqB] using hB, h⟩
  | o :: l, k, listed, a, w, hl, hB, h => by
    have h0 : ops[k]? = some o := by simpa using (hl 0).symm
    simp only [List.length_cons, Region.seqB, Bool.and_eq_true, decide_eq_true_eq] at hB
    refine ⟨fun h1 => (by rw [hB.1] at h1; cases h1), fun i hi => ?_⟩
    rw [hB.1] at hi
    obtain rfl : i = k := by simpa using hi
    have hw : wpOpIn F m P ops Q' i (wpListIn F m P ops Q' l) a w := by unfold wpOpIn; simp only [h0]; exact h
    exact wpOpIn_mono (fun a' w' h' => wpAnyIn_of_seq l (i + 1) _ a' w' (fun j => by have := hl (j + 1); simpa [Nat.add_assoc, Nat.add_comm 1 j] using this) hB.2 h') hw
def OblIn (F : Fence) (m : Nat) (P : Program) (ops : Array Oper) (Q : Exit → Act → World → Prop) (A : (Nat → Value) → Act) (w0 : World) (Φ : List Fact) (i : Nat) (o : Oper) : Prop :=
  ∀ (v : Nat → Value) (w : World) (K : Act → World → Prop), Below w0.heap.size w0 w → Deps Φ v w o.after.toList →
    (∀ u w', Below w.heap.size w w' → (Φ.getD i Fact.any).p u w' → K ((A v).put o.dst u) w') → wpListIn F m P ops (Exit.then K Q) [o] (A v) w
def OblsIn (F : Fence) (m : Nat) (P : Program) (ops : Array Oper) (Q : Exit → Act → World → Prop) (A : (Nat → Value) → Act) (w0 : World) (Φ : List Fact) : Nat → List Oper → Prop
  | _, [] => True
  | i, o :: r => OblIn F m P ops Q A w0 Φ i o ∧ OblsIn F m P ops Q A w0 Φ (i + 1) r
theorem OblsIn.at {F : Fence} {m : Nat} {P : Program} {ops : Array Oper} {Q : Exit → Act → World → Prop} {A : (Nat → Value) → Act} {w0 : World} {Φ : List Fact} : ∀ {k : Nat} {l : List Oper}, OblsIn F m P ops Q A w0 Φ k l → ∀ {i : Nat} {o : Oper}, l[i]? = some o → OblIn F m P ops Q A w0 Φ (k + i) o
  | _, [], _, _, _, h => by simp at h
  | k, _ :: r, h, 0, _, ho => by simp at ho; subst ho; exact h.1
  | k, _ :: r, h, i + 1, _, ho => by
    have := OblsIn.at h.2 (i := i) (by simpa using ho)
    rwa [show k + 1 + i = k + (i + 1) by omega] at this
theorem confIn_walk {F : Fence} {m : Nat} {P : Program} {ops : Array Oper} {Q : Exit → Act → World → Prop} {a0 : Act} {w0 : World} {n : Nat} {Φ : List Fact} {A : (Nat → Value) → Act} (hok : confOk ops n = true)
    (hA : ∀ v, putAll v 0 (ops.toList.take n) a0 = A v) (ho : OblsIn F m P ops Q A w0 Φ 0 (ops.toList.take n))
    (hend : ∀ v w, Below w0.heap.size w0 w → (∀ j, j < n → (Φ.getD j Fact.any).p (v j) w) → wpListIn F m P ops Q (ops.toList.drop n) (A v) w) :
    ∀ (f : Nat) (listed : Array Bool) (v : Nat → Value) (w : World), HeadInv .any ops n listed → unl listed n = f → Below w0.heap.size w0 w → (∀ j, j < n → listed.getD j false = true → (Φ.getD j Fact.any).p (v j) w) →
      wpAnyIn F m P .any ops Q (f + (ops.size - n)) listed (A v) w := by
  simp only [confOk, Bool.and_eq_true, decide_eq_true_eq] at hok
  obtain ⟨⟨⟨⟨⟨hd, hbk⟩, hn⟩, hs⟩, hc⟩, hq⟩ := hok
  intro f
  induction f with
  | zero =>
    intro listed v w inv hu hB hF
    have hall := unl_zero hu
    have hl : listed = headListed n (ops.size - n) := by
      apply Array.ext
      · simp only [headListed, List.size_toArray, List.length_append, List.length_replicate]
        rw [inv.size]
        omega
      · intro i h1 h2
        have e1 : listed[i] = listed.getD i true := by simp [h1]
        by_cases hin : i < n
        · rw [e1, hall i hin]
          simp only [headListed, List.getElem_toArray]
          rw [List.getElem_append_left (by simpa using hin)]
          simp
        · rw [e1, inv.tail i (by omega) (by rw [← inv.size]; exact h1)]
          simp only [headListed, List.getElem_toArray]
          rw [List.getElem_append_right (by simpa using Nat.le_of_not_lt hin)]
          simp
    rw [Nat.zero_add]
    have hlen : (ops.toList.drop n).length = ops.size - n := by simp
    rw [← hlen]
    refine wpAnyIn_of_seq (ops.toList.drop n) n listed (A v) w (fun j => by simp) (by rw [hlen, hl]; exact hq) (hend v w hB fun j hj => hF j hj ?_)
    have h1 := hall j hj
    have hjs : j < listed.size := by rw [inv.size]; omega
    simp [hjs] at h1 ⊢
    exact h1
  | succ f ih =>
    intro listed v w inv hu hB hF
    obtain ⟨i0, hi0, hun0, hbef⟩ := unl_pos (listed := listed) (k := n) (by omega)
    have hnt := tail_waits hs hc hn inv _ i0 rfl hi0 hun0
    rw [show f + 1 + (ops.size - n) = (f + (ops.size - n)) + 1 by omega]
    refine ⟨fun h => ?_, fun i hi => ?_⟩
    · exfalso
      have hlt : i0 < ops.size := by omega
      have hr : i0 ∈ Region.ready .any ops listed := mem_ready.2 ⟨hun0, ops[i0], by simp, fun e he hb => by
        have hlt2 := edgesBack_spec hbk (i := i0) (o := ops[i0]) (by simp) e he hb
        have h1 := hbef e.on (by omega)
        have hes : e.on < listed.size := by rw [inv.size]; omega
        simp [hes] at h1 ⊢
        exact h1⟩
      rw [h] at hr
      cases hr
    · have hin : i < n := by
        rcases Nat.lt_or_ge i n with h | h
        · exact h
        · exact absurd hi (hnt i h)
      obtain ⟨hui, o, hoi, hdep⟩ := mem_ready.1 hi
      have hoi' : (ops.toList.take n)[i]? = some o := by simp [hin, hoi]
      have ob := ho.at hoi'
      rw [Nat.zero_add] at ob
      refine wpOpIn_of_list hoi (ob v w _ hB ?_ ?_)
      · have hdeps : ∀ l : List Edge, (∀ e ∈ l, e ∈ o.after) → Deps Φ v w l := by
          intro l
          induction l with
          | nil => intro _; exact trivial
          | cons e r ihl =>
            intro hl
            refine ⟨fun hb => hF e.on ?_ (hdep e (hl e (by simp)) hb), ihl fun x hx => hl x (by simp [hx])⟩
            have := edgesBack_spec hbk (i := i) (o := o) (by simpa using hoi) e (hl e (by simp)) hb
            omega
        exact hdeps _ fun e he => by simpa using he
      · intro u w' hBw hR
        rw [← hA v, putAll_upd (k := 0) hd hoi', hA, Nat.zero_add]
        have hsz : w0.heap.size ≤ w.heap.size := hB.size
        refine ih (listed.setIfInBounds i true) (upd v i u) w' (inv.set hi hin) ?_ (hB.trans (hBw.mono hsz)) ?_
        · have := (unl_set hui (k := n)).1 hin
          omega
        · intro j hj hl
          by_cases hji : j = i
          · subst hji
            rw [show upd v j u j = u by simp [upd]]
            exact hR
          · rw [show upd v i u j = v j by simp [upd, hji]]
            rw [getD_set_ne false (Ne.symm hji)] at hl
            exact (Φ.getD j Fact.any).st _ _ _ (hF j hj hl) hBw
theorem wpIn_region_conf {F : Fence} {m : Nat} {P : Program} {ops : Array Oper} {Q : Exit → Act → World → Prop} {a0 : Act} {w0 : World} {id : Nat} (n : Nat) (Φ : List Fact) (A : (Nat → Value) → Act) (hm : P.follows .mixedOrders = true) (hok : confOk ops n = true)
    (hA : ∀ v, putAll v 0 (ops.toList.take n) a0 = A v) (ho : OblsIn F m P ops Q A w0 Φ 0 (ops.toList.take n))
    (hend : ∀ v w, Below w0.heap.size w0 w → (∀ j, j < n → (Φ.getD j Fact.any).p (v j) w) → wpListIn F m P ops Q (ops.toList.drop n) (A v) w) : (Code.region id ops true).wpIn F m P Q a0 w0 := by
  have hok' := hok
  simp only [confOk, Bool.and_eq_true, decide_eq_true_eq] at hok'
  obtain ⟨⟨⟨⟨⟨hd, _⟩, hn⟩, _⟩, _⟩, _⟩ := hok'
  obtain ⟨v, hv⟩ := putAll_self (k := 0) (a := a0) hd
  have inv0 : HeadInv .any ops n (Array.replicate ops.size false) :=
    ⟨by simp, fun j oj _ hl => (by rw [getD_replicate_false] at hl; cases hl), fun t _ ht => getD_in (by simpa using ht) (getD_replicate_false _ _)⟩
  have hu : ∀ k, k ≤ n → unl (Array.replicate ops.size false) k = k := by
    intro k
    induction k with
    | zero => intro _; rfl
    | succ k ih =>
      intro hk
      simp only [unl]
      rw [ih (by omega), getD_in (by simp; omega) (getD_replicate_false _ _)]
      simp
  have h := confIn_walk (w0 := w0) hok hA ho hend n _ v w0.drew inv0 (hu n (Nat.le_refl _)) (Below.refl _ _).drew (fun j hj hl => by rw [getD_replicate_false] at hl; cases hl)
  rw [← hA v, hv, show n + (ops.size - n) = ops.size by omega] at h
  exact wpIn_region_any hm h
theorem wpListIn_guard_yes {F : Fence} {m : Nat} {P : Program} {ops : Array Oper} {rest : List Oper} {Q : Exit → Act → World → Prop} {dst : Option Tmp} {op : Op} {type : TypeId} {pos : String} {after : Array Edge} {g : Nat} {b : Bool} {a : Act} {w : World}
    (hy : yielded ops a.tmps g = some b) (h : wpListIn F m P ops Q (⟨dst, op, type, pos, after, none⟩ :: rest) a w) : wpListIn F m P ops Q (⟨dst, op, type, pos, after, some (g, b)⟩ :: rest) a w := by
  have hw : Region.wanted (⟨dst, op, type, pos, after, some (g, b)⟩ : Oper) (yielded ops a.tmps) = true := by simp [Region.wanted, hy]
  have hn : Region.wanted (⟨dst, op, type, pos, after, none⟩ : Oper) (yielded ops a.tmps) = true := rfl
  simp only [wpListIn, hn, if_true] at h
  simp only [wpListIn, hw, if_true]
  exact h
/-- an operation that reads, where nothing of the world is asked for but that it yields -/
theorem wpListIn_yields {F : Fence} {m : Nat} {P : Program} {ops : Array Oper} {rest : List Oper} {o : Oper} {a : Act} {w : World} {Q : Exit → Act → World → Prop} (hgd : Region.wanted o (yielded ops a.tmps) = true) (v : Value) (hab : o.about P w a.eval = none)
    (hr : (o.semAt F.round a.eval).run P w = .ok (.value v) w) (h : wpListIn F m P ops Q rest (a.put o.dst v) w) : wpListIn F m P ops Q (o :: rest) a w := by
  unfold wpListIn
  rw [if_pos hgd]
  refine ⟨fun f hf => (by rw [hab] at hf; cases hf), ?_⟩
  rw [hr]
  exact h
def OblIn2 (F : Fence) (m : Nat) (P : Program) (ops : Array Oper) (Q : Exit → Act → World → Prop) (A : (Nat → Value) → Act) (w0 : World) (Φ : List Fact) (i : Nat) (o : Oper) : Prop :=
  ∀ (v : Nat → Value) (w : World) (K : Act → World → Prop), Below w0.heap.size w0 w → Deps Φ v w o.after.toList →
    Hid (∀ u w', Below w.heap.size w w' → (Φ.getD i Fact.any).p u w' → K ((A v).put o.dst u) w') → wpListIn F m P ops (Exit.then K Q) [o] (A v) w
def OblsIn2 (F : Fence) (m : Nat) (P : Program) (ops : Array Oper) (Q : Exit → Act → World → Prop) (A : (Nat → Value) → Act) (w0 : World) (Φ : List Fact) : Nat → List Oper → Prop
  | _, [] => True
  | i, o :: r => OblIn2 F m P ops Q A w0 Φ i o ∧ OblsIn2 F m P ops Q A w0 Φ (i + 1) r
theorem oblsIn_of2 {F : Fence} {m : Nat} {P : Program} {ops : Array Oper} {Q : Exit → Act → World → Prop} {A : (Nat → Value) → Act} {w0 : World} {Φ : List Fact} : ∀ {i : Nat} {l : List Oper}, OblsIn2 F m P ops Q A w0 Φ i l → OblsIn F m P ops Q A w0 Φ i l
  | _, [], _ => trivial
  | _, _ :: _, h => ⟨fun v w K hB hd hK => h.1 v w K hB hd (Lib.hid hK), oblsIn_of2 h.2⟩
theorem wpIn_region_conf2 {F : Fence} {m : Nat} {P : Program} {ops : Array Oper} {Q : Exit → Act → World → Prop} {a0 : Act} {w0 : World} {id : Nat} (n : Nat) (Φ : List Fact) (A : (Nat → Value) → Act) (hm : P.follows .mixedOrders = true) (hok : confOk ops n = true)
    (hA : ∀ v, putAll v 0 (ops.toList.take n) a0 = A v) (ho : OblsIn2 F m P ops Q A w0 Φ 0 (ops.toList.take n))
    (hend : ∀ v w, Below w0.heap.size w0 w → (∀ j, j < n → (Φ.getD j Fact.any).p (v j) w) → wpListIn F m P ops Q (ops.toList.drop n) (A v) w) : (Code.region id ops true).wpIn F m P Q a0 w0 :=
  wpIn_region_conf n Φ A hm hok hA (oblsIn_of2 ho) hend
theorem wpListIn_row_on {F : Fence} {m : Nat} {P : Program} {ops : Array Oper} {rest : List Oper} {o : Oper} {a : Act} {w : World} {Q : Exit → Act → World → Prop} (hgd : Region.wanted o (yielded ops a.tmps) = true) (ty : TypeId) (x : Operand) (ho : o.op = .load ty x)
    (g : Nat) (hx : a.eval x = .pointer (some ⟨g, 0, none⟩)) (t : TypeId) (cs : Array Value) (fr : Nat × Nat) (d : TypeDesc) (hg : w.heap[g]? = some (.cells cs t fr))
    (hu : P.underlying ty = some d) (hd : (match d with | .struct _ | .array _ _ => true | _ => false) = true) (hi : (P.info? ty).map (·.size) = some cs.size)
    (h : wpListIn F m P ops Q rest (a.put o.dst (.agg cs)) w) : wpListIn F m P ops Q (o :: rest) a w := by
  refine wpListIn_yields hgd (.agg cs) ?_ ?_ h
  · unfold Oper.about
    rw [ho]
  · have hl := run_loadVar_row w g t ty cs fr d hg hu hd hi
    cases hr : F.round <;> simp [Oper.semAt, ho, execOp, hx, Instr.loadAt, Instr.sureAddr, Result.andThen_ok, hl]
end Go.Rv
namespace Go.Rv
open Go.RowKit
set_option linter.unusedVariables false
theorem wpListIn_skips {F : Fence} {m : Nat} {P : Program} {ops : Array Oper} {rest : List Oper} {o : Oper} {a : Act} {w w' : World} {Q : Exit → Act → World → Prop} (hgd : Region.wanted o (yielded ops a.tmps) = true) (hab : o.about P w a.eval = none)
    (hr : (o.semAt F.round a.eval).run P w = .ok .skip w') (h : wpListIn F m P ops Q rest (a.put o.dst undef) w') : wpListIn F m P ops Q (o :: rest) a w := by
  unfold wpListIn
  rw [if_pos hgd]
  refine ⟨fun f hf => (by rw [hab] at hf; cases hf), ?_⟩
  rw [hr]
  exact h
theorem wpListIn_store_row {F : Fence} {m : Nat} {P : Program} {ops : Array Oper} {rest : List Oper} {o : Oper} {a : Act} {w : World} {Q : Exit → Act → World → Prop} (hgd : Region.wanted o (yielded ops a.tmps) = true) (ty : TypeId) (x y : Operand) (ho : o.op = .store ty x y)
    (g : Nat) (cells : Array Value) (hx : a.eval x = .pointer (some ⟨g, 0, none⟩)) (hy : a.eval y = .agg cells)
    (t : TypeId) (old : Array Value) (hg : w.heap[g]? = some (.cells old t (0, 0))) (hi : (P.info? ty).map (·.size) = some cells.size)
    (hold : old.size = cells.size) (h1 : cells.all (·.oneCell') = true)
    (h : wpListIn F m P ops Q rest (a.put o.dst undef) (w.setRow g cells)) : wpListIn F m P ops Q (o :: rest) a w := by
  refine wpListIn_skips hgd ?_ ?_ h
  · unfold Oper.about
    rw [ho]
  · have hl := run_storeVar_row w g t ty old cells hg hi hold h1
    cases hr : F.round <;> simp [Oper.semAt, ho, execOp, hx, hy, Instr.storeAt, Instr.sureAddr, Result.andThen_ok, hl]
theorem wpListIn_neq_on {F : Fence} {m : Nat} {P : Program} {ops : Array Oper} {rest : List Oper} {o : Oper} {a : Act} {w : World} {Q : Exit → Act → World → Prop} (hgd : Region.wanted o (yielded ops a.tmps) = true) (ty ty2 : TypeId) (x y : Operand) (ho : o.op = .binOp .neq ty x y ty2)
    (xs ys : Array Value) (hx : a.eval x = .agg xs) (hy : a.eval y = .agg ys) (hm : P.eqGuardType P.depth ty = false) (r : Bool) (hr : ∀ w, (Op.equalIn 10000 ty (.agg xs) (.agg ys)).run P w = .ok r w)
    (h : wpListIn F m P ops Q rest (a.put o.dst (.bool (!r))) w) : wpListIn F m P ops Q (o :: rest) a w := by
  refine wpListIn_yields hgd (.bool (!r)) ?_ ?_ h
  · unfold Oper.about
    rw [ho]
  · have h1 := run_eqGuard_agg (P := P) w .neq ty x y xs ys hm
    have h2 := run_neq_struct (P := P) w ty xs ys
    rw [hr w] at h2
    cases hro : F.round <;> simp only [Oper.semAt, execOp, ho, hx, hy, Sem.run_bind, Sem.run_pure, h1, h2, Result.andThen_ok]
end Go.Rv
namespace Go.Proofs.Ytoiephmngdecaaa
open Go.RowKit Go.Rv Go.Shelf
set_option linter.unusedVariables false
attribute [local go_sem] Oper.semAt_some
theorem BmIs.rows {w : World} {p le ll ce cl : Nat} {g : Geo.G} {es : List BE} {lv : List Int} (h : BmIs w p le ll ce cl g es lv) : RowOf w 6 BEC (fun _ => True) (some ⟨le, 0, none⟩) es := by
  by_cases h0 : es = []
  · exact .inl h0
  · refine .inr ⟨le, 0, rfl, h.lt.2.1, fun k x hk => ⟨fun j hj => ?_, trivial⟩⟩
    obtain ⟨a0, a1, a2, a3, a4, a5⟩ := h.ent hk
    rw [Nat.zero_add]
    match j, hj with
    | 0, _ => exact a0
    | 1, _ => exact a1
    | 2, _ => exact a2
    | 3, _ => exact a3
    | 4, _ => exact a4
    | 5, _ => exact a5
theorem _root_.Go.Rv.RowOf.ent6 {w : World} {Q : BE → Prop} {a : Option Addr} {xs : List BE} (h : RowOf w 6 BEC Q a xs) {k : Nat} {x : BE} (hk : xs[k]? = some x) : ∃ b o, a = some ⟨b, o, none⟩ ∧ b < w.heap.size ∧ Q x ∧
    w.cell? ⟨b, o + k * 6, none⟩ = some (.int .i64 x.st) ∧ w.cell? ⟨b, o + k * 6 + 1, none⟩ = some (.int .i64 x.z) ∧ w.cell? ⟨b, o + k * 6 + 2, none⟩ = some (.int .i64 x.m) ∧ w.cell? ⟨b, o + k * 6 + 3, none⟩ = some (.int .i64 x.o) ∧ w.cell? ⟨b, o + k * 6 + 4, none⟩ = some (.int .i64 x.q) ∧ w.cell? ⟨b, o + k * 6 + 5, none⟩ = some (.int .i64 x.s) := by
  obtain ⟨b, o, rfl, hb, hc, hq⟩ := h.at hk
  exact ⟨b, o, rfl, hb, hq, hc 0 (by omega), hc 1 (by omega), hc 2 (by omega), hc 3 (by omega), hc 4 (by omega), hc 5 (by omega)⟩
def ieV (x : BE × Nat) : Array Value := #[.int .i64 (x.2 : Nat), .agg (BEC x.1)]
set_option maxRecDepth 100000 in
set_option maxHeartbeats 4000000 in
theorem eall1_stops (n : Nat) (hn : 1 ≤ n) (B rb : Nat) (a : Option Addr) (cp : Nat) (es : List BE) (w : World) (hB : w.cell? ⟨B, 0, none⟩ = some (.slice a es.length cp)) (hR : RowOf w 6 BEC (fun _ => True) a es) (hrb : ∀ x, a = some x → x.block = rb) (hrl : rb < w.heap.size) (hl : es.length ≤ 100000) :
    SeqT Fence.wide n Try.prog 57 #[.pointer (some ⟨B, 0, none⟩)] ieV [rb] [] (fun ys => ys = es.zipIdx) (fun pre => pre <+: es.zipIdx) es.length w := by
  intro r T J Jx W hW hr0 hrW hT hJ hJx hY h0
  have hBW : W.cell? ⟨B, 0, none⟩ = some (.slice a es.length cp) := (hW.cell (p := ⟨B, 0, none⟩) (block_lt_of_cell hB)).trans hB
  have HR := Lib.hid (hR.below hW)
  have hz := (zero_of_info Try.infoEnt).1
  have HIE := Lib.hid (fun e => esize e)
  have HON := Lib.hid (fun e => BEC_one e)
  have HSZ : Hid (∀ e : BE, (BEC BE.zero).size = (BEC e).size) := Lib.hid (fun e => by rw [BEC_size, BEC_size])
  have hzW := hW.size
  clear hR hB hW
  refine callsIn_of_wp Try.func57 rfl trivial ?_ rfl
  simp only [Try.ntmps57, List.size_toArray, List.length_cons, List.length_nil, Nat.reduceAdd, Nat.reduceSub, Array.replicate_succ, Array.replicate_zero, List.push_toArray, List.append_toArray, List.nil_append, List.cons_append]
  gi_wp2
  gi_loopw [7] (fun i wr => ∃ k : Nat, k ≤ es.length ∧ i = .int .i64 k ∧ J (es.take k).zipIdx wr ∧ RowOf wr 6 BEC (fun _ => True) a es ∧ W.heap.size ≤ wr.heap.size) (fun i _ => es.length - (intOf i).toNat)
  case atStart => exact ⟨0, Nat.zero_le _, rfl, h0, HR.out, Nat.le_refl _⟩
  case round =>
    obtain ⟨k, hk, rfl, hJk, hrow, hzr⟩ := hrel
    by_cases hlt : k < es.length
    · obtain ⟨x, hx⟩ : ∃ x, es[k]? = some x := ⟨_, List.getElem?_eq_getElem hlt⟩
      obtain ⟨b, o, rfl, hbl, -, d0, d1, d2, d3, d4, d5⟩ := hrow.ent6 hx
      have HBB : Hid (b = rb) := Lib.hid (hrb _ rfl)
      have HS := Lib.hid (zip_take es hx)
      have HP : Hid ((es.take k).zipIdx ++ [(x, k)] <+: es.zipIdx) := Lib.hid (by rw [← HS.out]; exact zip_full es _)
      obtain ⟨WA, hWA⟩ : ∃ WA, wr.alloc (.cells (BEC x) 54) = WA := ⟨_, rfl⟩
      have hba : Below wr.heap.size wr WA := by rw [← hWA]; exact (Below.refl wr.heap.size wr).alloc (Nat.le_refl _) _
      have hop : WA.heap[wr.heap.size]? = some (.cells (BEC x) 54 (0, 0)) := by rw [← hWA]; exact heap_alloc_new wr _
      have hJA := hJ _ _ _ hJk ((Turn.of_below hba : Turn W.heap.size [] wr WA))
      have HRA := Lib.hid (hrow.below hba)
      have zA := hba.size
      obtain ⟨fn, tmps, assign, body, hy', hRd⟩ := hY (es.take k).zipIdx (x, k) WA hJA (by rw [zip_len _ hk]; exact hlt) HP.out
      have hy : (Instr.yield r #[.int .i64 (k : Nat), .agg (BEC x)]).run Try.prog WA = .ok (.round r fn tmps assign body) WA := hy'
      have HWA := Lib.hid hWA
      have HOP := Lib.hid hop
      have HRD := Lib.hid hRd
      clear hx hy' hJk hrow hba hop hJA hWA hRd
      gi_wp2_with (first | (refine wpListIn_store_row (by rfl) 54 _ _ rfl wr.heap.size (BEC x) rfl rfl 54 (BEC BE.zero) (heap_alloc_new wr _) (HIE.out _) (HSZ.out _) (HON.out _) ?_; rw [World.setRow_alloc_new, HWA.out]; clear d0 d1 d2 d3 d4 d5) | (refine wpListIn_row_on (by rfl) 54 _ rfl wr.heap.size rfl 54 _ _ _ HOP.out Try.underlying54 rfl (HIE.out _) ?_))
      refine HRD.out.mono ?_
      rintro e W3 ⟨hO3, (⟨rfl, hJ3⟩ | ⟨rfl, hJx3⟩)⟩
      · have HRW : Hid (RowOf W3 6 BEC (fun _ => True) (some ⟨b, o, none⟩) es) := Lib.hid (HRA.out.only hO3 (by
          intro y hy2 hm
          cases hy2
          rcases List.mem_cons.1 hm with e | hm
          · have := HBB.out; simp only at e; omega
          · have := (hT _ hm).2
            simp only [List.mem_singleton] at this
            exact this HBB.out))
        have z3 := hO3.size
        clear hy
        gi_wp2
        go_roundw
        case rel => exact ⟨k + 1, by omega, by go_num, by rw [HS.out]; exact hJ3, HRW.out, by omega⟩
        case measure => simp [intOf]; omega
      · clear hy
        gi_wp2
        refine bodyPost_ret (results_none rfl _ _ _) rfl ?_
        exact ⟨⟨_, rfl⟩, .inr ⟨_, HP.out, hJx3⟩⟩
    · obtain rfl : k = es.length := by omega
      rw [List.take_length] at hJk
      gi_wp2
      go_end0
      exact ⟨⟨_, rfl⟩, .inl ⟨_, rfl, hJk⟩⟩
end Go.Proofs.Ytoiephmngdecaaa
namespace Go.Rv
open Go.RowKit
/-- a fact with the blocks that it names -/
def Fact.of (Q : Value → World → Prop) (h : ∀ u w w', Q u w → Below w.heap.size w w' → Q u w') : Fact := ⟨Q, h⟩
end Go.Rv
namespace Go.Proofs.Ytoiephmngdecaaa
open Go.RowKit Go.Rv
set_option linter.unusedVariables false
def NewRow (B : Nat) (t : TypeId) (C : Array Value) (n : Nat) (u : Value) (w : World) : Prop := ∃ b, u = .slice (some ⟨b, 0, none⟩) n n ∧ B ≤ b ∧ w.heap[b]? = some (.cells C t (0, 0))
theorem NewRow.st (B : Nat) (t : TypeId) (C : Array Value) (n : Nat) (u : Value) (w w' : World) (h : NewRow B t C n u w) (hB : Below w.heap.size w w') : NewRow B t C n u w' := by
  obtain ⟨b, e, hge, hb⟩ := h
  exact ⟨b, e, hge, (hB.block b (Array.getElem?_eq_some_iff.1 hb).1).trans hb⟩
def NewMap (B : Nat) (g : Geo.G) (E L : Array Value) (n m : Nat) (u : Value) (w : World) : Prop := ∃ b c, u = .agg (mapC g b n n c m m) ∧ (B ≤ b ∧ B ≤ c) ∧ w.heap[b]? = some (.cells E 54 (0, 0)) ∧ w.heap[c]? = some (.cells L 3 (0, 0))
theorem NewMap.st (B : Nat) (g : Geo.G) (E L : Array Value) (n m : Nat) (u : Value) (w w' : World) (h : NewMap B g E L n m u w) (hB : Below w.heap.size w w') : NewMap B g E L n m u w' := by
  obtain ⟨b, c, e, hge, hb, hc⟩ := h
  exact ⟨b, c, e, hge, (hB.block b (Array.getElem?_eq_some_iff.1 hb).1).trans hb, (hB.block c (Array.getElem?_eq_some_iff.1 hc).1).trans hc⟩
def NewPtr (B : Nat) (g : Geo.G) (E L : Array Value) (n m : Nat) (u : Value) (w : World) : Prop := ∃ p b c, u = .pointer (some ⟨p, 0, none⟩) ∧ (B ≤ p ∧ B ≤ b ∧ B ≤ c) ∧ w.heap[p]? = some (.cells (mapC g b n n c m m) 117 (0, 0)) ∧ w.heap[b]? = some (.cells E 54 (0, 0)) ∧ w.heap[c]? = some (.cells L 3 (0, 0))
theorem NewPtr.st (B : Nat) (g : Geo.G) (E L : Array Value) (n m : Nat) (u : Value) (w w' : World) (h : NewPtr B g E L n m u w) (hB : Below w.heap.size w w') : NewPtr B g E L n m u w' := by
  obtain ⟨p, b, c, e, hge, hp, hb, hc⟩ := h
  exact ⟨p, b, c, e, hge, (hB.block p (Array.getElem?_eq_some_iff.1 hp).1).trans hp, (hB.block b (Array.getElem?_eq_some_iff.1 hb).1).trans hb, (hB.block c (Array.getElem?_eq_some_iff.1 hc).1).trans hc⟩
theorem newRules : (∀ B t C n u w, (Fact.of (NewRow B t C n) (NewRow.st B t C n)).p u w = NewRow B t C n u w) ∧ (∀ B g E L n m u w, (Fact.of (NewMap B g E L n m) (NewMap.st B g E L n m)).p u w = NewMap B g E L n m u w) ∧ (∀ B g E L n m u w, (Fact.of (NewPtr B g E L n m) (NewPtr.st B g E L n m)).p u w = NewPtr B g E L n m u w) :=
  ⟨fun _ _ _ _ _ _ => rfl, fun _ _ _ _ _ _ _ _ => rfl, fun _ _ _ _ _ _ _ _ => rfl⟩
theorem bec_zero_at : ∀ j, j < 6 → (BEC BE.zero)[j]! = .int .i64 0
  | 0, _ => rfl
  | 1, _ => rfl
  | 2, _ => rfl
  | 3, _ => rfl
  | 4, _ => rfl
  | 5, _ => rfl
  | n + 6, h => by omega
theorem flat_zero (n : Nat) : flatE (List.replicate n BE.zero) = List.replicate (n * 6) (.int .i64 0) := by
  induction n with
  | zero => rfl
  | succ n ih =>
    rw [List.replicate_succ]
    show (BEC BE.zero).toList ++ flatE (List.replicate n BE.zero) = _
    rw [ih, show (n + 1) * 6 = 6 + n * 6 by omega, ← List.replicate_append_replicate]
    rfl
theorem made_ents (n : Nat) : (madeCells (BEC BE.zero) (n * 6)).toList = flatE (List.replicate n BE.zero) := by
  rw [flat_zero, List.eq_replicate_iff]
  refine ⟨by simp [madeCells], fun v hv => ?_⟩
  simp only [madeCells, Array.toList_map, List.mem_map] at hv
  obtain ⟨x, -, rfl⟩ := hv
  exact bec_zero_at _ (Nat.mod_lt _ (by simp [BEC]))
theorem made_ints (n : Nat) : (madeCells #[.int .i64 0] n).toList = List.replicate n (.int .i64 0) := by
  rw [List.eq_replicate_iff]
  refine ⟨by simp [madeCells], fun v hv => ?_⟩
  simp only [madeCells, Array.toList_map, List.mem_map] at hv
  obtain ⟨x, -, rfl⟩ := hv
  simp [Nat.mod_one]
theorem live_zero (n b : Nat) : liveL n (List.replicate b BE.zero) = List.replicate n 0 := by
  apply List.ext_getElem?
  intro i
  by_cases h : i < n
  · rw [liveL_at h]
    have : liveN (List.replicate b BE.zero) i = 0 := by
      unfold liveN
      rw [List.filter_eq_nil_iff.2]
      · rfl
      · intro x hx
        rw [(List.mem_replicate.1 hx).2]
        simp [hits, BE.zero]
    rw [this]
    simp [h]
  · rw [List.getElem?_eq_none (by rw [liveL_length]; omega), List.getElem?_eq_none (by simp; omega)]
theorem mk_ents (n : Nat) (hn : n ≤ 1000) (w : World) : (Instr.makeSlice 115 (.int .i64 (n : Nat)) (.int .i64 (n : Nat))).run Try.prog w = .ok (.slice (some ⟨w.heap.size, 0, none⟩) n n) (w.alloc (.cells (madeCells (BEC BE.zero) (n * 6)) 54)) := by
  have hinfo : (Try.prog.info? 54).map (fun i => (i.zero, i.size, i.bytes)) = some (some (.agg (BEC BE.zero)), 6, 48) := by kernel_rfl
  obtain ⟨i, hi, hz, hs, hb⟩ := info_parts hinfo
  have := run_make (P := Try.prog) w 115 54 i (.agg (BEC BE.zero)) Try.underlying115 hi hz .i64 .i64 (n : Nat) (n : Nat) (by omega) (by omega) (by rw [hb]; omega) (by omega)
  rw [hs] at this
  simpa [Value.cells] using this
theorem mk_live (n : Nat) (hn : n ≤ 1000) (w : World) : (Instr.makeSlice 33 (.int .i64 (n : Nat)) (.int .i64 (n : Nat))).run Try.prog w = .ok (.slice (some ⟨w.heap.size, 0, none⟩) n n) (w.alloc (.cells (madeCells #[.int .i64 0] n) 3)) := by
  have hinfo : (Try.prog.info? 3).map (fun i => (i.zero, i.size, i.bytes)) = some (some (.int .i64 0), 1, 8) := by kernel_rfl
  exact run_make_row' 33 3 (.int .i64 0) 8 Try.underlying33 hinfo rfl .i64 .i64 n (by omega) (by omega) w
set_option maxRecDepth 100000 in
set_option maxHeartbeats 2000000 in
theorem bnew_no (g : Geo.G) (hr : Geo.right g = false) (w : World) :
    Calls Try.prog 22 #[.agg (GC g)] w fun x w' => x = .returned (.tuple #[.pointer none, .int .i64 20]) ∧ Below w.heap.size w w' := by
  have HR := Lib.hid (fun W => by have := gright_any g W; rwa [hr] at this)
  have HI := Lib.hid (gsize (g := g))
  have hal := (Below.refl w.heap.size w).alloc (Nat.le_refl _) (.cells (GC g) 23)
  have hnew := heap_alloc_new w (.cells (GC g) 23)
  clear hr
  generalize GC g = C at *
  go_enter Try.func22, Try.ntmps22
  go_wp2_with (refine wpList_row_on (by rfl) 23 _ rfl w.heap.size rfl 23 _ _ _ hnew Try.underlying23 rfl HI.out ?_)
  refine (HR.out _).mono ?_
  rintro e w1 ⟨rfl, hB1⟩
  have hB2 := hal.trans (hB1.mono hal.size)
  go_wp2
  go_ret2
  exact ⟨rfl, hB2⟩
set_option maxRecDepth 100000 in
set_option maxHeartbeats 800000 in
theorem bnew_core (g : Geo.G) (n m : Nat) (hn : n ≤ 1000) (hm : m ≤ 1000) (hbn : g.b = n) (hr : Geo.right g = true) (HAL : ∀ W, Calls Try.prog 46 #[.agg (GC g)] W fun e w' => e = .returned (.int .i64 (m : Nat)) ∧ Below W.heap.size W w') (w : World) :
    Calls Try.prog 22 #[.agg (GC g)] w fun x w' => ∃ p, x = .returned (.tuple #[p, .int .i64 0]) ∧ NewPtr w.heap.size g (madeCells (BEC BE.zero) (n * 6)) (madeCells #[.int .i64 0] m) n m p w' ∧ Below w.heap.size w w' := by
  have HR := Lib.hid (fun W => by have := gright_any g W; rwa [hr] at this)
  have HI := Lib.hid (gsize (g := g))
  have HAL := Lib.hid HAL
  have M1 := Lib.hid (fun W => mk_ents n hn W)
  have M2 := Lib.hid (fun W => mk_live m hm W)
  have hal := (Below.refl w.heap.size w).alloc (Nat.le_refl _) (.cells (GC g) 23)
  have hnew := heap_alloc_new w (.cells (GC g) 23)
  have HCS := Lib.hid (fun (W : World) (b : Nat) (hh : W.heap[b]? = some (.cells (GC g) 23 (0, 0))) => by have := (geo_cells hh).2.2.2.1; rwa [hbn] at this)
  have HMC := Lib.hid (fun b c => (rfl : mapC g b n n c m m = mapC g b n n c m m))
  clear hr hbn
  obtain ⟨W0, hW0⟩ : ∃ W0, w.alloc (.cells (GC g) 23) = W0 := ⟨_, rfl⟩
  rw [hW0] at hal hnew
  have HW0 := Lib.hid hW0
  have z0 := (Array.getElem?_eq_some_iff.1 hnew).1
  clear hW0
  generalize hE : madeCells (BEC BE.zero) (n * 6) = E at *
  generalize hL : madeCells #[.int .i64 0] m = L at *
  clear hE hL
  go_enter Try.func22, Try.ntmps22
  go_upto_region 1 with (fail)
  rw [HW0.out]
  go_wp2_with (refine wpList_row_on (by rfl) 23 _ rfl w.heap.size rfl 23 _ _ _ hnew Try.underlying23 rfl HI.out ?_)
  refine (HR.out _).mono ?_
  rintro e w1 ⟨rfl, hB1⟩
  have hB2 := hal.trans (hB1.mono hal.size)
  have hg1 := (hB1.block w.heap.size z0).trans hnew
  have HG1 := Lib.hid hg1
  have z1 := hB1.size
  clear hal hnew hg1 hB1
  go_wp2
  refine wp_region_conf2 9 [Fact.eq ?rax0, Fact.eq ?rax1, Fact.eq ?rax2, Fact.of (NewRow w.heap.size 54 E n) (NewRow.st w.heap.size 54 E n), Fact.eq ?rax4, Fact.eq ?rax5, Fact.of (NewRow w.heap.size 3 L m) (NewRow.st w.heap.size 3 L m), Fact.of (NewMap w.heap.size g E L n m) (NewMap.st w.heap.size g E L n m), Fact.of (NewPtr w.heap.size g E L n m) (NewPtr.st w.heap.size g E L n m)] ?raA (by kernel_rfl) (by kernel_rfl) ?rahA ?raho ?rahend
  case rahA =>
    intro vv
    simp only [putRules, Nat.reduceAdd]
    rfl
  case raho =>
    refine ⟨?_, ?_, ?_, ?_, ?_, ?_, ?_, ?_, ?_, trivial⟩
    · intro vv W K hB hd HK
      simp only [confRules] at HK
      clear hd
      have hT := (hB.block w.heap.size (by omega)).trans HG1.out
      go_wp2_with (refine wpList_row_on (by rfl) 23 _ rfl w.heap.size rfl 23 _ _ _ hT Try.underlying23 rfl HI.out ?_)
      refine HK.out _ _ (Below.refl _ _) ?_
      rfl
    · intro vv W K hB hd HK
      simp only [confRules] at HK
      clear hd
      go_wp2
      refine HK.out _ _ (Below.refl _ _) ?_
      rfl
    · intro vv W K hB hd HK
      simp only [confRules] at hd HK
      have h1 := hd
      clear hd
      simp only [h1] at HK ⊢
      clear h1
      have hT := (hB.block w.heap.size (by omega)).trans HG1.out
      have k3 := HCS.out _ _ hT
      go_wp2
      refine HK.out _ _ (Below.refl _ _) ?_
      rfl
    · intro vv W K hB hd HK
      simp only [confRules, newRules] at hd HK
      obtain ⟨h2, _⟩ := hd
      simp only [h2] at HK ⊢
      clear h2
      have hmk := M1.out
      go_wp2
      refine HK.out _ _ ((Below.refl _ _).alloc (Nat.le_refl _) _) ?_
      exact ⟨_, rfl, (by have := hB.size; omega), heap_alloc_new _ _⟩
    · intro vv W K hB hd HK
      simp only [confRules] at HK
      clear hd
      have hT := (hB.block w.heap.size (by omega)).trans HG1.out
      go_wp2_with (refine wpList_row_on (by rfl) 23 _ rfl w.heap.size rfl 23 _ _ _ hT Try.underlying23 rfl HI.out ?_)
      refine HK.out _ _ (Below.refl _ _) ?_
      rfl
    · intro vv W K hB hd HK
      simp only [confRules] at hd HK
      have h4 := hd
      clear hd
      simp only [h4] at HK ⊢
      clear h4
      go_wp2_with (refine (HAL.out _).mono ?_; rintro e w9 ⟨rfl, hB9⟩)
      refine HK.out _ _ hB9 ?_
      rfl
    · intro vv W K hB hd HK
      simp only [confRules, newRules] at hd HK
      obtain ⟨h5, _⟩ := hd
      simp only [h5] at HK ⊢
      clear h5
      have hmk := M2.out
      go_wp2
      refine HK.out _ _ ((Below.refl _ _).alloc (Nat.le_refl _) _) ?_
      exact ⟨_, rfl, (by have := hB.size; omega), heap_alloc_new _ _⟩
    · intro vv W K hB hd HK
      simp only [confRules, newRules] at hd HK
      obtain ⟨h0, ⟨g3, h3, a3, b3⟩, ⟨g6, h6, a6, b6⟩⟩ := hd
      simp only [h0, h3, h6] at HK ⊢
      clear h0 h3 h6
      unfold GC
      go_wp2
      refine HK.out _ _ (Below.refl _ _) ?_
      exact ⟨_, _, rfl, ⟨a3, a6⟩, b3, b6⟩
    · intro vv W K hB hd HK
      simp only [confRules, newRules] at hd HK
      obtain ⟨q1, q2, h7, ⟨a7, a8⟩, p1, p2⟩ := hd
      simp only [h7] at HK ⊢
      clear h7
      go_wp2
      refine HK.out _ _ ((Below.refl _ _).alloc (Nat.le_refl _) _) ?_
      have hbb := (Below.refl W.heap.size W).alloc (Nat.le_refl _) (.cells (mapC g q1 n n q2 m m) 117)
      exact ⟨_, _, _, rfl, ⟨(by have := hB.size; omega), a7, a8⟩, heap_alloc_new _ _, (hbb.block _ (Array.getElem?_eq_some_iff.1 p1).1).trans p1, (hbb.block _ (Array.getElem?_eq_some_iff.1 p2).1).trans p2⟩
  case rahend =>
    intro vv W hB hf
    have hp := hf 8 (by decide)
    simp only [endRules, newRules] at hp
    simp only [dropRules]
    clear hf
    go_wp2
    go_ret2
    exact ⟨_, rfl, hp, hB2.trans (hB.mono hB2.size)⟩
theorem bnew_any (g : Geo.G) (hr : Geo.right g = true) (w : World) :
    Calls Try.prog 22 #[.agg (GC g)] w fun x w' => ∃ p le ll, x = .returned (.tuple #[.pointer (some ⟨p, 0, none⟩), .int .i64 0]) ∧ BmIs w' p le ll g.b.toNat (nz g) g (List.replicate g.b.toNat BE.zero) (liveL (nz g) (List.replicate g.b.toNat BE.zero)) ∧ w.heap.size ≤ p ∧ w.heap.size ≤ le ∧ w.heap.size ≤ ll ∧ Below w.heap.size w w' := by
  have hs := ((Geo.right_iff g).1 hr).1
  obtain ⟨hb1, hb2⟩ := hs.2.2.2.1
  obtain ⟨hd1, hd2⟩ := Geo.dz_bd hs
  have hnz : ((nz g : Nat) : Int) = g.d * g.z := by unfold nz; omega
  refine (bnew_core g g.b.toNat (nz g) (by omega) (by omega) (by omega) hr (fun W => by rw [hnz]; exact gall_any g W hs) w).mono ?_
  rintro x w' ⟨v, rfl, ⟨p, b, c, rfl, ⟨h1, h2, h3⟩, hp, hb, hc⟩, hB⟩
  refine ⟨p, b, c, rfl, ⟨?_, ⟨_, hb, ?_⟩, ⟨_, hc, ?_⟩, ?_, ?_⟩, h1, h2, h3, hB⟩
  · rw [List.length_replicate, liveL_length]
    exact hp
  · rw [List.length_replicate, made_ents, List.take_of_length_le (by rw [flatE_length, List.length_replicate]; omega)]
  · rw [live_zero, List.length_replicate, made_ints, List.take_of_length_le (by simp), List.map_replicate]
  · rw [List.length_replicate]
    exact ⟨Nat.le_refl _, by omega⟩
  · rw [liveL_length]
    exact ⟨Nat.le_refl _, by omega⟩
theorem mapOk_new (g : Geo.G) (hr : Geo.right g = true) : MapOk g (List.replicate g.b.toNat BE.zero) := by
  have hs := ((Geo.right_iff g).1 hr).1
  obtain ⟨hb1, hb2⟩ := hs.2.2.2.1
  refine ⟨by rw [List.length_replicate]; omega, fun e he => ?_⟩
  rw [(List.mem_replicate.1 he).2]
  exact ⟨zero_right g, rfl, rfl, rfl, rfl, rfl, rfl⟩
end Go.Proofs.Ytoiephmngdecaaa
namespace Go.Rv
open Go.RowKit
theorem OwnM.empty {α : Type} {w : World} {e : TypeId} {n : Nat} {X : α → Array Value} {Q : α → Prop} {base g : Nat} (hg : w.heap[g]? = some (.cells #[] e (0, 0))) (hb : base ≤ g) : OwnM w e n X Q base (.slice (some ⟨g, 0, none⟩) 0 0) [] :=
  ⟨⟨by simp [flatM], .inr ⟨g, 0, #[], rfl, hb, hg, Nat.le_refl _, by decide, by simp, by simp [flatM]⟩⟩, by simp⟩
end Go.Rv
namespace Go.Proofs.Ytoiephmngdecaaa
open Go.RowKit Go.Rv
set_option linter.unusedVariables false
theorem kinE : Kin 6 BEC (fun _ => True) := ⟨fun e _ => BEC_size e, fun e _ => BEC_one e⟩
/-- an int, as cells -/
def iC (x : Int) : Array Value := #[.int .i64 x]
theorem kinI : Kin 1 iC (fun _ => True) := ⟨fun e _ => rfl, fun e _ => by simp [iC, Value.oneCell']⟩
theorem flat_iC (l : List Int) : flatM iC l = l.map (Value.int .i64) := by
  induction l with
  | nil => rfl
  | cons x l ih => simp only [flatM, List.flatMap_cons, List.map_cons, iC] at ih ⊢; rw [ih]; rfl
theorem flat_BEC (l : List BE) : flatM BEC l = flatE l := rfl
set_option maxRecDepth 100000 in
set_option maxHeartbeats 2000000 in
theorem eclone_any (w : World) (ad : Addr) (es : List BE) (cp : Nat) (hR : RowOf w 6 BEC (fun _ => True) (some ad) es) (hl : es.length ≤ 100000) :
    Calls Try.prog 52 #[.slice (some ad) es.length cp] w fun e w' => ∃ v, e = .returned v ∧ OwnM w' 54 6 BEC (fun _ => True) w.heap.size v es ∧ Below w.heap.size w w' := by
  have HR := Lib.hid (hR.below ((Below.refl _ w).alloc (Nat.le_refl _) (.cells #[] 54)))
  have hnil := fun W => Lib.run_eql_slice_nil (P := Try.prog) W 115 54 (some ad) es.length cp 0 0 Try.underlying115
  have hinfo : (Try.prog.info? 54).map (fun i => (i.zero, i.size, i.bytes)) = some (some (.agg (BEC BE.zero)), 6, 48) := by kernel_rfl
  have HI := Lib.hid hinfo
  have hown : OwnM (w.alloc (.cells #[] 54)) 54 6 BEC (fun _ => True) w.heap.size (.slice (some ⟨w.heap.size, 0, none⟩) 0 0) [] := OwnM.empty (heap_alloc_new _ _) (Nat.le_refl _)
  have HOG := Lib.hid (fun w' (hg : (w.alloc (.cells #[] 54)).grownBy w' (some w.heap.size)) => ((Below.refl w.heap.size w).alloc (Nat.le_refl _) _).trans (hown.grown hg (by simp)))
  have HOWN := Lib.hid hown
  clear hR hinfo hown
  go_enter Try.func52, Try.ntmps52
  go_wp2_with (at_builtin; refine wpList_appendM rfl (.tmp 5) (.tmp 6) 115 rfl 54 6 BEC (fun _ => True) kinE (by decide) (.agg (BEC BE.zero)) 48 Try.underlying115 HI.out rfl w.heap.size _ [] rfl HOWN.out (some ad) cp es rfl HR.out (by simp) (by unfold maxLen; simp; omega) (by simp; omega) (by simp) ?_; intro v' w' hv hg _)
  go_ret
  exact ⟨_, rfl, hv, HOG.out _ hg⟩
set_option maxRecDepth 100000 in
set_option maxHeartbeats 2000000 in
theorem iclone_any (w : World) (ad : Addr) (es : List Int) (cp : Nat) (hR : RowOf w 1 iC (fun _ => True) (some ad) es) (hl : es.length ≤ 100000) :
    Calls Try.prog 53 #[.slice (some ad) es.length cp] w fun e w' => ∃ v, e = .returned v ∧ OwnM w' 3 1 iC (fun _ => True) w.heap.size v es ∧ Below w.heap.size w w' := by
  have HR := Lib.hid (hR.below ((Below.refl _ w).alloc (Nat.le_refl _) (.cells #[] 3)))
  have hnil := fun W => Lib.run_eql_slice_nil (P := Try.prog) W 33 3 (some ad) es.length cp 0 0 Try.underlying33
  have hinfo : (Try.prog.info? 3).map (fun i => (i.zero, i.size, i.bytes)) = some (some (.int .i64 0), 1, 8) := by kernel_rfl
  have HI := Lib.hid hinfo
  have hown : OwnM (w.alloc (.cells #[] 3)) 3 1 iC (fun _ => True) w.heap.size (.slice (some ⟨w.heap.size, 0, none⟩) 0 0) [] := OwnM.empty (heap_alloc_new _ _) (Nat.le_refl _)
  have HOG := Lib.hid (fun w' (hg : (w.alloc (.cells #[] 3)).grownBy w' (some w.heap.size)) => ((Below.refl w.heap.size w).alloc (Nat.le_refl _) _).trans (hown.grown hg (by simp)))
  have HOWN := Lib.hid hown
  clear hR hinfo hown
  go_enter Try.func53, Try.ntmps53
  go_wp2_with (at_builtin; refine wpList_appendM rfl (.tmp 5) (.tmp 6) 33 rfl 3 1 iC (fun _ => True) kinI (by decide) (.int .i64 0) 8 Try.underlying33 HI.out rfl w.heap.size _ [] rfl HOWN.out (some ad) cp es rfl HR.out (by simp) (by unfold maxLen; simp; omega) (by simp; omega) (by simp) ?_; intro v' w' hv hg _)
  go_ret
  exact ⟨_, rfl, hv, HOG.out _ hg⟩
/-- a row that is a copy -/
def CRow (B : Nat) (t : TypeId) (L : List Value) (n b c : Nat) (w : World) : Prop := B ≤ b ∧ n ≤ c ∧ c ≤ 9223372036854775807 ∧ ∃ cur : Array Value, w.heap[b]? = some (.cells cur t (0, 0)) ∧ cur.toList.take L.length = L
theorem CRow.below {B : Nat} {t : TypeId} {L : List Value} {n b c : Nat} {w w' : World} (h : CRow B t L n b c w) (hB : Below w.heap.size w w') : CRow B t L n b c w' := by
  obtain ⟨h1, h2, h3, cur, hc, ht⟩ := h
  exact ⟨h1, h2, h3, cur, (hB.block b (Array.getElem?_eq_some_iff.1 hc).1).trans hc, ht⟩
theorem crow_of_own {α : Type} {w : World} {e : TypeId} {n : Nat} {X : α → Array Value} {base : Nat} {v : Value} {xs : List α} (hK : Kin n X (fun _ => True)) (h : OwnM w e n X (fun _ => True) base v xs) (h0 : xs ≠ []) : ∃ b c, v = .slice (some ⟨b, 0, none⟩) xs.length c ∧ CRow base e (flatM X xs) xs.length b c w := by
  rcases h.1.2 with ⟨-, hn⟩ | ⟨g, cap, cur, rfl, hb, hg, hnc, hcm, hcs, htake⟩
  · exact absurd (List.eq_nil_of_length_eq_zero hn) h0
  · exact ⟨g, cap, rfl, hb, hnc, by unfold maxLen at hcm; omega, cur, hg, by rw [flatM_length (n := n) (fun y _ => hK.size y trivial)]; exact htake⟩
def CSl (B : Nat) (t : TypeId) (L : List Value) (n : Nat) (u : Value) (w : World) : Prop := ∃ b c, u = .slice (some ⟨b, 0, none⟩) n c ∧ CRow B t L n b c w
theorem CSl.st (B : Nat) (t : TypeId) (L : List Value) (n : Nat) (u : Value) (w w' : World) (h : CSl B t L n u w) (hB : Below w.heap.size w w') : CSl B t L n u w' := by
  obtain ⟨b, c, e, h1⟩ := h
  exact ⟨b, c, e, h1.below hB⟩
def CMap (B : Nat) (g : Geo.G) (E L : List Value) (n m : Nat) (u : Value) (w : World) : Prop := ∃ b c1 c c2, u = .agg (mapC g b n c1 c m c2) ∧ CRow B 54 E n b c1 w ∧ CRow B 3 L m c c2 w
theorem CMap.st (B : Nat) (g : Geo.G) (E L : List Value) (n m : Nat) (u : Value) (w w' : World) (h : CMap B g E L n m u w) (hB : Below w.heap.size w w') : CMap B g E L n m u w' := by
  obtain ⟨b, c1, c, c2, e, h1, h2⟩ := h
  exact ⟨b, c1, c, c2, e, h1.below hB, h2.below hB⟩
def CPtr (B : Nat) (g : Geo.G) (E L : List Value) (n m : Nat) (u : Value) (w : World) : Prop := ∃ p b c1 c c2, u = .pointer (some ⟨p, 0, none⟩) ∧ B ≤ p ∧ w.heap[p]? = some (.cells (mapC g b n c1 c m c2) 117 (0, 0)) ∧ CRow B 54 E n b c1 w ∧ CRow B 3 L m c c2 w
theorem CPtr.st (B : Nat) (g : Geo.G) (E L : List Value) (n m : Nat) (u : Value) (w w' : World) (h : CPtr B g E L n m u w) (hB : Below w.heap.size w w') : CPtr B g E L n m u w' := by
  obtain ⟨p, b, c1, c, c2, e, h0, hp, h1, h2⟩ := h
  exact ⟨p, b, c1, c, c2, e, h0, (hB.block p (Array.getElem?_eq_some_iff.1 hp).1).trans hp, h1.below hB, h2.below hB⟩
theorem copyRules : (∀ B t L n u w, (Fact.of (CSl B t L n) (CSl.st B t L n)).p u w = CSl B t L n u w) ∧ (∀ B g E L n m u w, (Fact.of (CMap B g E L n m) (CMap.st B g E L n m)).p u w = CMap B g E L n m u w) ∧ (∀ B g E L n m u w, (Fact.of (CPtr B g E L n m) (CPtr.st B g E L n m)).p u w = CPtr B g E L n m u w) :=
  ⟨fun _ _ _ _ _ _ => rfl, fun _ _ _ _ _ _ _ _ => rfl, fun _ _ _ _ _ _ _ _ => rfl⟩
set_option maxRecDepth 100000 in
set_option maxHeartbeats 4000000 in
theorem bcopy_any (w : World) (p le ll ce cl : Nat) (g : Geo.G) (es : List BE) (lv : List Int) (h : BmIs w p le ll ce cl g es lv) (he : es ≠ []) (hlv : lv ≠ []) (hn : es.length ≤ 100000) (hm : lv.length ≤ 100000) :
    Calls Try.prog 28 #[.pointer (some ⟨p, 0, none⟩)] w fun x w' => ∃ p' le' ll' ce' cl', x = .returned (.pointer (some ⟨p', 0, none⟩)) ∧ BmIs w' p' le' ll' ce' cl' g es lv ∧ w.heap.size ≤ p' ∧ w.heap.size ≤ le' ∧ w.heap.size ≤ ll' ∧ Below w.heap.size w w' := by
  have HBM := Lib.hid h
  obtain ⟨N, hN⟩ : ∃ N, es.length = N := ⟨_, rfl⟩
  obtain ⟨M, hM⟩ : ∃ M, lv.length = M := ⟨_, rfl⟩
  obtain ⟨EL, hEL⟩ : ∃ EL, flatE es = EL := ⟨_, rfl⟩
  obtain ⟨LL, hLL⟩ : ∃ LL, lv.map (Value.int .i64) = LL := ⟨_, rfl⟩
  have HE : Hid (∀ W, Below w.heap.size w W → Calls Try.prog 52 #[.slice (some ⟨le, 0, none⟩) N ce] W fun e w' => ∃ v, e = .returned v ∧ CSl w.heap.size 54 EL N v w' ∧ Below W.heap.size W w') := Lib.hid (fun W hB => by
    rw [← hN, ← hEL]
    refine (eclone_any W ⟨le, 0, none⟩ es ce (h.below hB).rows hn).mono ?_
    rintro x w' ⟨v, rfl, hv, hB2⟩
    obtain ⟨b, c, e, hc⟩ := crow_of_own kinE (hv.mono hB.size) he
    exact ⟨v, rfl, ⟨b, c, e, hc⟩, hB2⟩)
  have HL : Hid (∀ W, Below w.heap.size w W → Calls Try.prog 53 #[.slice (some ⟨ll, 0, none⟩) M cl] W fun e w' => ∃ v, e = .returned v ∧ CSl w.heap.size 3 LL M v w' ∧ Below W.heap.size W w') := Lib.hid (fun W hB => by
    rw [← hM, ← hLL]
    have hr : RowOf W 1 iC (fun _ => True) (some ⟨ll, 0, none⟩) lv := .inr ⟨ll, 0, rfl, (h.below hB).lt.2.2, fun k x hk => ⟨fun j hj => by
      obtain rfl : j = 0 := by omega
      rw [Nat.mul_one, Nat.zero_add]
      exact ((h.below hB).live hk).1, trivial⟩⟩
    refine (iclone_any W ⟨ll, 0, none⟩ lv cl hr hm).mono ?_
    rintro x w' ⟨v, rfl, hv, hB2⟩
    obtain ⟨b, c, e, hc⟩ := crow_of_own kinI (hv.mono hB.size) hlv
    rw [flat_iC] at hc
    exact ⟨v, rfl, ⟨b, c, e, hc⟩, hB2⟩)
  have HCL : Hid (∀ W, Below w.heap.size w W → W.cell? ⟨p, 0, none⟩ = some (.int .i64 g.d) ∧ W.cell? ⟨p, 1, none⟩ = some (.int .i64 g.z) ∧ W.cell? ⟨p, 2, none⟩ = some (.int .i64 g.s) ∧ W.cell? ⟨p, 3, none⟩ = some (.int .i64 g.b) ∧ W.cell? ⟨p, 4, none⟩ = some (.int .i64 g.p) ∧ W.cell? ⟨p, 5, none⟩ = some (.int .i64 g.o) ∧ W.cell? ⟨p, 6, none⟩ = some (.slice (some ⟨le, 0, none⟩) N ce) ∧ W.cell? ⟨p, 7, none⟩ = some (.slice (some ⟨ll, 0, none⟩) M cl)) := Lib.hid (fun W hB => by
    obtain ⟨a0, a1, a2, a3, a4, a5⟩ := (h.below hB).geo
    obtain ⟨a6, a7⟩ := (h.below hB).cells
    rw [hN] at a6
    rw [hM] at a7
    exact ⟨a0, a1, a2, a3, a4, a5, a6, a7⟩)
  have HNM := Lib.hid (show es.length = N ∧ lv.length = M ∧ flatE es = EL ∧ lv.map (Value.int .i64) = LL from ⟨hN, hM, hEL, hLL⟩)
  clear h hN hM hEL hLL he hlv hn hm
  go_enter Try.func28, Try.ntmps28
  go_wp2
  refine wp_region_conf2 16 [Fact.eq ?rax0, Fact.eq ?rax1, Fact.eq ?rax2, Fact.eq (.agg (GC g)), Fact.eq ?rax4, Fact.eq ?rax5, Fact.eq ?rax6, Fact.eq ?rax7, Fact.of (CSl w.heap.size 54 EL N) (CSl.st w.heap.size 54 EL N), Fact.eq ?rax9, Fact.eq ?rax10, Fact.eq ?rax11, Fact.eq ?rax12, Fact.of (CSl w.heap.size 3 LL M) (CSl.st w.heap.size 3 LL M), Fact.of (CMap w.heap.size g EL LL N M) (CMap.st w.heap.size g EL LL N M), Fact.of (CPtr w.heap.size g EL LL N M) (CPtr.st w.heap.size g EL LL N M)] ?raA (by kernel_rfl) (by kernel_rfl) ?rahA ?raho ?rahend
  case rahA =>
    intro vv
    simp only [putRules, Nat.reduceAdd]
    rfl
  case raho =>
    refine ⟨?_, ?_, ?_, ?_, ?_, ?_, ?_, ?_, ?_, ?_, ?_, ?_, ?_, ?_, ?_, ?_, trivial⟩
    · intro vv W K hB hd HK
      simp only [confRules] at HK
      clear hd
      go_wp2
      refine HK.out _ _ (Below.refl _ _) ?_
      rfl
    · intro vv W K hB hd HK
      simp only [confRules] at hd HK
      have h0 := hd
      clear hd
      simp only [h0] at HK ⊢
      clear h0
      go_wp2
      refine HK.out _ _ (Below.refl _ _) ?_
      rfl
    · intro vv W K hB hd HK
      simp only [confRules] at hd HK
      have h1 := hd
      clear hd
      simp only [h1] at HK ⊢
      clear h1
      go_wp2
      refine HK.out _ _ (Below.refl _ _) ?_
      rfl
    · intro vv W K hB hd HK
      simp only [confRules] at hd HK
      have h2 := hd
      clear hd
      simp only [h2] at HK ⊢
      clear h2
      have hcl := HCL.out _ hB
      obtain ⟨a0, a1, a2, a3, a4, a5, a6, a7⟩ := hcl
      go_wp2
      refine HK.out _ _ (Below.refl _ _) ?_
      rfl
    · intro vv W K hB hd HK
      simp only [confRules] at HK
      clear hd
      go_wp2
      refine HK.out _ _ (Below.refl _ _) ?_
      rfl
    · intro vv W K hB hd HK
      simp only [confRules] at hd HK
      have h4 := hd
      clear hd
      simp only [h4] at HK ⊢
      clear h4
      go_wp2
      refine HK.out _ _ (Below.refl _ _) ?_
      rfl
    · intro vv W K hB hd HK
      simp only [confRules] at hd HK
      have h5 := hd
      clear hd
      simp only [h5] at HK ⊢
      clear h5
      go_wp2
      refine HK.out _ _ (Below.refl _ _) ?_
      rfl
    · intro vv W K hB hd HK
      simp only [confRules] at hd HK
      have h6 := hd
      clear hd
      simp only [h6] at HK ⊢
      clear h6
      have hcl := HCL.out _ hB
      obtain ⟨a0, a1, a2, a3, a4, a5, a6, a7⟩ := hcl
      go_wp2
      refine HK.out _ _ (Below.refl _ _) ?_
      rfl
    · intro vv W K hB hd HK
      simp only [confRules, copyRules] at hd HK
      have h7 := hd
      clear hd
      simp only [h7] at HK ⊢
      clear h7
      go_wp2_with (refine (HE.out _ hB).mono ?_; rintro e w9 ⟨v, rfl, hv, hB9⟩)
      exact HK.out _ _ hB9 hv
    · intro vv W K hB hd HK
      simp only [confRules] at HK
      clear hd
      go_wp2
      refine HK.out _ _ (Below.refl _ _) ?_
      rfl
    · intro vv W K hB hd HK
      simp only [confRules] at hd HK
      have h9 := hd
      clear hd
      simp only [h9] at HK ⊢
      clear h9
      go_wp2
      refine HK.out _ _ (Below.refl _ _) ?_
      rfl
    · intro vv W K hB hd HK
      simp only [confRules] at hd HK
      have h10 := hd
      clear hd
      simp only [h10] at HK ⊢
      clear h10
      go_wp2
      refine HK.out _ _ (Below.refl _ _) ?_
      rfl
    · intro vv W K hB hd HK
      simp only [confRules] at hd HK
      have h11 := hd
      clear hd
      simp only [h11] at HK ⊢
      clear h11
      have hcl := HCL.out _ hB
      obtain ⟨a0, a1, a2, a3, a4, a5, a6, a7⟩ := hcl
      go_wp2
      refine HK.out _ _ (Below.refl _ _) ?_
      rfl
    · intro vv W K hB hd HK
      simp only [confRules, copyRules] at hd HK
      obtain ⟨h12, ⟨b8, c8, h8, r8⟩⟩ := hd
      simp only [h12, h8] at HK ⊢
      clear h12 h8
      go_wp2_with (refine (HL.out _ hB).mono ?_; rintro e w9 ⟨v, rfl, hv, hB9⟩)
      exact HK.out _ _ hB9 hv
    · intro vv W K hB hd HK
      simp only [confRules, copyRules] at hd HK
      obtain ⟨h3, ⟨b8, c8, h8, r8⟩, ⟨b13, c13, h13, r13⟩⟩ := hd
      simp only [h3, h8, h13] at HK ⊢
      clear h3 h8 h13
      unfold GC
      go_wp2
      refine HK.out _ _ (Below.refl _ _) ?_
      exact ⟨_, _, _, _, rfl, r8, r13⟩
    · intro vv W K hB hd HK
      simp only [confRules, copyRules] at hd HK
      obtain ⟨q1, q2, q3, q4, h14, r1, r2⟩ := hd
      simp only [h14] at HK ⊢
      clear h14
      go_wp2
      refine HK.out _ _ ((Below.refl _ _).alloc (Nat.le_refl _) _) ?_
      have hbb := (Below.refl W.heap.size W).alloc (Nat.le_refl _) (.cells (mapC g q1 N q2 q3 M q4) 117)
      exact ⟨_, _, _, _, _, rfl, hB.size, heap_alloc_new _ _, r1.below hbb, r2.below hbb⟩
  case rahend =>
    intro vv W hB hf
    have hp := hf 15 (by decide)
    simp only [endRules, copyRules] at hp
    obtain ⟨p', b, c1, c, c2, hv, h0, hp, ⟨k1, k2, k3, cur1, k4, k5⟩, ⟨l1, l2, l3, cur2, l4, l5⟩⟩ := hp
    simp only [dropRules, hv]
    clear hf
    obtain ⟨n1, n2, n3, n4⟩ := HNM.out
    have HR : Hid (BmIs W p' b c c1 c2 g es lv) := Lib.hid ⟨by rw [n1, n2]; exact hp, ⟨cur1, k4, by rw [n3, ← k5, ← n3, flatE_length]⟩, ⟨cur2, l4, by rw [n4, ← l5, ← n4, List.length_map]⟩, ⟨by omega, by omega⟩, ⟨by omega, by omega⟩⟩
    clear hp k2 k3 k4 k5 l2 l3 l4 l5 n1 n2 n3 n4 HNM HE HL HCL
    go_wp2
    go_ret
    exact ⟨p', b, c, c1, c2, rfl, HR.out, h0, k1, l1, hB⟩
end Go.Proofs.Ytoiephmngdecaaa
namespace Go.Rv
open Go.RowKit Go.Maps
theorem MapI.only {S : List Nat} {w w' : World} {P : Program} {k : TypeId} {z : Value} {b n : Nat} {V : Int → Value} (h : MapI w P k z b n V) (hO : Only S w w') (hb : b ∉ S) : MapI w' P k z b n V :=
  let ⟨D, ⟨es, clock, h1, h2⟩, h3⟩ := h
  ⟨D, ⟨es, clock, (hO.block b (Array.getElem?_eq_some_iff.1 h1).1 hb).trans h1, h2⟩, h3⟩
end Go.Rv
namespace Go.Proofs.Ytoiephmngdecaaa
open Go.RowKit Go.Rv Rl Frm
set_option linter.unusedVariables false
/-- the records R by their numbers, in the map mb; V k is the slice of those of number k -/
structure ByIs (w : World) (B mb : Nat) (R : List (Int × Rec)) (V : Int → Value) : Prop where
  hm : MapI w Try.prog 3 (.slice none 0 0) mb R.length V
  hB : B ≤ mb ∧ B ≤ w.heap.size
  hv : ∀ i, OwnM w 102 40 recC RecQ B (V i) (atSeq R i)
  hd : ∀ i j b, i ≠ j → (V i).ownBlock = some b → (V j).ownBlock ≠ some b
theorem ByIs.start (w : World) {B : Nat} (hB : B ≤ w.heap.size) : ByIs (w.alloc (.map #[] 0)) B w.heap.size [] (fun _ => .slice none 0 0) :=
  ⟨MapI.made _ _ _ _, ⟨hB, by simp; omega⟩, fun i => OwnM.nil _ _ _ _ _ _, fun i j b _ h => by simp [Value.ownBlock] at h⟩
theorem map_ne_cells {w : World} {b k : Nat} {es clock} {C : Array Value} {t : TypeId} {fr : Nat × Nat} (h : w.heap[b]? = some (.map es clock)) (h' : w.heap[k]? = some (.cells C t fr)) : b ≠ k := by
  rintro rfl
  rw [h] at h'
  cases h'
theorem cells_ty_ne {w : World} {b k : Nat} {C C' : Array Value} {t t' : TypeId} {fr fr' : Nat × Nat} (h : w.heap[b]? = some (.cells C t fr)) (h' : w.heap[k]? = some (.cells C' t' fr')) (hne : t ≠ t') : b ≠ k := by
  rintro rfl
  rw [h] at h'
  cases h'
  exact hne rfl
theorem ByIs.kept {w w' : World} {B mb : Nat} {R : List (Int × Rec)} {V : Int → Value} (h : ByIs w B mb R V) {row : Option Nat} (hg : w.grownBy w' row) (hr : ∀ k, row = some k → ∃ C, w.heap[k]? = some (.cells C 3 (0, 0))) : ByIs w' B mb R V := by
  refine ⟨h.hm.kept hg (fun e => ?_), ⟨h.hB.1, Nat.le_trans h.hB.2 hg.size⟩, fun i => (h.hv i).kept hg ?_, h.hd⟩
  · obtain ⟨C, hC⟩ := hr mb e.symm
    obtain ⟨es, clock, hm⟩ := h.hm.obj
    exact map_ne_cells hm hC rfl
  · cases hb : (V i).ownBlock with
    | none => exact .inl rfl
    | some k =>
      refine .inr (fun e => ?_)
      obtain ⟨C, hC⟩ := hr k e.symm
      obtain ⟨-, C', hC'⟩ := (h.hv i).base_le hb
      exact cells_ty_ne hC hC' (by decide) rfl
theorem ByIs.below {w w' : World} {B mb : Nat} {R : List (Int × Rec)} {V : Int → Value} (h : ByIs w B mb R V) (hb : Below w.heap.size w w') : ByIs w' B mb R V :=
  h.kept (grownBy_of_below hb none) (fun k e => by cases e)
theorem ByIs.at {w : World} {B mb : Nat} {R : List (Int × Rec)} {V : Int → Value} (h : ByIs w B mb R V) (s : Int) : ∃ a cap, V s = .slice a (atSeq R s).length cap ∧ RowOf w 40 recC RecQ a (atSeq R s) ∧ (atSeq R s).length ≤ cap ∧ cap ≤ 9223372036854775807 ∧ (∀ x, a = some x → x.block < w.heap.size) ∧ (atSeq R s ≠ [] → ∃ b, a = some ⟨b, 0, none⟩) := by
  have hs := h.hv s
  obtain ⟨a, cap, he, hr, -, h1, h2, h3⟩ := hs.shape kinRec
  refine ⟨a, cap, he, hr, h1, h2, fun x hx => (h3 x hx).2.1, fun hne => ?_⟩
  rcases hs.1.2 with ⟨hv, hn⟩ | ⟨g, cap', cur, hv, -⟩
  · exact absurd (List.eq_nil_of_length_eq_zero hn) hne
  · rw [he] at hv
    cases hv
    exact ⟨g, rfl⟩
/-- one record more -/
theorem ByIs.put {W4 W w' : World} {B mb : Nat} {R : List (Int × Rec)} {V : Int → Value} (h : ByIs W4 B mb R V) {SB : List Nat} {s : Int} {r : Rec} {u : Value} (hO : Only SB W4 W) (hSB : ∀ x ∈ SB, (V s).ownBlock = some x)
    (hG : OwnM W 102 40 recC RecQ B u (atSeq R s ++ [r])) (hub : u.ownBlock = (V s).ownBlock ∨ ∃ b, u.ownBlock = some b ∧ W4.heap.size ≤ b)
    (hM : MapI w' Try.prog 3 (.slice none 0 0) mb (R.length + 1) (putV V s u)) (hg : W.grownBy w' (some mb)) : ByIs w' B mb (R ++ [(s, r)]) (putV V s u) := by
  obtain ⟨es, clock, hmap⟩ := h.hm.obj
  have hmS : mb ∉ SB := fun hm => by
    obtain ⟨-, C, hC⟩ := (h.hv s).base_le (hSB _ hm)
    exact map_ne_cells hmap hC rfl
  have hmW := hO.get hmap hmS
  refine ⟨by rw [List.length_append]; exact hM, ⟨h.hB.1, Nat.le_trans h.hB.2 (Nat.le_trans hO.size hg.size)⟩, fun i => ?_, fun i j b hij hi hj => ?_⟩
  · rw [atSeq_snoc]
    unfold putV
    by_cases hi : i = s
    · rw [if_pos hi, if_pos hi.symm, hi]
      refine hG.kept hg ?_
      cases hb : u.ownBlock with
      | none => exact .inl rfl
      | some k =>
        refine .inr (fun e => ?_)
        obtain ⟨-, C, hC⟩ := hG.base_le hb
        simp only [Option.some.injEq] at e
        exact map_ne_cells hmW hC e.symm
    · rw [if_neg hi, if_neg (Ne.symm hi)]
      have h1 := (h.hv i).only hO (fun k hk hkm => h.hd i s k hi hk (hSB k hkm))
      refine h1.kept hg ?_
      cases hb : (V i).ownBlock with
      | none => exact .inl rfl
      | some k =>
        refine .inr (fun e => ?_)
        obtain ⟨-, C, hC⟩ := h1.base_le hb
        simp only [Option.some.injEq] at e
        exact map_ne_cells hmW hC e.symm
  · have key : ∀ j b, j ≠ s → u.ownBlock = some b → (V j).ownBlock ≠ some b := fun j b hj hu hv => by
      rcases hub with e | ⟨b', e, hb'⟩
      · rw [e] at hu
        exact h.hd s j b (Ne.symm hj) hu hv
      · rw [e, Option.some.injEq] at hu
        subst hu
        obtain ⟨-, C, hC⟩ := (h.hv j).base_le hv
        have := (Array.getElem?_eq_some_iff.1 hC).1
        omega
    unfold putV at hi hj
    by_cases h1 : i = s
    · rw [if_pos h1] at hi
      rw [if_neg (fun e => hij (h1.trans e.symm))] at hj
      exact key j b (fun e => hij (h1.trans e.symm)) hi hj
    · rw [if_neg h1] at hi
      by_cases h2 : j = s
      · rw [if_pos h2] at hj
        exact key i b h1 hj hi
      · rw [if_neg h2] at hj
        exact h.hd i j b hij hi hj
end Go.Proofs.Ytoiephmngdecaaa
namespace Go.Proofs.Ytoiephmngdecaaa
open Go.RowKit Go.Rv Rl Frm
set_option linter.unusedVariables false
attribute [local go_sem] Oper.semAt_some
theorem Try.infoInt3 : (Try.prog.info? 3).map (fun i => (i.zero, i.size, i.bytes)) = some (some (.int .i64 0), 1, 8) := by kernel_rfl
theorem add_one_int (W : World) (t : TypeId) (z : Int) : RowOf (W.alloc (.cells #[.int .i64 z] t)) 1 iC (fun _ => True) (some ⟨W.heap.size, 0, none⟩) [z] := one_rowOf (fr := (0, 0)) (heap_alloc_new W _) trivial
namespace Rl
theorem singles_snoc : ∀ (l : List Int) (b : Nat) (x : Int), singles (l ++ [x]) b = singles l b ++ (if 0 < x then [((b + l.length : Nat) : Int)] else [])
  | [], b, x => by
    show (if 0 < x then _ else _) = _
    by_cases h : 0 < x
    · simp [h, singles]
    · simp [h, singles]
  | y :: r, b, x => by
    have ih := singles_snoc r (b + 1) x
    rw [List.cons_append]
    unfold singles
    rw [ih, show b + 1 + r.length = b + (y :: r).length by simp; omega]
    split <;> simp
theorem singles_len : ∀ (l : List Int) (b : Nat), (singles l b).length ≤ l.length
  | [], _ => by simp [singles]
  | y :: r, b => by
    have ih := singles_len r (b + 1)
    show (if 0 < y then _ else _ : List Int).length ≤ _
    split
    · simp; omega
    · simp; omega
end Rl
set_option maxRecDepth 100000 in
set_option maxHeartbeats 4000000 in
theorem rsingles_any (w : World) (B q p le ll ce cl sb : Nat) (g : Geo.G) (v : Value) (st : St) (h : RolIs w B q p le ll ce cl sb g v st) (hl : st.single.length ≤ 1000) :
    Calls Try.prog 33 #[.pointer (some ⟨q, 0, none⟩)] w fun e w' => ∃ u, e = .returned u ∧ OwnM w' 3 1 iC (fun _ => True) w.heap.size u (Rl.singles st.single 0) ∧ Below w.heap.size w w' := by
  have HH := Lib.hid h
  obtain ⟨-, -, -, -, c4, -⟩ := h.own
  obtain ⟨n, hn⟩ : ∃ n, st.single.length = n := ⟨_, rfl⟩
  have HN := Lib.hid hn
  rw [hn] at c4 hl
  clear h hn
  go_enter Try.func33, Try.ntmps33
  go_wp2
  clear c4
  go_loopw [3, 11] (fun x u wr => ∃ (k : Nat) (v : Value), k ≤ n ∧ u = .int .i64 k ∧ v = x ∧ OwnM wr 3 1 iC (fun _ => True) w.heap.size v (Rl.singles (st.single.take k) 0) ∧ Below w.heap.size w wr) (fun _ u _ => n - (intOf u).toNat)
  case atStart => exact ⟨0, _, Nat.zero_le _, rfl, rfl, OwnM.nil _ _ _ _ _ _, Below.refl _ _⟩
  case round =>
    obtain ⟨k, v, hk, rfl, rfl, hown, hBr⟩ := hrel
    have zr := hBr.size
    have HBR := Lib.hid hBr
    have HOW := Lib.hid hown
    clear hBr hown
    by_cases hlt : k < n
    · obtain ⟨x, hx⟩ : ∃ x, st.single[k]? = some x := ⟨_, List.getElem?_eq_getElem (by rw [HN.out]; exact hlt)⟩
      have hcell : wr.cell? ⟨sb, k, none⟩ = some (.int .i64 x) := by
        have := ((HH.out.below HBR.out).one (j := k) (by rw [HN.out]; exact hlt)).1
        rw [this, List.getD_eq_getElem?_getD, hx]
        rfl
      have hst : Rl.singles (st.single.take (k + 1)) 0 = Rl.singles (st.single.take k) 0 ++ (if 0 < x then [(k : Int)] else []) := by
        rw [List.take_add_one, hx]
        simp only [Option.toList_some]
        rw [Rl.singles_snoc, List.length_take, HN.out, Nat.min_eq_left hk, Nat.zero_add]
      have HLK : Hid ((Rl.singles (st.single.take k) 0).length ≤ 1000) := Lib.hid (by have := Rl.singles_len (st.single.take k) 0; rw [List.length_take] at this; omega)
      clear hx
      have hcase : (decide (0 < x) = true ∧ Rl.singles (st.single.take (k + 1)) 0 = Rl.singles (st.single.take k) 0 ++ [(k : Int)]) ∨ (decide (0 < x) = false ∧ Rl.singles (st.single.take (k + 1)) 0 = Rl.singles (st.single.take k) 0) := by
        by_cases h0 : 0 < x
        · exact .inl ⟨decide_eq_true h0, by rw [hst, if_pos h0]⟩
        · exact .inr ⟨decide_eq_false h0, by rw [hst, if_neg h0, List.append_nil]⟩
      clear hst
      rcases hcase with ⟨t1, hst⟩ | ⟨t1, hst⟩
      · have HST := Lib.hid hst
        have HB10 := Lib.hid ((Below.refl wr.heap.size wr).alloc (Nat.le_refl _) (.cells #[.int .i64 (k : Int)] 3))
        have HOW10 := Lib.hid (HOW.out.below HB10.out)
        have HR10 := Lib.hid (add_one_int wr 3 (k : Int))
        clear hst
        go_wp2_with (at_builtin; refine wpList_appendM rfl (.tmp 18) (.tmp 20) 33 rfl 3 1 iC (fun _ => True) kinI (by decide) (.int .i64 0) 8 Try.underlying33 Try.infoInt3 rfl w.heap.size _ (Rl.singles (st.single.take k) 0) rfl HOW10.out (some ⟨wr.heap.size, 0, none⟩) 1 [(k : Int)] (by rfl) HR10.out (by simp) (by have := HLK.out; unfold maxLen; simp; omega) (by have := HLK.out; simp; omega) (by simp; omega) ?_; intro v11 w11 hv11 hg11 _; have hB11 := (HBR.out.trans (HB10.out.mono HBR.out.size)).trans (HOW10.out.grown hg11 (by simp; omega)))
        rw [← HST.out] at hv11
        first | exact ⟨⟨k + 1, _, by omega, by go_num, rfl, hv11, hB11⟩, by simp [intOf]; omega⟩ | (go_roundw; exact ⟨k + 1, _, by omega, by go_num, rfl, hv11, hB11⟩; simp [intOf]; omega)
      · have HST := Lib.hid hst
        clear hst
        go_wp2
        first | exact ⟨⟨k + 1, _, by omega, by go_num, rfl, by rw [HST.out]; exact HOW.out, HBR.out⟩, by simp [intOf]; omega⟩ | (go_roundw; exact ⟨k + 1, _, by omega, by go_num, rfl, by rw [HST.out]; exact HOW.out, HBR.out⟩; simp [intOf]; omega)
    · obtain rfl : k = n := by omega
      have hown := HOW.out
      rw [List.take_of_length_le (by rw [HN.out]; exact Nat.le_refl _)] at hown
      have HOF := Lib.hid hown
      clear hown
      go_wp2
      go_ret
      exact ⟨_, rfl, HOF.out, HBR.out⟩
end Go.Proofs.Ytoiephmngdecaaa
namespace Go.Rv
open Go.RowKit
theorem rres_ct {P : Program} {fn : Func} {p q0 : Tmp} {ty : TypeId} (h : fn.results = #[.cell p ty, .tmp q0]) (tmps : Array Value) (w : World) (g : Nat) (t : TypeId) (cs : Array Value) (fr : Nat × Nat) (d : TypeDesc)
    (hp : tmps.getD p undef = .pointer (some ⟨g, 0, none⟩)) (hg : w.heap[g]? = some (.cells cs t fr))
    (hu : P.underlying ty = some d) (hd : (match d with | .struct _ | .array _ _ => true | _ => false) = true) (hi : (P.info? ty).map (·.size) = some cs.size) :
    (results fn tmps).run P w = .ok (.tuple #[.agg cs, tmps.getD q0 undef]) w := by
  have hp' : tmps[p]?.getD undef = .pointer (some ⟨g, 0, none⟩) := by simpa using hp
  simp [results, h, hp', asAddr, run_loadVar_row w g t ty cs fr d hg hu hd hi]
theorem rres_ctt {P : Program} {fn : Func} {p q0 q1 : Tmp} {ty : TypeId} (h : fn.results = #[.cell p ty, .tmp q0, .tmp q1]) (tmps : Array Value) (w : World) (g : Nat) (t : TypeId) (cs : Array Value) (fr : Nat × Nat) (d : TypeDesc)
    (hp : tmps.getD p undef = .pointer (some ⟨g, 0, none⟩)) (hg : w.heap[g]? = some (.cells cs t fr))
    (hu : P.underlying ty = some d) (hd : (match d with | .struct _ | .array _ _ => true | _ => false) = true) (hi : (P.info? ty).map (·.size) = some cs.size) :
    (results fn tmps).run P w = .ok (.tuple #[.agg cs, tmps.getD q0 undef, tmps.getD q1 undef]) w := by
  have hp' : tmps[p]?.getD undef = .pointer (some ⟨g, 0, none⟩) := by simpa using hp
  simp [results, h, hp', asAddr, run_loadVar_row w g t ty cs fr d hg hu hd hi]
theorem rres_cttt {P : Program} {fn : Func} {p q0 q1 q2 : Tmp} {ty : TypeId} (h : fn.results = #[.cell p ty, .tmp q0, .tmp q1, .tmp q2]) (tmps : Array Value) (w : World) (g : Nat) (t : TypeId) (cs : Array Value) (fr : Nat × Nat) (d : TypeDesc)
    (hp : tmps.getD p undef = .pointer (some ⟨g, 0, none⟩)) (hg : w.heap[g]? = some (.cells cs t fr))
    (hu : P.underlying ty = some d) (hd : (match d with | .struct _ | .array _ _ => true | _ => false) = true) (hi : (P.info? ty).map (·.size) = some cs.size) :
    (results fn tmps).run P w = .ok (.tuple #[.agg cs, tmps.getD q0 undef, tmps.getD q1 undef, tmps.getD q2 undef]) w := by
  have hp' : tmps[p]?.getD undef = .pointer (some ⟨g, 0, none⟩) := by simpa using hp
  simp [results, h, hp', asAddr, run_loadVar_row w g t ty cs fr d hg hu hd hi]
theorem rres_tct {P : Program} {fn : Func} {p q0 q1 : Tmp} {ty : TypeId} (h : fn.results = #[.tmp q0, .cell p ty, .tmp q1]) (tmps : Array Value) (w : World) (g : Nat) (t : TypeId) (cs : Array Value) (fr : Nat × Nat) (d : TypeDesc)
    (hp : tmps.getD p undef = .pointer (some ⟨g, 0, none⟩)) (hg : w.heap[g]? = some (.cells cs t fr))
    (hu : P.underlying ty = some d) (hd : (match d with | .struct _ | .array _ _ => true | _ => false) = true) (hi : (P.info? ty).map (·.size) = some cs.size) :
    (results fn tmps).run P w = .ok (.tuple #[tmps.getD q0 undef, .agg cs, tmps.getD q1 undef]) w := by
  have hp' : tmps[p]?.getD undef = .pointer (some ⟨g, 0, none⟩) := by simpa using hp
  simp [results, h, hp', asAddr, run_loadVar_row w g t ty cs fr d hg hu hd hi]
end Go.Rv
namespace Sn
/-- bytes as a body: zeros behind -/
def pad44 (l : List Nat) : List Nat := l ++ List.replicate (44 - l.length) 0
theorem pad44_length {l : List Nat} (h : l.length ≤ 44) : (pad44 l).length = 44 := by simp [pad44]; omega
end Sn
namespace Go.Proofs.Ytoiephmngdecaaa
open Go.RowKit Go.Rv
set_option linter.unusedVariables false
attribute [local go_sem] Oper.semAt_some
theorem Try.infoBodyS : (Try.prog.info? 57).map (fun i => (i.zero, i.size)) = some (some (.agg (byteCells (List.replicate 44 0))), 44) := by kernel_rfl
theorem size_bodyS {l : List Nat} (h : l.length = 44) : (Try.prog.info? 57).map (·.size) = some (byteCells l).size := by rw [size_byteCells, h]; exact (zero_of_info Try.infoBodyS).2
/-- the cells of bytes that stand in a slice -/
theorem src44 {w : World} {b : Option Addr} {m : List Nat} (hb : Bytes w b m) (h0 : 0 < (m.map bv).length) : ∃ ad, b = some ad ∧ ∀ (j : Nat) (v : Value), (m.map bv)[j]? = some v → w.cell? (ad.add j) = some v := by
  simp at h0
  obtain ⟨b1, o1, c1, rfl, _⟩ := hb.at (k := 0) (by omega)
  refine ⟨_, rfl, fun j v hv => ?_⟩
  simp only [List.getElem?_map, Option.map_eq_some_iff] at hv
  obtain ⟨x, hx, rfl⟩ := hv
  have hj : j < m.length := (List.getElem?_eq_some_iff.1 hx).1
  obtain ⟨b2, o2, c2, e, _, hc, _, hl⟩ := hb.at hj
  cases e
  have hadd : (⟨b1, o1, none⟩ : Addr).add j = ⟨b1, o1 + j, none⟩ := by unfold Addr.add; split <;> simp_all
  rw [hadd, hc]
  rw [hl] at hx; cases hx; rfl
end Go.Proofs.Ytoiephmngdecaaa
namespace Sn
open Go.Proofs.Ytoiephmngdecaaa
/-- an entry's bytes -/
def entB (e : BE) : List Nat := Cod.leN 1 e.st.toNat ++ Cod.leN 2 e.z.toNat ++ Cod.leN 2 e.m.toNat ++ Cod.leN 1 e.o.toNat ++ Cod.leN 6 e.q.toNat ++ Cod.leN 4 e.s.toNat
theorem entB_length (e : BE) : (entB e).length = 16 := by simp [entB, Cod.leN_length]
/-- an entry's numbers have room -/
def Room (e : BE) : Prop := (0 ≤ e.st ∧ e.st < 256) ∧ (0 ≤ e.z ∧ e.z < 65536) ∧ (0 ≤ e.m ∧ e.m < 65536) ∧ (0 ≤ e.o ∧ e.o < 256) ∧ (0 ≤ e.q ∧ e.q < 281474976710656) ∧ (0 ≤ e.s ∧ e.s < 4294967296)
end Sn
namespace Go.Proofs.Ytoiephmngdecaaa
open Go.RowKit Go.Rv
set_option linter.unusedVariables false
attribute [local go_sem] Oper.semAt_some
/-- a number goes through a pen, wherever it lies -/
theorem pen_on (g : Nat) (f : Option Nat) (l q : List Nat) (W V : Int) (k : Nat) (w : World) (hP : PenAt w g f l false) (hW : W = k) (h1 : 1 ≤ k) (h7 : k ≤ 7) (h0 : 0 ≤ V) (hn : V < (256 ^ k : Nat)) (hl : l.length ≤ 1000000) (hq : q = l ++ Cod.leN k V.toNat) :
    Calls Try.prog 76 #[.pointer (some ⟨g, 0, none⟩), .int .i64 W, .int .i64 V] w (PenPost w g f q false) := by
  obtain ⟨n, rfl⟩ : ∃ n : Nat, V = n := ⟨V.toNat, by omega⟩
  subst hW hq
  exact pen_num_yes g f l false k n w hP h1 h7 (by exact_mod_cast hn) hl
/-- what a pen's writing leaves as it was -/
theorem PenPost.keep {w0 w w' : World} {g : Nat} {f0 f f' : Option Nat} (hf : f = f0 ∨ ∃ k, f = some k ∧ w0.heap.size ≤ k) (hO : Only (g :: f0.toList) w0 w) (hO' : Only (g :: f.toList) w w') (hf' : f' = f ∨ ∃ k, f' = some k ∧ w.heap.size ≤ k) :
    Only (g :: f0.toList) w0 w' ∧ (f' = f0 ∨ ∃ k, f' = some k ∧ w0.heap.size ≤ k) := by
  have hz := hO.size
  refine ⟨hO.trans' hO' (fun k hk => ?_), fresh_trans hf hf' hz⟩
  rcases List.mem_cons.1 hk with e | hk
  · exact .inl (by simp [e])
  · rcases hf with rfl | ⟨j, rfl, hj⟩
    · exact .inl (by simp at hk; simp [hk])
    · exact .inr (by simp at hk; omega)
end Go.Proofs.Ytoiephmngdecaaa
namespace Sn
open Go.Proofs.Ytoiephmngdecaaa
/-- the first frame's bytes -/
def headB (next : Int) (g : Geo.G) : List Nat := Cod.leN 6 next.toNat ++ Cod.leN 1 g.d.toNat ++ Cod.leN 1 g.z.toNat ++ Cod.leN 1 g.s.toNat ++ Cod.leN 2 g.b.toNat ++ Cod.leN 1 g.p.toNat ++ Cod.leN 1 g.o.toNat
theorem headB_length (next : Int) (g : Geo.G) : (headB next g).length = 13 := by simp [headB, Cod.leN_length]
theorem room_of_right {g : Geo.G} {e : BE} (hs : Geo.Small g) (h : beRight g e = true) : Room e := by
  obtain ⟨⟨d1, d2⟩, ⟨z1, z2⟩, ⟨s1, s2⟩, -⟩ := hs
  unfold beRight at h
  split at h
  · rename_i hst
    have he := of_decide_eq_true h
    rw [he]
    refine ⟨?_, ?_, ?_, ?_, ?_, ?_⟩ <;> simp
    rcases hst with h | h <;> omega
  · split at h
    · rename_i h1
      simp only [beLive, holdsG, Bool.and_eq_true, Geo.inB_iff, decide_eq_true_eq] at h
      obtain ⟨⟨-, ⟨a1, a2⟩, a3, a4⟩, ⟨-, ⟨b1, b2⟩, b3, b4⟩, -, q1, q2, s3, s4⟩ := h
      have hm := Int.mul_le_mul d2 z2 (by omega) (by omega)
      refine ⟨⟨by omega, by omega⟩, ⟨a1, by omega⟩, ⟨b1, by omega⟩, ⟨a3, by omega⟩, ⟨by omega, by omega⟩, s3, by omega⟩
    · cases h
end Sn
namespace Go.Proofs.Ytoiephmngdecaaa
open Go.RowKit Go.Rv
set_option linter.unusedVariables false
attribute [local go_sem] Oper.semAt_some
/-- a snapshot's cells -/
def SnC (gen epoch next : Int) (p : Nat) : Array Value := #[.int .i64 gen, .int .i64 epoch, .int .i64 next, .pointer (some ⟨p, 0, none⟩)]
theorem Try.infoSnap : (Try.prog.info? 29).map (fun i => (i.zero, i.size)) = some (some (.agg #[.int .i64 0, .int .i64 0, .int .i64 0, .pointer none]), 4) := by kernel_rfl
theorem snsize (gen epoch next : Int) (p : Nat) : (Try.prog.info? 29).map (·.size) = some (SnC gen epoch next p).size := (zero_of_info Try.infoSnap).2
theorem sn_cells {w : World} {b : Nat} {gen epoch next : Int} {p : Nat} {t : TypeId} (h : w.heap[b]? = some (.cells (SnC gen epoch next p) t (0, 0))) : w.cell? ⟨b, 0, none⟩ = some (.int .i64 gen) ∧ w.cell? ⟨b, 1, none⟩ = some (.int .i64 epoch) ∧ w.cell? ⟨b, 2, none⟩ = some (.int .i64 next) ∧ w.cell? ⟨b, 3, none⟩ = some (.pointer (some ⟨p, 0, none⟩)) :=
  ⟨(cell_of_row _ _ _ _ _ _ h).trans rfl, (cell_of_row _ _ _ _ _ _ h).trans rfl, (cell_of_row _ _ _ _ _ _ h).trans rfl, (cell_of_row _ _ _ _ _ _ h).trans rfl⟩
/-- a number goes through a pen that lies above all else -/
theorem pen_next (g : Nat) (f : Option Nat) (l q : List Nat) (W V : Int) (k : Nat) (w : World) (hP : PenAt w g f l false) (hf : ∀ j, f = some j → g < j) (hW : W = k) (h1 : 1 ≤ k) (h7 : k ≤ 7) (h0 : 0 ≤ V) (hn : V < (256 ^ k : Nat)) (hl : l.length ≤ 1000000) (hq : q = l ++ Cod.leN k V.toNat) :
    Calls Try.prog 76 #[.pointer (some ⟨g, 0, none⟩), .int .i64 W, .int .i64 V] w (PenNext w g q false) :=
  (pen_on g f l q W V k w hP hW h1 h7 h0 hn hl hq).mono fun e w' h => h.next hf hP.lt
end Go.Proofs.Ytoiephmngdecaaa
namespace Go.Rv
open Go.RowKit
set_option linter.unusedVariables false
/-- the edges' facts, but for those to the operation that makes the block -/
def Deps7 (ia : Nat) (V : List Value) (v : Nat → Value) : List Edge → Prop
  | [] => True
  | e :: r => (Region.binds .any e = true → cond (e.on == ia) True (v e.on = V.getD e.on undef)) ∧ Deps7 ia V v r
def Obl7 (P : Program) (ops : Array Oper) (Q : Exit → Act → World → Prop) (A : (Nat → Value) → Act) (V : List Value) (ms lo : List Nat) (I : Nat → World → Prop) (S : List Nat) (B ia is : Nat) (Z X : Array Value) (t : TypeId) (i : Nat) (o : Oper) : Prop :=
  cond (i == ia) (∀ (v : Nat → Value) (w : World) (K : Act → World → Prop) (s : Nat), I s w → Deps7 ia V v o.after.toList →
      Hid (∀ g w', B ≤ g → Below w.heap.size w w' → w'.heap[g]? = some (.cells Z t (0, 0)) → K ((A v).put o.dst (.pointer (some ⟨g, 0, none⟩))) w') → wpList P ops (Exit.then K Q) [o] (A v) w)
    (cond (i == is) (∀ (v : Nat → Value) (w : World) (K : Act → World → Prop) (s g : Nat), lo.getD i 0 ≤ s → I s w → B ≤ g → w.heap[g]? = some (.cells Z t (0, 0)) → v ia = .pointer (some ⟨g, 0, none⟩) → Deps7 ia V v o.after.toList →
      Hid (∀ u w', w' = w.setRow g X → u = V.getD i undef → K ((A v).put o.dst u) w') → wpList P ops (Exit.then K Q) [o] (A v) w)
    (match ms.idxOf? i with
    | none => ∀ (v : Nat → Value) (w : World) (K : Act → World → Prop) (s : Nat), lo.getD i 0 ≤ s → I s w → Deps7 ia V v o.after.toList →
        Hid (∀ u w', Below w.heap.size w w' → u = V.getD i undef → K ((A v).put o.dst u) w') → wpList P ops (Exit.then K Q) [o] (A v) w
    | some k => ∀ (v : Nat → Value) (w : World) (K : Act → World → Prop), I k w → Deps7 ia V v o.after.toList →
        Hid (∀ u w', I (k + 1) w' → Only S w w' → u = V.getD i undef → K ((A v).put o.dst u) w') → wpList P ops (Exit.then K Q) [o] (A v) w))
def Obls7 (P : Program) (ops : Array Oper) (Q : Exit → Act → World → Prop) (A : (Nat → Value) → Act) (V : List Value) (ms lo : List Nat) (I : Nat → World → Prop) (S : List Nat) (B ia is : Nat) (Z X : Array Value) (t : TypeId) : Nat → List Oper → Prop
  | _, [] => True
  | i, o :: r => Obl7 P ops Q A V ms lo I S B ia is Z X t i o ∧ Obls7 P ops Q A V ms lo I S B ia is Z X t (i + 1) r
theorem Obls7.at {P : Program} {ops : Array Oper} {Q : Exit → Act → World → Prop} {A : (Nat → Value) → Act} {V : List Value} {ms lo : List Nat} {I : Nat → World → Prop} {S : List Nat} {B ia is : Nat} {Z X : Array Value} {t : TypeId} : ∀ {k : Nat} {l : List Oper}, Obls7 P ops Q A V ms lo I S B ia is Z X t k l → ∀ {i : Nat} {o : Oper}, l[i]? = some o → Obl7 P ops Q A V ms lo I S B ia is Z X t (k + i) o
  | _, [], _, _, _, h => by simp at h
  | k, _ :: r, h, 0, _, ho => by simp at ho; subst ho; exact h.1
  | k, _ :: r, h, i + 1, _, ho => by
    have := Obls7.at h.2 (i := i) (by simpa using ho)
    rwa [show k + 1 + i = k + (i + 1) by omega] at this
/-- the storing operation waits for the one that makes the block; neither is a stage -/
def storeOk (ops : Array Oper) (ms : List Nat) (n ia is : Nat) : Bool :=
  decide (ia < n) && decide (is < n) && !(ia == is) && !ms.contains ia && !ms.contains is && (match ops[is]? with | some o => o.after.any fun e => Region.binds .any e && e.on == ia | none => false)
theorem wp_region_stage7 {P : Program} {ops : Array Oper} {Q : Exit → Act → World → Prop} {a0 : Act} {w0 : World} {id : Nat} (n : Nat) (V : List Value) (ms lo : List Nat) (I : Nat → World → Prop) (S : List Nat) (B ia is : Nat) (Z X : Array Value) (t : TypeId) (hSB : ∀ x ∈ S, x < B) (A : (Nat → Value) → Act) (hm : P.follows .mixedOrders = true) (hok : confOk ops n = true) (hms : (chainMs ops ms && incMs n ms && loOk ms lo 0 (ops.toList.take n)) = true) (hso : storeOk ops ms n ia is = true)
    (hA : ∀ v, putAll v 0 (ops.toList.take n) a0 = A v) (h0 : I 0 w0.drew) (hIb : ∀ s w w', I s w → Below w.heap.size w w' → I s w') (hIs : ∀ s w g, I s w → B ≤ g → I s (w.setRow g X)) (ho : Obls7 P ops Q A V ms lo I S B ia is Z X t 0 (ops.toList.take n))
    (hend : ∀ v w g, I ms.length w → (∀ j, j < n → (j == ia) = false → v j = V.getD j undef) → v ia = .pointer (some ⟨g, 0, none⟩) → B ≤ g → w.heap[g]? = some (.cells X t (0, 0)) → wpList P ops Q (ops.toList.drop n) (A v) w) : (Code.region id ops true).wp P Q a0 w0 := by
  rw [Bool.and_eq_true, Bool.and_eq_true] at hms
  obtain ⟨⟨hch, hinc⟩, hlok⟩ := hms
  simp only [storeOk, Bool.and_eq_true, decide_eq_true_eq, Bool.not_eq_true', beq_eq_false_iff_ne] at hso
  obtain ⟨⟨⟨⟨⟨hia, his⟩, hne⟩, hma⟩, hmb⟩, hsd⟩ := hso
  refine wp_region_conf3 n (fun L v w => (∀ j, j < n → j ≠ ia → L.getD j false = true → v j = V.getD j undef) ∧ (∃ s, (∀ k m, ms[k]? = some m → (L.getD m false = true ↔ k < s)) ∧ s ≤ ms.length ∧ (∀ j, j < n → L.getD j false = true → lo.getD j 0 ≤ s) ∧ I s w) ∧ (L.getD is false = true → L.getD ia false = true) ∧ (L.getD ia false = true → ∃ g, v ia = .pointer (some ⟨g, 0, none⟩) ∧ B ≤ g ∧ w.heap[g]? = some (.cells (cond (L.getD is false) X Z) t (0, 0)))) A hm hok hA ?_ ?_ ?_
  · intro i o hin hoi L v w K hui hdep ⟨hv, ⟨s, hs, hsl, hls, hI⟩, hsa, hrow⟩ HK
    have hilt : i < L.size := by
      rcases Nat.lt_or_ge i L.size with h | h
      · exact h
      · simp [Array.getElem?_eq_none h] at hui
    have hif : L.getD i false = false := by simp [hilt] at hui ⊢; exact hui
    have hit : (L.setIfInBounds i true).getD i false = true := by simp [hilt]
    have hbk : edgesBack 0 ops.toList = true := by
      simp only [confOk, Bool.and_eq_true] at hok
      exact hok.1.1.1.1.2
    have hdv : ∀ l : List Edge, (∀ e ∈ l, e ∈ o.after) → Deps7 ia V v l := by
      intro l
      induction l with
      | nil => intro _; exact trivial
      | cons e r ihl =>
        intro hl
        refine ⟨fun hb => ?_, ihl fun x hx => hl x (by simp [hx])⟩
        cases hea : e.on == ia
        · have := edgesBack_spec hbk (i := i) (o := o) (by simpa using hoi) e (hl e (by simp)) hb
          exact hv e.on (by omega) (by simpa using hea) (hdep e (hl e (by simp)) hb)
        · trivial
    have hdv := hdv o.after.toList (fun e he => by simpa using he)
    have ob := ho.at (i := i) (o := o) (by simp [hin, hoi])
    rw [Nat.zero_add] at ob
    have hv' : ∀ u, (i ≠ ia → u = V.getD i undef) → ∀ j, j < n → j ≠ ia → (L.setIfInBounds i true).getD j false = true → upd v i u j = V.getD j undef := fun u hu j hj hja hl => by
      by_cases hji : j = i
      · subst hji
        rw [show upd v j u j = u by simp [upd], hu hja]
      · rw [show upd v i u j = v j by simp [upd, hji]]
        rw [getD_set_ne false (Ne.symm hji)] at hl
        exact hv j hj hja hl
    have hnost : ∀ j, ms.contains j = false → ∀ k : Nat, ms[k]? ≠ some j := fun j hj k hk => by
      have := List.mem_of_getElem? hk
      rw [List.contains_eq_mem] at hj
      simp [this] at hj
    have hst : ms.contains i = false → lo.getD i 0 ≤ s → ∃ s, (∀ k m, ms[k]? = some m → ((L.setIfInBounds i true).getD m false = true ↔ k < s)) ∧ s ≤ ms.length ∧ (∀ j, j < n → (L.setIfInBounds i true).getD j false = true → lo.getD j 0 ≤ s) ∧ I s w := fun hc hlo => ⟨s, fun k m hk => by
      rw [getD_set_ne false (fun e => hnost i hc k (by rw [hk, e]))]
      exact hs k m hk, hsl, fun j hj hl => by
      by_cases hji : j = i
      · rw [hji]; exact hlo
      · rw [getD_set_ne false (Ne.symm hji)] at hl
        exact hls j hj hl, hI⟩
    have hloi : ms.contains i = false → lo.getD i 0 ≤ s := fun hc => by
      have hat := loOk_at hlok (i := i) (o := o) (by simp [hin, hoi])
      rw [Nat.zero_add] at hat
      rcases hat with h | ⟨m, h, _⟩ | ⟨_, e, he, hb, h⟩
      · omega
      · exact absurd (idx_some h) (hnost i hc m)
      · have := edgesBack_spec hbk (i := i) (o := o) (by simpa using hoi) e he hb
        have := hls e.on (by omega) (hdep e he hb)
        omega
    unfold Obl7 at ob
    cases hia' : i == ia
    · rw [hia'] at ob
      have hia2 : i ≠ ia := by simpa using hia'
      cases his' : i == is
      · rw [his'] at ob
        have his2 : i ≠ is := by simpa using his'
        have hrow' : ∀ (w' : World) (u : Value), (∀ g : Nat, B ≤ g → g < w.heap.size → w'.heap[g]? = w.heap[g]?) → ((L.setIfInBounds i true).getD is false = true → (L.setIfInBounds i true).getD ia false = true) ∧ ((L.setIfInBounds i true).getD ia false = true → ∃ g, upd v i u ia = .pointer (some ⟨g, 0, none⟩) ∧ B ≤ g ∧ w'.heap[g]? = some (.cells (cond ((L.setIfInBounds i true).getD is false) X Z) t (0, 0))) := by
          intro w' u hw
          rw [getD_set_ne false his2, getD_set_ne false hia2]
          refine ⟨hsa, fun h => ?_⟩
          obtain ⟨g, h1, h2, h3⟩ := hrow h
          exact ⟨g, by rw [show upd v i u ia = v ia by simp [upd, Ne.symm hia2]]; exact h1, h2, (hw g h2 (Array.getElem?_eq_some_iff.1 h3).1).trans h3⟩
        simp only [cond_false] at ob
        split at ob
        · rename_i hno
          have hc : ms.contains i = false := by
            rw [List.contains_eq_mem]
            simpa using (List.idxOf?_eq_none_iff.1 hno)
          refine ob v w K s (hloi hc) hI hdv (Lib.hid fun u w' hB hu => ?_)
          obtain ⟨s', a1, a2, a3, a4⟩ := hst hc (hloi hc)
          exact HK.out u w' ⟨hv' u (fun _ => hu), ⟨s', a1, a2, a3, hIb s' w w' a4 hB⟩, hrow' w' u (fun g _ hg => hB.block g hg)⟩
        · rename_i k0 hsome
          have hk0 := idx_some hsome
          have hkl : k0 < ms.length := (List.getElem?_eq_some_iff.1 hk0).1
          have hsk : s = k0 := by
            have h1 : ¬ k0 < s := fun h => by
              have := (hs k0 i hk0).2 h
              rw [hif] at this
              cases this
            match k0, hk0, h1 with
            | 0, _, h1 => omega
            | j + 1, hk0, h1 =>
              obtain ⟨a, ha⟩ : ∃ a, ms[j]? = some a := ⟨_, List.getElem?_eq_getElem (by have := (List.getElem?_eq_some_iff.1 hk0).1; omega)⟩
              obtain ⟨o', ho', e, he, hb, hea⟩ := chainMs_at hch ha hk0
              rw [hoi] at ho'
              cases ho'
              have h2 := hdep e he hb
              rw [hea] at h2
              have := (hs j a ha).1 h2
              omega
          subst hsk
          refine ob v w K hI hdv (Lib.hid fun u w' hI' hO hu => HK.out u w' ⟨hv' u (fun _ => hu), ⟨s + 1, fun k m hk => ?_, by omega, fun j hj hl => ?_, hI'⟩, hrow' w' u (fun g hg hgl => hO.block g hgl (fun hm => by have := hSB _ hm; omega))⟩)
          · by_cases e : m = i
            · subst e
              have := incMs_inj hinc hk hk0
              subst this
              rw [hit]
              simp
            · rw [getD_set_ne false (Ne.symm e), hs k m hk]
              have : k ≠ s := fun h => by
                rw [h, hk0] at hk
                cases hk
                exact e rfl
              omega
          · by_cases hji : j = i
            · subst hji
              have hat := loOk_at hlok (i := j) (o := o) (by simp [hin, hoi])
              rw [Nat.zero_add] at hat
              rcases hat with h | ⟨m, h, h'⟩ | ⟨h, _⟩
              · omega
              · rw [hsome] at h; cases h; exact h'
              · rw [hsome] at h; cases h
            · rw [getD_set_ne false (Ne.symm hji)] at hl
              have := hls j hj hl
              omega
      · rw [his'] at ob
        have his2 : i = is := by simpa using his'
        subst his2
        simp only [cond_false, cond_true] at ob
        have hLa : L.getD ia false = true := by
          rw [hoi] at hsd
          obtain ⟨e, he, h3⟩ := Array.any_eq_true.1 hsd
          rw [Bool.and_eq_true, beq_iff_eq] at h3
          have := hdep _ (Array.getElem_mem he) h3.1
          rwa [h3.2] at this
        obtain ⟨g, h1, h2, h3⟩ := hrow hLa
        rw [hif] at h3
        refine ob v w K s g (hloi hmb) hI h2 h3 h1 hdv (Lib.hid fun u w' hw hu => ?_)
        obtain ⟨s', a1, a2, a3, a4⟩ := hst hmb (hloi hmb)
        subst hw
        refine HK.out u _ ⟨hv' u (fun _ => hu), ⟨s', a1, a2, a3, hIs s' w g a4 h2⟩, ?_, ?_⟩
        · intro _
          rw [getD_set_ne false hia2]
          exact hLa
        · intro _
          rw [hit]
          exact ⟨g, by rw [show upd v i u ia = v ia by simp [upd, Ne.symm hia2]]; exact h1, h2, setRow_heap w g Z X t _ h3⟩
    · rw [hia'] at ob
      have hia2 : i = ia := by simpa using hia'
      subst hia2
      simp only [cond_true] at ob
      have hLs : L.getD is false = false := by
        cases h : L.getD is false
        · rfl
        · have := hsa h
          rw [hif] at this
          cases this
      refine ob v w K s hI hdv (Lib.hid fun g w' hg hB hr => ?_)
      obtain ⟨s', a1, a2, a3, a4⟩ := hst hma (hloi hma)
      refine HK.out _ w' ⟨hv' _ (fun h => absurd rfl h), ⟨s', a1, a2, a3, hIb s' w w' a4 hB⟩, ?_, ?_⟩
      · rw [getD_set_ne false hne, hLs]
        intro h
        cases h
      · intro _
        rw [getD_set_ne false hne, hLs]
        exact ⟨g, by simp [upd], hg, hr⟩
  · intro v
    refine ⟨fun j hj _ hl => (by rw [getD_replicate_false] at hl; cases hl), ⟨0, fun k m hk => ?_, Nat.zero_le _, fun j hj hl => (by rw [getD_replicate_false] at hl; cases hl), h0⟩, fun hl => (by rw [getD_replicate_false] at hl; cases hl), fun hl => (by rw [getD_replicate_false] at hl; cases hl)⟩
    rw [getD_replicate_false]
    simp
  · intro v w ⟨hv, ⟨s, hs, hsl, _, hI⟩, hsa, hrow⟩
    have hall : ∀ j, j < n → (headListed n (ops.size - n)).getD j false = true := fun j hj => by
      simp only [headListed]
      rw [Array.getD_eq_getD_getElem?, List.getElem?_toArray, List.getElem?_append_left (by simpa using hj)]
      simp [hj]
    have hsn : s = ms.length := by
      rcases Nat.lt_or_ge s ms.length with h | h
      · have h1 : ms[s]? = some ms[s] := List.getElem?_eq_getElem h
        have h2 := (hs s _ h1).1 (hall _ (incMs_lt hinc h1).1)
        omega
      · omega
    subst hsn
    obtain ⟨g, h1, h2, h3⟩ := hrow (hall ia hia)
    rw [hall is his] at h3
    exact hend v w g hI (fun j hj hja => hv j hj (by simpa using hja) (hall j hj)) h1 h2 h3
theorem cond7 : (∀ n : Nat, (n == n) = true) ∧ (∀ (p q : Prop), (cond true p q) = p) ∧ (∀ (p q : Prop), (cond false p q) = q) ∧ (∀ n : Nat, (n + 1 == 0) = false) ∧ (∀ n : Nat, (0 == n + 1) = false) ∧ (∀ n m : Nat, (n + 1 == m + 1) = (n == m)) ∧
    (∀ n x, Region.binds .any { on := n, ground := .gcOnly x } = false) ∧ (∀ n x, Region.binds .any { on := n, ground := .textOnly x } = false) ∧ (∀ p : Prop, (false = true → p) = True) ∧ (∀ p : Prop, (True ∧ p) = p) ∧ (∀ p : Prop, (p → True) = True) :=
  ⟨fun n => by simp, fun _ _ => rfl, fun _ _ => rfl, fun n => by simp, fun n => by simp, fun n m => by simp, fun _ _ => rfl, fun _ _ => rfl, fun p => by simp, fun p => by simp, fun p => by simp⟩
theorem conf7Rules : (∀ (ia : Nat) (V : List Value) (v : Nat → Value), Deps7 ia V v [] = True) ∧ (∀ (ia : Nat) (V : List Value) (v : Nat → Value) (e : Edge) (r : List Edge), Deps7 ia V v (e :: r) = ((Region.binds .any e = true → cond (e.on == ia) True (v e.on = V.getD e.on undef)) ∧ Deps7 ia V v r)) ∧ (∀ (x : Value) l d, (x :: l).getD 0 d = x) ∧ (∀ (x : Value) l n d, (x :: l).getD (n + 1) d = l.getD n d) :=
  ⟨fun _ _ _ => rfl, fun _ _ _ _ _ => rfl, fun _ _ _ => rfl, fun _ _ _ _ => rfl⟩
end Go.Rv
namespace Go.Rv
open Go.RowKit
set_option linter.unusedVariables false
def fp8 (F : List Fact) (j : Nat) (u : Value) (w : World) : Prop := (F.getD j Fact.any).p u w
def Deps8 (ia : Nat) (F : List Fact) (v : Nat → Value) (w : World) : List Edge → Prop
  | [] => True
  | e :: r => (Region.binds .any e = true → cond (e.on == ia) True (fp8 F e.on (v e.on) w)) ∧ Deps8 ia F v w r
def Obl8 (P : Program) (ops : Array Oper) (Q : Exit → Act → World → Prop) (A : (Nat → Value) → Act) (w0 : World) (F : List Fact) (ia is : Nat) (Z X : Array Value) (t : TypeId) (i : Nat) (o : Oper) : Prop :=
  cond (i == ia) (∀ (v : Nat → Value) (w : World) (K : Act → World → Prop), Below w0.heap.size w0 w → Deps8 ia F v w o.after.toList →
      Hid (∀ g w', w0.heap.size ≤ g → Below w.heap.size w w' → w'.heap[g]? = some (.cells Z t (0, 0)) → K ((A v).put o.dst (.pointer (some ⟨g, 0, none⟩))) w') → wpList P ops (Exit.then K Q) [o] (A v) w)
    (cond (i == is) (∀ (v : Nat → Value) (w : World) (K : Act → World → Prop) (g : Nat), Below w0.heap.size w0 w → w0.heap.size ≤ g → w.heap[g]? = some (.cells Z t (0, 0)) → v ia = .pointer (some ⟨g, 0, none⟩) → Deps8 ia F v w o.after.toList →
      Hid (∀ u w', w' = w.setRow g X → fp8 F i u w' → K ((A v).put o.dst u) w') → wpList P ops (Exit.then K Q) [o] (A v) w)
    (∀ (v : Nat → Value) (w : World) (K : Act → World → Prop), Below w0.heap.size w0 w → Deps8 ia F v w o.after.toList →
        Hid (∀ u w', Below w.heap.size w w' → fp8 F i u w' → K ((A v).put o.dst u) w') → wpList P ops (Exit.then K Q) [o] (A v) w))
def Obls8 (P : Program) (ops : Array Oper) (Q : Exit → Act → World → Prop) (A : (Nat → Value) → Act) (w0 : World) (F : List Fact) (ia is : Nat) (Z X : Array Value) (t : TypeId) : Nat → List Oper → Prop
  | _, [] => True
  | i, o :: r => Obl8 P ops Q A w0 F ia is Z X t i o ∧ Obls8 P ops Q A w0 F ia is Z X t (i + 1) r
theorem Obls8.at {P : Program} {ops : Array Oper} {Q : Exit → Act → World → Prop} {A : (Nat → Value) → Act} {w0 : World} {F : List Fact} {ia is : Nat} {Z X : Array Value} {t : TypeId} : ∀ {k : Nat} {l : List Oper}, Obls8 P ops Q A w0 F ia is Z X t k l → ∀ {i : Nat} {o : Oper}, l[i]? = some o → Obl8 P ops Q A w0 F ia is Z X t (k + i) o
  | _, [], _, _, _, h => by simp at h
  | k, _ :: r, h, 0, _, ho => by simp at ho; subst ho; exact h.1
  | k, _ :: r, h, i + 1, _, ho => by
    have := Obls8.at h.2 (i := i) (by simpa using ho)
    rwa [show k + 1 + i = k + (i + 1) by omega] at this
theorem wp_region_conf8 {P : Program} {ops : Array Oper} {Q : Exit → Act → World → Prop} {a0 : Act} {w0 : World} {id : Nat} (n : Nat) (F : List Fact) (ia is : Nat) (Z X : Array Value) (t : TypeId) (A : (Nat → Value) → Act) (hm : P.follows .mixedOrders = true) (hok : confOk ops n = true) (hso : storeOk ops [] n ia is = true)
    (hA : ∀ v, putAll v 0 (ops.toList.take n) a0 = A v) (hFs : ∀ j u w g, j < n → w0.heap.size ≤ g → w.heap[g]? = some (.cells Z t (0, 0)) → fp8 F j u w → fp8 F j u (w.setRow g X)) (ho : Obls8 P ops Q A w0 F ia is Z X t 0 (ops.toList.take n))
    (hend : ∀ v w g, Below w0.heap.size w0 w → (∀ j, j < n → (j == ia) = false → fp8 F j (v j) w) → v ia = .pointer (some ⟨g, 0, none⟩) → w0.heap.size ≤ g → w.heap[g]? = some (.cells X t (0, 0)) → wpList P ops Q (ops.toList.drop n) (A v) w) : (Code.region id ops true).wp P Q a0 w0 := by
  simp only [storeOk, Bool.and_eq_true, decide_eq_true_eq, Bool.not_eq_true', beq_eq_false_iff_ne] at hso
  obtain ⟨⟨⟨⟨⟨hia, his⟩, hne⟩, -⟩, -⟩, hsd⟩ := hso
  refine wp_region_conf3 n (fun L v w => (∀ j, j < n → j ≠ ia → L.getD j false = true → fp8 F j (v j) w) ∧ Below w0.heap.size w0 w ∧ (L.getD is false = true → L.getD ia false = true) ∧ (L.getD ia false = true → ∃ g, v ia = .pointer (some ⟨g, 0, none⟩) ∧ w0.heap.size ≤ g ∧ w.heap[g]? = some (.cells (cond (L.getD is false) X Z) t (0, 0)))) A hm hok hA ?_ ?_ ?_
  · intro i o hin hoi L v w K hui hdep ⟨hv, hBw, hsa, hrow⟩ HK
    have hilt : i < L.size := by
      rcases Nat.lt_or_ge i L.size with h | h
      · exact h
      · simp [Array.getElem?_eq_none h] at hui
    have hif : L.getD i false = false := by simp [hilt] at hui ⊢; exact hui
    have hit : (L.setIfInBounds i true).getD i false = true := by simp [hilt]
    have hbk : edgesBack 0 ops.toList = true := by
      simp only [confOk, Bool.and_eq_true] at hok
      exact hok.1.1.1.1.2
    have hdv : ∀ l : List Edge, (∀ e ∈ l, e ∈ o.after) → Deps8 ia F v w l := by
      intro l
      induction l with
      | nil => intro _; exact trivial
      | cons e r ihl =>
        intro hl
        refine ⟨fun hb => ?_, ihl fun x hx => hl x (by simp [hx])⟩
        cases hea : e.on == ia
        · have := edgesBack_spec hbk (i := i) (o := o) (by simpa using hoi) e (hl e (by simp)) hb
          exact hv e.on (by omega) (by simpa using hea) (hdep e (hl e (by simp)) hb)
        · trivial
    have hdv := hdv o.after.toList (fun e he => by simpa using he)
    have ob := ho.at (i := i) (o := o) (by simp [hin, hoi])
    rw [Nat.zero_add] at ob
    have hv' : ∀ u w', (∀ j, j < n → fp8 F j (v j) w → fp8 F j (v j) w') → (i ≠ ia → fp8 F i u w') → ∀ j, j < n → j ≠ ia → (L.setIfInBounds i true).getD j false = true → fp8 F j (upd v i u j) w' := fun u w' hkeep hu j hj hja hl => by
      by_cases hji : j = i
      · subst hji
        rw [show upd v j u j = u by simp [upd]]
        exact hu hja
      · rw [show upd v i u j = v j by simp [upd, hji]]
        rw [getD_set_ne false (Ne.symm hji)] at hl
        exact hkeep j hj (hv j hj hja hl)
    have hbel : ∀ w', Below w.heap.size w w' → ∀ j, j < n → fp8 F j (v j) w → fp8 F j (v j) w' := fun w' hB j _ h => (F.getD j Fact.any).st _ _ _ h hB
    unfold Obl8 at ob
    cases hia' : i == ia
    · rw [hia'] at ob
      have hia2 : i ≠ ia := by simpa using hia'
      cases his' : i == is
      · rw [his'] at ob
        have his2 : i ≠ is := by simpa using his'
        simp only [cond_false] at ob
        refine ob v w K hBw hdv (Lib.hid fun u w' hB hu => HK.out u w' ⟨hv' u w' (hbel w' hB) (fun _ => hu), hBw.trans (hB.mono hBw.size), ?_, ?_⟩)
        · rw [getD_set_ne false his2, getD_set_ne false hia2]
          exact hsa
        · rw [getD_set_ne false his2, getD_set_ne false hia2]
          intro h
          obtain ⟨g, h1, h2, h3⟩ := hrow h
          exact ⟨g, by rw [show upd v i u ia = v ia by simp [upd, Ne.symm hia2]]; exact h1, h2, (hB.block g (Array.getElem?_eq_some_iff.1 h3).1).trans h3⟩
      · rw [his'] at ob
        have his2 : i = is := by simpa using his'
        subst his2
        simp only [cond_false, cond_true] at ob
        have hLa : L.getD ia false = true := by
          rw [hoi] at hsd
          obtain ⟨e, he, h3⟩ := Array.any_eq_true.1 hsd
          rw [Bool.and_eq_true, beq_iff_eq] at h3
          have := hdep _ (Array.getElem_mem he) h3.1
          rwa [h3.2] at this
        obtain ⟨g, h1, h2, h3⟩ := hrow hLa
        rw [hif] at h3
        refine ob v w K g hBw h2 h3 h1 hdv (Lib.hid fun u w' hw hu => ?_)
        subst hw
        refine HK.out u _ ⟨hv' u _ (fun j hj h => hFs j _ w g hj h2 h3 h) (fun _ => hu), below_setRow hBw h2 _, ?_, ?_⟩
        · intro _
          rw [getD_set_ne false hia2]
          exact hLa
        · intro _
          rw [hit]
          exact ⟨g, by rw [show upd v i u ia = v ia by simp [upd, Ne.symm hia2]]; exact h1, h2, setRow_heap w g Z X t _ h3⟩
    · rw [hia'] at ob
      have hia2 : i = ia := by simpa using hia'
      subst hia2
      simp only [cond_true] at ob
      have hLs : L.getD is false = false := by
        cases h : L.getD is false
        · rfl
        · have := hsa h
          rw [hif] at this
          cases this
      refine ob v w K hBw hdv (Lib.hid fun g w' hg hB hr => ?_)
      refine HK.out _ w' ⟨hv' _ w' (hbel w' hB) (fun h => absurd rfl h), hBw.trans (hB.mono hBw.size), ?_, ?_⟩
      · rw [getD_set_ne false hne, hLs]
        intro h
        cases h
      · intro _
        rw [getD_set_ne false hne, hLs]
        exact ⟨g, by simp [upd], hg, hr⟩
  · intro v
    exact ⟨fun j hj _ hl => (by rw [getD_replicate_false] at hl; cases hl), (Below.refl _ _).drew, fun hl => (by rw [getD_replicate_false] at hl; cases hl), fun hl => (by rw [getD_replicate_false] at hl; cases hl)⟩
  · intro v w ⟨hv, hBw, hsa, hrow⟩
    have hall : ∀ j, j < n → (headListed n (ops.size - n)).getD j false = true := fun j hj => by
      simp only [headListed]
      rw [Array.getD_eq_getD_getElem?, List.getElem?_toArray, List.getElem?_append_left (by simpa using hj)]
      simp [hj]
    obtain ⟨g, h1, h2, h3⟩ := hrow (hall ia hia)
    rw [hall is his] at h3
    exact hend v w g hBw (fun j hj hja => hv j hj (by simpa using hja) (hall j hj)) h1 h2 h3
theorem conf8Rules : (∀ (ia : Nat) (F : List Fact) (v : Nat → Value) (w : World), Deps8 ia F v w [] = True) ∧ (∀ (ia : Nat) (F : List Fact) (v : Nat → Value) (w : World) (e : Edge) (r : List Edge), Deps8 ia F v w (e :: r) = ((Region.binds .any e = true → cond (e.on == ia) True (fp8 F e.on (v e.on) w)) ∧ Deps8 ia F v w r)) ∧ (∀ (x : Fact) l u w, fp8 (x :: l) 0 u w = x.p u w) ∧ (∀ (x : Fact) l n u w, fp8 (x :: l) (n + 1) u w = fp8 l n u w) ∧ (∀ x u w, (Fact.eq x).p u w = (u = x)) :=
  ⟨fun _ _ _ _ => rfl, fun _ _ _ _ _ _ => rfl, fun _ _ _ _ => rfl, fun _ _ _ _ _ => rfl, fun _ _ _ => rfl⟩
end Go.Rv
namespace Go.Proofs.Ytoiephmngdecaaa
open Go.RowKit Go.Rv Go.Sort Go.Shelf
set_option linter.unusedVariables false
theorem sort_held (blk off cap : Nat) (zs : List Int) (w : World) (hH : Holds (Value.int .i64) w blk off zs.toArray) (hblk : blk < w.heap.size) (hsz : zs.length < 4611686018427387904) :
    Calls Try.prog 50 #[.slice (some ⟨blk, off, none⟩) zs.length cap] w fun e w' => e = .returned (.tuple #[]) ∧ ∃ n os, w' = grow (putRow (Value.int .i64) (Sort.ahead w n) blk off (zs.mergeSort fun x y => decide (x ≤ y)).toArray) os :=
  calls_of_every_depth fun D => AnyS.slices_Sort_int_in Try.lays189 D blk off cap zs w hH hblk hsz
theorem sort_none (p : Option Addr) (cap : Nat) (w : World) : Calls Try.prog 50 #[.slice p 0 cap] w fun e w' => e = .returned (.tuple #[]) ∧ w' = w :=
  Any.slices_Sort_int_none Try.lays189 p cap w
def sortedI (xs : List Int) : List Int := xs.mergeSort fun x y => decide (x ≤ y)
theorem sortedI_length (xs : List Int) : (sortedI xs).length = xs.length := by unfold sortedI; rw [List.length_mergeSort]
theorem sort_own {w : World} {base : Nat} {v : Value} {xs : List Int} (h : OwnM w 3 1 iC (fun _ => True) base v xs) (hl : xs.length ≤ 100000) :
    Calls Try.prog 50 #[v] w fun e w' => e = .returned (.tuple #[]) ∧ OwnM w' 3 1 iC (fun _ => True) base v (sortedI xs) ∧ w.grownBy w' v.ownBlock := by
  obtain ⟨⟨h1, hr⟩, hq⟩ := h
  rcases hr with ⟨rfl, hn⟩ | ⟨g, cap, cur, rfl, hb, hg, hnc, hcm, hcs, htake⟩
  · have h0 : xs = [] := List.eq_nil_of_length_eq_zero hn
    subst h0
    refine (sort_none none 0 w).mono ?_
    rintro e w' ⟨rfl, rfl⟩
    exact ⟨rfl, by rw [show sortedI [] = [] from by simp [sortedI]]; exact OwnM.nil _ _ _ _ _ _, ⟨rfl, rfl, rfl, Nat.le_refl _, fun _ _ _ => rfl⟩⟩
  · rw [flat_iC, Nat.mul_one] at htake
    have hH := holds_of_blockI hg htake
    have hlt := (Array.getElem?_eq_some_iff.1 hg).1
    refine (sort_held g 0 cap xs w hH hlt (by omega)).mono ?_
    rintro e w' ⟨rfl, n, os, rfl⟩
    refine ⟨rfl, ⟨?_, by simp⟩, grownBy_sortedI _⟩
    have hk := ownsRow_sortedI (n := n) (os := os) (ts := sortedI xs) (sortedI_length xs) hb hg hnc hcm hcs
    rw [flat_iC, sortedI_length]
    exact hk
end Go.Proofs.Ytoiephmngdecaaa
namespace Go.Proofs.Ytoiephmngdecaaa
open Go.RowKit Go.Rv Go.Sort Go.Shelf
set_option linter.unusedVariables false
theorem compact_held (blk off cap : Nat) (zs : List Int) (w : World) (hH : Holds (Value.int .i64) w blk off zs.toArray) (hsz : zs.length ≤ 9223372036854775807) (hcap : zs.length ≤ cap) :
    Calls Try.prog 51 #[.slice (some ⟨blk, off, none⟩) zs.length cap] w fun e w' => e = .returned (.slice (some ⟨blk, off, none⟩) (Lib.compact zs).length cap) ∧ ∃ q, w' = putRow (Value.int .i64) (Sort.ahead w q) blk off (Lib.compact zs ++ List.replicate (zs.length - (Lib.compact zs).length) 0).toArray :=
  Any.slices_Compact_int Try.lays20 blk off cap zs w hH hsz hcap
theorem compact_none (p : Option Addr) (cap : Nat) (w : World) : Calls Try.prog 51 #[.slice p 0 cap] w fun e w' => e = .returned (.slice p 0 cap) ∧ w' = w :=
  Any.slices_Compact_int_empty Try.lays20 p cap w
theorem compact_le (zs : List Int) : (Lib.compact zs).length ≤ zs.length := by
  unfold Lib.compact Lib.compactUpTo
  rw [List.length_map]
  exact Nat.le_trans (List.length_filter_le _ _) (by simp)
theorem compact_own {w : World} {base : Nat} {v : Value} {xs : List Int} (h : OwnM w 3 1 iC (fun _ => True) base v xs) (hl : xs.length ≤ 100000) :
    Calls Try.prog 51 #[v] w fun e w' => ∃ u, e = .returned u ∧ OwnM w' 3 1 iC (fun _ => True) base u (Lib.compact xs) ∧ w.grownBy w' v.ownBlock := by
  obtain ⟨⟨h1, hr⟩, hq⟩ := h
  rcases hr with ⟨rfl, hn⟩ | ⟨g, cap, cur, rfl, hb, hg, hnc, hcm, hcs, htake⟩
  · have h0 : xs = [] := List.eq_nil_of_length_eq_zero hn
    subst h0
    refine (compact_none none 0 w).mono ?_
    rintro e w' ⟨rfl, rfl⟩
    exact ⟨_, rfl, by rw [show Lib.compact ([] : List Int) = [] from List.eq_nil_of_length_eq_zero (by have := compact_le []; simpa using this)]; exact OwnM.nil _ _ _ _ _ _, ⟨rfl, rfl, rfl, Nat.le_refl _, fun _ _ _ => rfl⟩⟩
  · rw [flat_iC, Nat.mul_one] at htake
    have hH := holds_of_blockI hg htake
    refine (compact_held g 0 cap xs w hH (by omega) hnc).mono ?_
    rintro e w' ⟨rfl, n, rfl⟩
    have hle := compact_le xs
    obtain ⟨ts, hts⟩ : ∃ ts, Lib.compact xs ++ List.replicate (xs.length - (Lib.compact xs).length) 0 = ts := ⟨_, rfl⟩
    have htl : ts.length = xs.length := by rw [← hts, List.length_append, List.length_replicate]; omega
    rw [hts]
    have hheap : (putRow (Value.int .i64) (Sort.ahead w n) g 0 ts.toArray).heap[g]? = some (.cells (putCells (Value.int .i64) 0 ts.toArray cur) 3 (0, 0)) := by
      simp [putRow, mapBlock, Sort.ahead, Array.getElem?_modify, hg, onCells]
    have htk := take_putCellsI cur ts (by omega)
    have htk2 : (putCells (Value.int .i64) 0 ts.toArray cur).toList.take (Lib.compact xs).length = (Lib.compact xs).map (Value.int .i64) := by
      have h2 := congrArg (List.take (Lib.compact xs).length) htk
      rw [List.take_take, Nat.min_eq_left (by omega)] at h2
      rw [h2, ← hts, List.map_append, List.take_append_of_le_length (by simp)]
      exact List.take_of_length_le (by simp)
    refine ⟨_, rfl, ⟨⟨?_, .inr ⟨g, cap, _, rfl, hb, hheap, by omega, hcm, by simp [putCells, hcs], ?_⟩⟩, by simp⟩, ⟨rfl, rfl, rfl, by simp [putRow, mapBlock, Sort.ahead], fun k hk hne => ?_⟩⟩
    · rw [flat_iC]; simp
    · rw [flat_iC, Nat.mul_one]
      exact htk2
    · have : g ≠ k := fun e => hne (by rw [e]; rfl)
      simp [putRow, mapBlock, Sort.ahead, Array.getElem?_modify, this]
end Go.Proofs.Ytoiephmngdecaaa
namespace Go.Proofs.Ytoiephmngdecaaa
open Go.RowKit Go.Rv Rl Frm
set_option linter.unusedVariables false
attribute [local go_sem] Oper.semAt_some
theorem built_rec (e : En.E) (z o : Int) (h : EBody e) : Try.prog.built 102 [(0, .agg (EC e)), (1, .int .i64 z), (2, .int .i64 o)] = some (recC ⟨e, z, o⟩) := by
  obtain ⟨k, f, c, bl, m, t, l⟩ := e
  obtain ⟨fn, rfl⟩ := list_fn l 32 h.1
  kernel_rfl
theorem filled_rec (r : Rec) (h : RecQ r) (ie : Array Value) (h0 : ie = recC rec0) : Instr.fill (fun i => some (i * 40, 40)) ((Array.range (1 * 40)).map (ie[· % 40]!)) [(0, .agg (recC r))] = some (recC r) := by
  obtain ⟨⟨k, f, c, bl, m, t, l⟩, z, o⟩ := r
  obtain ⟨fn, rfl⟩ := list_fn l 32 h.1
  subst h0
  kernel_rfl
/-- a slice of one record is made -/
theorem wpList_slice1r {w : World} {ops : Array Oper} {rest : List Oper} {o : Oper} {a : Act} {Q : Exit → Act → World → Prop} (hg : o.guard = none) (x : Operand) (ho : o.op = .buildSlice 100 1 #[(0, x)]) (r : Rec) (hq : RecQ r) (X : Array Value) (hX : recC r = X) (hx : a.eval x = .agg X)
    (h : wpList Try.prog ops Q rest (a.put o.dst (.slice (some ⟨w.heap.size, 0, none⟩) 1 1)) (w.alloc (.cells X 102))) : wpList Try.prog ops Q (o :: rest) a w := by
  subst hX
  have hi := Try.infoRec
  cases hie : Try.prog.info? 102 with
  | none => rw [hie] at hi; cases hi
  | some ie =>
    rw [hie, Option.map_some, Option.some.injEq, Prod.mk.injEq] at hi
    obtain ⟨hz, hs⟩ := hi
    refine wpList_buildSlice hg 100 102 1 #[(0, x)] ho (recC r) ie (.agg (recC rec0)) Try.underlying100 hie hz (by rw [hs]; decide) (by rw [hs]; decide) ?_ h
    rw [hs]
    have h1 := filled_rec r hq _ rfl
    simp only [List.map_toArray, List.map_cons, List.map_nil, hx]
    exact h1
theorem Try.infoRecs : (Try.prog.info? 100).map (fun i => (i.zero, i.size)) = some (some (.slice none 0 0), 1) := by kernel_rfl
namespace Rl
theorem recs_take {g : Geo.G} {epoch next : Int} {l : List Fnd} {k : Nat} {f : Fnd} (h : l[k]? = some f) : recs g epoch next (l.take (k + 1)) = recs g epoch next (l.take k) ++ (recF g epoch next f).toList := by
  rw [List.take_add_one, h, recs_append]
  congr 1
end Rl
set_option maxRecDepth 100000 in
set_option maxHeartbeats 32000000 in
theorem rrecords_any (w : World) (p le ll ce cl : Nat) (g : Geo.G) (es : List BE) (lv : List Int) (h : BmIs w p le ll ce cl g es lv) (gen epoch next : Int) (a : Option Addr) (fs : List Fnd) (cap : Nat) (hI : RowOf w 51 fndC FndQ a fs) (hl : fs.length ≤ 1000) :
    Calls Try.prog 27 #[.agg (SnC gen epoch next p), .slice a fs.length cap] w fun e w' => ∃ mb u V, e = .returned (.tuple #[.map (some mb), u]) ∧ OwnM w' 3 1 iC (fun _ => True) w.heap.size u (Lib.compact (sortedI (Rl.zones (recs g epoch next fs)))) ∧ ByIs w' w.heap.size mb (recs g epoch next fs) V ∧ Below w.heap.size w w' := by
  have HGM : Hid (∀ W, Below w.heap.size w W → Calls Try.prog 29 #[.pointer (some ⟨p, 0, none⟩)] W fun x w' => x = .returned (.agg (GC g)) ∧ Below W.heap.size W w') := Lib.hid (fun W hW => bgeom_any W p le ll ce cl g es lv (h.below hW))
  have HRC := Lib.hid (fun (f : Fnd) (W : World) (hq : FndQ f) => rrecord_any g epoch f W hq)
  have HI := Lib.hid hI
  have hzf := (zero_of_info Try.infoFnd).1
  have hze := (zero_of_info Try.infoEntry).1
  have HZL := Lib.hid (zero_of_info Try.infoRecs).1
  have hmk : ∀ W : World, (Instr.makeMap 89 none).run Try.prog W = .ok (.map (some W.heap.size)) (W.alloc (.map #[] 0)) := fun W => rfl
  have HIF := Lib.hid (fun (f : Fnd) (hq : FndQ f) => size_fnd hq)
  have HIL : Hid (∀ f, FndQ f → (Try.prog.info? 70).map (·.size) = some (fndC f).toList.length) := Lib.hid (fun f hq => size_fnd hq)
  have HZF : Hid (∀ f, FndQ f → (fndC fnd0).size = (fndC f).size) := Lib.hid (fun f hq => by rw [kinFnd.size f hq]; rfl)
  have HOF := Lib.hid (fun f hq => kinFnd.one f hq)
  have HIE := Lib.hid (fun (e : En.E) (hq : EBody e) => size_ent hq.1)
  have HZE : Hid (∀ e, EBody e → (EC En.E.zero).size = (EC e).size) := Lib.hid (fun e hq => by rw [EC_size, EC_size, hq.1]; rfl)
  have HOE := Lib.hid (fun (e : En.E) (hq : EBody e) => EC_one e)
  have HSI := Lib.hid (snsize gen epoch next p)
  obtain ⟨RK, hRK⟩ : ∃ RK : Nat → List (Int × Rec), (fun k => recs g epoch next (fs.take k)) = RK := ⟨_, rfl⟩
  have HR0 : Hid (RK 0 = []) := Lib.hid (by rw [← hRK]; rfl)
  have HRN : Hid (RK fs.length = recs g epoch next fs) := Lib.hid (by rw [← hRK]; show recs g epoch next (fs.take fs.length) = _; rw [List.take_length])
  have HRL : Hid (∀ k, (RK k).length ≤ k) := Lib.hid (fun k => by rw [← hRK]; exact Nat.le_trans (recs_length _ _ _ _) (List.length_take_le k fs))
  have HRS : Hid (∀ k f, fs[k]? = some f → RK (k + 1) = RK k ++ (recF g epoch next f).toList) := Lib.hid (fun k f hf => by rw [← hRK]; exact recs_take hf)
  have HBD : Hid (∀ f, FndQ f → EBody ((recE g epoch f).getD En.E.zero)) := Lib.hid (fun f hq => by
    cases hre : recE g epoch f with
    | none => exact zero_ebody
    | some e => exact (by have := readE_body f.fr hq.2.2.1; unfold recE at hre; split at hre; simp only [Option.some.injEq] at hre; rw [hre] at this; exact this; cases hre))
  obtain ⟨RE, hRE⟩ : ∃ RE, recs g epoch next fs = RE := ⟨_, rfl⟩
  rw [hRE] at HRN
  rw [hRE]
  obtain ⟨n, hn⟩ : ∃ n, fs.length = n := ⟨_, rfl⟩
  have HN := Lib.hid hn
  rw [hn] at HRN hl ⊢
  obtain ⟨W1, hW1⟩ : ∃ W, w.alloc (.cells (SnC gen epoch next p) 29) = W := ⟨_, rfl⟩
  have hb1 : Below w.heap.size w W1 := by rw [← hW1]; exact (Below.refl _ _).alloc (Nat.le_refl _) _
  have hs1 : W1.heap[w.heap.size]? = some (.cells (SnC gen epoch next p) 29 (0, 0)) := by rw [← hW1]; exact heap_alloc_new w _
  have zs1 : w.heap.size < W1.heap.size := (Array.getElem?_eq_some_iff.1 hs1).1
  obtain ⟨W2, hW2⟩ : ∃ W, W1.alloc (.map #[] 0) = W := ⟨_, rfl⟩
  have hb2 : Below W1.heap.size W1 W2 := by rw [← hW2]; exact (Below.refl _ _).alloc (Nat.le_refl _) _
  have hy2 : ByIs W2 w.heap.size W1.heap.size [] (fun _ => .slice none 0 0) := by rw [← hW2]; exact ByIs.start W1 (by omega)
  have HW1 := Lib.hid hW1
  have HW2 := Lib.hid hW2
  have HY2 := Lib.hid hy2
  have HS2 := Lib.hid ((hb2.block _ zs1).trans hs1)
  have HB2 := Lib.hid (hb1.trans (hb2.mono (Nat.le_of_lt zs1)))
  have zb2 := hb2.size
  obtain ⟨SX, hSX⟩ : ∃ X, SnC gen epoch next p = X := ⟨_, rfl⟩
  have HSX : Hid (∀ (W : World) (b : Nat), W.heap[b]? = some (.cells SX 29 (0, 0)) → W.cell? ⟨b, 1, none⟩ = some (.int .i64 epoch) ∧ W.cell? ⟨b, 2, none⟩ = some (.int .i64 next) ∧ W.cell? ⟨b, 3, none⟩ = some (.pointer (some ⟨p, 0, none⟩))) := Lib.hid (fun W b hh => by rw [← hSX] at hh; exact (sn_cells hh).2)
  obtain ⟨GX, hGX⟩ : ∃ X, GC g = X := ⟨_, rfl⟩
  rw [hSX] at HW1 HS2 HSI ⊢
  rw [hGX] at HGM HRC
  obtain ⟨EZ, hEZ⟩ : ∃ Z, EC En.E.zero = Z := ⟨_, rfl⟩
  rw [hEZ] at hze HZE
  obtain ⟨FZ, hFZ⟩ : ∃ Z, fndC fnd0 = Z := ⟨_, rfl⟩
  rw [hFZ] at hzf HZF
  clear h hI hRK hRE hn hW1 hb1 hs1 hW2 hb2 hy2 hSX hGX hEZ hFZ
  go_enter Try.func27, Try.ntmps27
  go_upto_region 1 with (fail)
  rw [HW1.out]
  go_upto_region 2 with (fail)
  rw [HW2.out]
  clear hmk
  obtain ⟨mb, hmb⟩ : ∃ mb, W1.heap.size = mb := ⟨_, rfl⟩
  rw [hmb] at HY2 zb2 zs1 ⊢
  clear hmb
  go_wp2
  go_loopw [7, 15] (fun x u wr => ∃ (k : Nat) (V : Int → Value) (v : Value), k ≤ n ∧ u = .int .i64 k ∧ v = x ∧ OwnM wr 3 1 iC (fun _ => True) w.heap.size v (Rl.zones (RK k)) ∧ ByIs wr w.heap.size mb (RK k) V ∧ wr.heap[w.heap.size]? = some (.cells SX 29 (0, 0)) ∧ Below w.heap.size w wr) (fun _ u _ => n - (intOf u).toNat)
  case atStart => exact ⟨0, _, _, Nat.zero_le _, rfl, rfl, by rw [HR0.out]; exact OwnM.nil _ _ _ _ _ _, by rw [HR0.out]; exact HY2.out, HS2.out, HB2.out⟩
  case round =>
    obtain ⟨k, V, v, hk, rfl, rfl, hown, hby, hsn, hBr⟩ := hrel
    have HBR := Lib.hid hBr
    have HOW := Lib.hid hown
    have HBY := Lib.hid hby
    have HSN := Lib.hid hsn
    have zr := hBr.size
    have HSB0 : Hid (w.heap.size < wr.heap.size) := Lib.hid (Array.getElem?_eq_some_iff.1 hsn).1
    clear hBr hown hby hsn
    by_cases hlt : k < n
    · obtain ⟨f, hf⟩ : ∃ f, fs[k]? = some f := ⟨_, List.getElem?_eq_getElem (by rw [HN.out]; exact hlt)⟩
      have hq := HI.out.all f (List.mem_of_getElem? hf)
      obtain ⟨ab, ao, rfl, -, -, -⟩ := HI.out.at hf
      have HGF := Lib.hid (Rl2.rowOf_range (HI.out.below HBR.out) kinFnd.size hf)
      have hrs := HRS.out k f hf
      have hEB := HBD.out f hq
      have hwf : (Lit.int .i64 f.fr.seq).wf = true := hq.2.2.2.2.2.2.2
      obtain ⟨x, hx⟩ : ∃ x, (recE g epoch f).getD En.E.zero = x := ⟨_, rfl⟩
      obtain ⟨rb, hrb⟩ : ∃ b, (recE g epoch f).isSome = b := ⟨_, rfl⟩
      have hcase : (rb = false ∧ RK (k + 1) = RK k) ∨ (rb = true ∧ decide (f.fr.seq < next) = true ∧ RK (k + 1) = RK k) ∨ (rb = true ∧ decide (f.fr.seq < next) = false ∧ RK (k + 1) = RK k ++ [(f.fr.seq, ⟨x, f.zone, f.off⟩)]) := by
        rw [hrs, ← hrb, ← hx]
        unfold recF
        cases hre : recE g epoch f with
        | none => exact .inl ⟨rfl, by simp⟩
        | some e =>
          by_cases hs : f.fr.seq < next
          · exact .inr (.inl ⟨rfl, decide_eq_true hs, by simp [hs]⟩)
          · exact .inr (.inr ⟨rfl, decide_eq_false hs, by simp [hs]⟩)
      have hrc := fun W => HRC.out f W hq
      rw [hx, hrb] at hrc
      have HRCF := Lib.hid hrc
      rw [hx] at hEB
      have HCASE := Lib.hid hcase
      have HFC : Hid (∀ (W : World) (b : Nat), W.heap[b]? = some (.cells (fndC f) 70 (0, 0)) → W.cell? ⟨b, 0, none⟩ = some (.int .i64 f.zone) ∧ W.cell? ⟨b, 1, none⟩ = some (.int .i64 f.off) ∧ W.cell? ⟨b, 6, none⟩ = some (.int .i64 f.fr.seq)) := Lib.hid (fun W b hh => ⟨(fnd_cells hh).1, (fnd_cells hh).2.1, (fnd_cells hh).2.2.2.2.2⟩)
      have HIF1 := Lib.hid (HIF.out f hq)
      have HIL1 := Lib.hid (HIL.out f hq)
      have HZF1 := Lib.hid (HZF.out f hq)
      have HOF1 := Lib.hid (HOF.out f hq)
      have HIE1 := Lib.hid (HIE.out x hEB)
      have HZE1 := Lib.hid (HZE.out x hEB)
      have HOE1 := Lib.hid (HOE.out x hEB)
      have HRQ : Hid (RecQ ⟨x, f.zone, f.off⟩) := Lib.hid hEB
      have HBLT := Lib.hid (built_rec x f.zone f.off hEB)
      have HRX := Lib.hid (size_rec (r := ⟨x, f.zone, f.off⟩) hEB)
      obtain ⟨CF, hCF⟩ : ∃ C, fndC f = C := ⟨_, rfl⟩
      rw [hCF] at HGF HRCF HFC HIF1 HIL1 HZF1 HOF1
      obtain ⟨zn, hzn⟩ : ∃ z, f.zone = z := ⟨_, rfl⟩
      obtain ⟨fo, hfo⟩ : ∃ z, f.off = z := ⟨_, rfl⟩
      obtain ⟨sq, hsq⟩ : ∃ z, f.fr.seq = z := ⟨_, rfl⟩
      rw [hzn, hfo, hsq] at HFC
      rw [hzn, hfo, hsq] at HCASE
      rw [hzn, hfo] at HRQ HBLT HRX
      rw [hsq] at hwf
      obtain ⟨CE, hCE⟩ : ∃ C, EC x = C := ⟨_, rfl⟩
      rw [hCE] at HRCF HIE1 HZE1 HOE1 HBLT
      obtain ⟨rr, hrr⟩ : ∃ r : Rec, (⟨x, zn, fo⟩ : Rec) = r := ⟨_, rfl⟩
      have hrz : rr.zone = zn := by rw [← hrr]
      rw [hrr] at HCASE HRQ HBLT HRX
      obtain ⟨CR, hCR⟩ : ∃ C, recC rr = C := ⟨_, rfl⟩
      rw [hCR] at HBLT HRX
      have HRZ := Lib.hid hrz
      have HCR := Lib.hid hCR
      have HWF := Lib.hid hwf
      clear hf hq hrs hEB hx hrb hcase hrc hCF hzn hfo hsq hCE hrr hCR hrz hwf
      obtain ⟨W3, hW3⟩ : ∃ W, wr.alloc (.cells CF 70) = W := ⟨_, rfl⟩
      have hb3 : Below wr.heap.size wr W3 := by rw [← hW3]; exact (Below.refl _ _).alloc (Nat.le_refl _) _
      have hf3 : W3.heap[wr.heap.size]? = some (.cells CF 70 (0, 0)) := by rw [← hW3]; exact heap_alloc_new wr _
      have zf3 : wr.heap.size < W3.heap.size := (Array.getElem?_eq_some_iff.1 hf3).1
      have HF3 := Lib.hid hf3
      have HSN3 := Lib.hid ((hb3.block _ HSB0.out).trans HSN.out)
      have HBY3 := Lib.hid (HBY.out.below hb3)
      have HOW3 := Lib.hid (HOW.out.below hb3)
      have HB3 := Lib.hid (HBR.out.trans (hb3.mono zr))
      have HW3 := Lib.hid hW3
      clear hW3 hb3 hf3
      go_upto_region 6 with (first | (refine wpList_load_mid rfl 70 _ rfl ab (ao + k * 51) rfl CF.toList _ HGF.out Try.underlying70 rfl HIL1.out ?_) | (refine wpList_store_row rfl 70 _ _ rfl wr.heap.size CF rfl rfl 70 FZ (heap_alloc_new wr _) HIF1.out HZF1.out HOF1.out ?_; rw [World.setRow_alloc_new]))
      rw [HW3.out, put_none]
      have HTE : Hid (∀ V', Below wr.heap.size wr V' → True) := Lib.hid (fun _ _ => trivial)
      clear HTE
      obtain ⟨E, hE⟩ : ∃ E, wr.heap.size = E := ⟨_, rfl⟩
      have hwE : w.heap.size < E := by have := HSB0.out; omega
      rw [hE] at HF3 zf3 ⊢
      clear hE
      obtain ⟨C0, hC0⟩ : ∃ C, w.heap.size = C := ⟨_, rfl⟩
      rw [hC0] at HSN3 hwE HOW3 HBY3 HB3 HGM ⊢
      have HKF : Hid (∀ W, Below W3.heap.size W3 W → W.heap[E]? = some (.cells CF 70 (0, 0))) := Lib.hid (fun W hB => (hB.block E zf3).trans HF3.out)
      have HKS : Hid (∀ W, Below W3.heap.size W3 W → W.heap[C0]? = some (.cells SX 29 (0, 0))) := Lib.hid (fun W hB => (hB.block C0 (by omega)).trans HSN3.out)
      have HKG : Hid (∀ W, Below W3.heap.size W3 W → Calls Try.prog 29 #[.pointer (some ⟨p, 0, none⟩)] W fun x w' => x = .returned (.agg GX) ∧ Below W.heap.size W w') := Lib.hid (fun W hB => HGM.out W (HB3.out.trans (hB.mono HBY3.out.hB.2)))
      have zC3 : C0 ≤ W3.heap.size := by omega
      refine wp_region_conf8 12 [Fact.eq (.pointer (some ⟨C0, 3, none⟩)), Fact.eq (.pointer (some ⟨p, 0, none⟩)), Fact.eq (.agg GX), Fact.eq (.pointer (some ⟨C0, 1, none⟩)), Fact.eq (.int .i64 epoch), Fact.eq (.agg CF), Fact.eq (.tuple #[.agg CE, .bool rb]), Fact.eq (.tuple #[.agg CE, .bool rb]), Fact.eq (.agg CE), Fact.eq (.bool rb), Fact.eq undef, Fact.eq undef] 10 11 EZ CE 65 ?raA (by kernel_rfl) (by kernel_rfl) (by kernel_rfl) ?rahA ?rahs ?raho ?rahend
      case rahA =>
        intro vv
        simp only [putRules, Nat.reduceAdd]
        rfl
      case rahs =>
        intro j u W g hj hg hr hp
        match j, hj with
        | 0, _ => exact hp
        | 1, _ => exact hp
        | 2, _ => exact hp
        | 3, _ => exact hp
        | 4, _ => exact hp
        | 5, _ => exact hp
        | 6, _ => exact hp
        | 7, _ => exact hp
        | 8, _ => exact hp
        | 9, _ => exact hp
        | 10, _ => exact hp
        | 11, _ => exact hp
      case raho =>
        refine ⟨?_, ?_, ?_, ?_, ?_, ?_, ?_, ?_, ?_, ?_, ?_, ?_, trivial⟩
        · intro vv W K hB hd HK
          simp only [conf8Rules] at HK
          clear hd
          go_wp2
          refine HK.out _ _ (Below.refl _ _) ?_
          rfl
        · intro vv W K hB hd HK
          simp only [confRules, conf8Rules, cond7] at hd HK
          have h0 := hd
          clear hd
          simp only [h0] at HK ⊢
          clear h0
          obtain ⟨-, -, c9⟩ := HSX.out W C0 (HKS.out W hB)
          go_wp2
          refine HK.out _ _ (Below.refl _ _) ?_
          rfl
        · intro vv W K hB hd HK
          simp only [confRules, conf8Rules, cond7] at hd HK
          have h1 := hd
          clear hd
          simp only [h1] at HK ⊢
          clear h1
          go_wp2_with (refine (HKG.out _ hB).mono ?_; rintro e w9 ⟨rfl, hB9⟩)
          refine HK.out _ _ hB9 ?_
          rfl
        · intro vv W K hB hd HK
          simp only [conf8Rules] at HK
          clear hd
          go_wp2
          refine HK.out _ _ (Below.refl _ _) ?_
          rfl
        · intro vv W K hB hd HK
          simp only [confRules, conf8Rules, cond7] at hd HK
          have h3 := hd
          clear hd
          simp only [h3] at HK ⊢
          clear h3
          obtain ⟨c9, -, -⟩ := HSX.out W C0 (HKS.out W hB)
          go_wp2
          refine HK.out _ _ (Below.refl _ _) ?_
          rfl
        · intro vv W K hB hd HK
          simp only [conf8Rules] at HK
          clear hd
          refine wpList_load_row rfl 70 _ rfl E rfl 70 _ _ _ (HKF.out W hB) Try.underlying70 rfl HIF1.out ?_
          refine HK.out _ _ (Below.refl _ _) ?_
          rfl
        · intro vv W K hB hd HK
          simp only [confRules, conf8Rules, cond7] at hd HK
          obtain ⟨h2, h4, h5, _⟩ := hd
          simp only [h2, h4, h5] at HK ⊢
          clear h2 h4 h5
          go_wp2_with (refine (HRCF.out _).mono ?_; rintro e w9 ⟨rfl, hB9⟩)
          refine HK.out _ _ hB9 ?_
          rfl
        · intro vv W K hB hd HK
          simp only [confRules, conf8Rules, cond7] at hd HK
          have h6 := hd
          clear hd
          simp only [h6] at HK ⊢
          clear h6
          go_wp2
          refine HK.out _ _ (Below.refl _ _) ?_
          rfl
        · intro vv W K hB hd HK
          simp only [confRules, conf8Rules, cond7] at hd HK
          have h7 := hd
          clear hd
          simp only [h7] at HK ⊢
          clear h7
          go_wp2
          refine HK.out _ _ (Below.refl _ _) ?_
          rfl
        · intro vv W K hB hd HK
          simp only [confRules, conf8Rules, cond7] at hd HK
          have h7 := hd
          clear hd
          simp only [h7] at HK ⊢
          clear h7
          go_wp2
          refine HK.out _ _ (Below.refl _ _) ?_
          rfl
        · intro vv W K hB hd HK
          simp only [] at HK
          clear hd
          go_wp2
          refine HK.out _ _ hB.size ((Below.refl _ _).alloc (Nat.le_refl _) _) (heap_alloc_new _ _)
        · intro vv W K g hB hg hr hp hd HK
          simp only [confRules, conf8Rules, cond7] at hd HK
          obtain ⟨h8, h6, h0, h1, h2, h3, h4, h5, _, h7, _⟩ := hd
          simp only [hp, h8, h6, h0, h1, h2, h3, h4, h5, h7] at HK ⊢
          clear h8 h6 h0 h1 h2 h3 h4 h5 h7
          go_wp2_with (refine wpList_store_row rfl 65 _ _ rfl g CE rfl rfl 65 EZ hr HIE1.out HZE1.out HOE1.out ?_)
          refine HK.out _ _ rfl ?_
          rfl
      case rahend =>
      intro vv W g10 hB hf e10 l10 r10
      have e9 := hf 9 (by decide) (by decide)
      simp only [conf8Rules] at e9
      simp only [e9, e10, dropRules]
      clear hf e10 e9
      go_upto_region 7 with (fail)
      obtain ⟨W4, hW4⟩ : ∃ W4, W = W4 := ⟨_, rfl⟩
      have HB4 := Lib.hid (HB3.out.trans (hB.mono zC3))
      have HF4 := Lib.hid (HKF.out W hB)
      have HSN4 := Lib.hid (HKS.out W hB)
      have HBY4 := Lib.hid (HBY3.out.below hB)
      have HOW4 := Lib.hid (HOW3.out.below hB)
      have HE4 := Lib.hid r10
      have hEg : E < g10 := by omega
      rw [hW4] at HB4 HF4 HSN4 HBY4 HOW4 HE4 ⊢
      clear hW4 hB r10 HKF HKS HKG
      obtain ⟨s1, s2, -⟩ := HSX.out W4 C0 HSN4.out
      obtain ⟨f1, f2, f3⟩ := HFC.out W4 E HF4.out
      rcases HCASE.out with ⟨rfl, hst⟩ | ⟨rfl, t1, hst⟩ | ⟨rfl, t1, hst⟩
      · have HST := Lib.hid hst
        clear hst s1 s2 f1 f2 f3
        go_wp2
        have hfo := HOW4.out
        rw [← HST.out] at hfo
        have hfb := HBY4.out
        rw [← HST.out] at hfb
        refine ⟨⟨_, _, _, _, _, ⟨k + 1, by omega, ?_, hfo, ⟨V, hfb⟩, HSN4.out, HB4.out⟩, rfl, rfl, rfl, rfl, rfl⟩, by simp [intOf]; omega⟩
        go_num
      · have HST := Lib.hid hst
        clear hst
        go_wp2
        have hfo := HOW4.out
        rw [← HST.out] at hfo
        have hfb := HBY4.out
        rw [← HST.out] at hfb
        refine ⟨⟨_, _, _, _, _, ⟨k + 1, by omega, ?_, hfo, ⟨V, hfb⟩, HSN4.out, HB4.out⟩, rfl, rfl, rfl, rfl, rfl⟩, by simp [intOf]; omega⟩
        go_num
      · have HST := Lib.hid hst
        clear hst
        go_upto_region 8 with (fail)
        clear s1 s2 f1 f2 f3 t1
        obtain ⟨a1, cap1, hv1, hr1, hc1, hc2, hb1, -⟩ := HBY4.out.at sq
        obtain ⟨n1, hn1⟩ : ∃ n, (atSeq (RK k) sq).length = n := ⟨_, rfl⟩
        have hn1b : n1 ≤ 1000 := by have := atSeq_length (RK k) sq; have := HRL.out k; omega
        rw [hn1] at hv1
        have HN1 := Lib.hid hn1
        have HV1 := Lib.hid hv1
        obtain ⟨SB, hSB⟩ : ∃ s, (V sq).ownBlock.toList = s := ⟨_, rfl⟩
        have HSBM : Hid (∀ x ∈ SB, (V sq).ownBlock = some x) := Lib.hid (fun x hx => by rw [← hSB] at hx; simpa using hx)
        have HSBK : Hid (∀ x ∈ SB, ∃ C, W4.heap[x]? = some (.cells C 102 (0, 0))) := Lib.hid (fun x hx => ((HBY4.out.hv sq).base_le (HSBM.out x hx)).2)
        have HGO : Hid (∀ V1 V2, V1.grownBy V2 (V sq).ownBlock → Only SB V1 V2) := Lib.hid (fun V1 V2 hg => (Only.refl _ _).grown hg (fun k hk => .inl (by rw [← hSB, hk]; simp)))
        have HNF : Hid (E ∉ SB ∧ C0 ∉ SB ∧ g10 ∉ SB ∧ mb ∉ SB) := Lib.hid ⟨fun hm => by obtain ⟨C, hC⟩ := HSBK.out _ hm; exact cells_ty_ne hC HF4.out (by decide) rfl, fun hm => by obtain ⟨C, hC⟩ := HSBK.out _ hm; exact cells_ty_ne hC HSN4.out (by decide) rfl, fun hm => by obtain ⟨C, hC⟩ := HSBK.out _ hm; exact cells_ty_ne hC HE4.out (by decide) rfl, fun hm => by obtain ⟨C, hC⟩ := HSBK.out _ hm; obtain ⟨es, clock, hmm⟩ := HBY4.out.hm.obj; exact map_ne_cells hmm hC rfl⟩
        have hSW : ∀ x ∈ SB, x < W4.heap.size := fun x hx => by obtain ⟨C, hC⟩ := HSBK.out x hx; exact (Array.getElem?_eq_some_iff.1 hC).1
        have HKF : Hid (∀ W, Only SB W4 W → W.cell? ⟨E, 0, none⟩ = some (.int .i64 zn) ∧ W.cell? ⟨E, 1, none⟩ = some (.int .i64 fo) ∧ W.cell? ⟨E, 6, none⟩ = some (.int .i64 sq)) := Lib.hid (fun W hO => HFC.out W E (hO.get HF4.out HNF.out.1))
        have HKE : Hid (∀ W, Only SB W4 W → W.heap[g10]? = some (.cells CE 65 (0, 0))) := Lib.hid (fun W hO => hO.get HE4.out HNF.out.2.2.1)
        have HKM : Hid (∀ W, Only SB W4 W → MapI W Try.prog 3 (.slice none 0 0) mb (RK k).length V) := Lib.hid (fun W hO => HBY4.out.hm.only hO HNF.out.2.2.2)
        have HOLD := HBY4.out.hv sq
        have HOLDH := Lib.hid HOLD
        have hzE : W4.heap.size = W4.heap.size := rfl
        clear HOLD hzE hSB hr1 hc1 hc2 hb1 hn1 hv1
        refine wp_region_conf11 SB 17 [FactS.eq (.map (some mb)), FactS.eq (.pointer (some ⟨E, 2, none⟩)), FactS.eq (.pointer (some ⟨E, 6, none⟩)), FactS.eq (.int .i64 sq), FactS.eq (.map (some mb)), FactS.eq (.pointer (some ⟨E, 2, none⟩)), FactS.eq (.pointer (some ⟨E, 6, none⟩)), FactS.eq (.int .i64 sq), FactS.eq (.slice a1 n1 cap1), FactS.eq (.agg CE), FactS.eq (.pointer (some ⟨E, 0, none⟩)), FactS.eq (.int .i64 zn), FactS.eq (.pointer (some ⟨E, 1, none⟩)), FactS.eq (.int .i64 fo), FactS.eq (.agg CR), FactS.rowSl W4.heap.size CR 102 hSW, FactS.eq undef] 16 (fun V' => OwnM V' 102 40 recC RecQ C0 (.slice a1 n1 cap1) (atSeq (RK k) sq)) (fun u V' => OwnM V' 102 40 recC RecQ C0 u (atSeq (RK k) sq ++ [rr]) ∧ (u.ownBlock = (V sq).ownBlock ∨ ∃ b, u.ownBlock = some b ∧ W4.heap.size ≤ b)) ?rbA (by kernel_rfl) (by kernel_rfl) (by kernel_rfl) ?rbhA ?rbh0 ?rbhb ?rbhg ?rbho ?rbhend
        case rbhA =>
          intro vv
          simp only [putRules, Nat.reduceAdd]
          rfl
        case rbh0 =>
          rw [← HV1.out]
          exact HOLDH.out.below (Below.refl _ _).drew
        case rbhb =>
          intro V1 V2 h1 h2
          exact h1.below h2
        case rbhg =>
          intro u V1 V2 h1 h2
          exact ⟨h1.1.below h2, h1.2⟩
        case rbho =>
          refine ⟨?_, ?_, ?_, ?_, ?_, ?_, ?_, ?_, ?_, ?_, ?_, ?_, ?_, ?_, ?_, ?_, ?_, trivial⟩
          · intro vv W K hO hd HK
            simp only [confRules, conf6Rules] at HK
            clear hd
            go_wp2
            refine HK.out _ _ (Below.refl _ _) ?_
            rfl
          · intro vv W K hO hd HK
            simp only [confRules, conf6Rules] at HK
            clear hd
            go_wp2
            refine HK.out _ _ (Below.refl _ _) ?_
            rfl
          · intro vv W K hO hd HK
            simp only [confRules, conf6Rules] at hd HK
            have h1 := hd
            clear hd
            simp only [h1] at HK ⊢
            clear h1
            go_wp2
            refine HK.out _ _ (Below.refl _ _) ?_
            rfl
          · intro vv W K hO hd HK
            simp only [confRules, conf6Rules] at hd HK
            have h2 := hd
            clear hd
            simp only [h2] at HK ⊢
            clear h2
            obtain ⟨-, -, c9⟩ := HKF.out W hO
            go_wp2
            refine HK.out _ _ (Below.refl _ _) ?_
            rfl
          · intro vv W K hO hd HK
            simp only [confRules, conf6Rules] at HK
            clear hd
            go_wp2
            refine HK.out _ _ (Below.refl _ _) ?_
            rfl
          · intro vv W K hO hd HK
            simp only [confRules, conf6Rules] at HK
            clear hd
            go_wp2
            refine HK.out _ _ (Below.refl _ _) ?_
            rfl
          · intro vv W K hO hd HK
            simp only [confRules, conf6Rules] at hd HK
            have h5 := hd
            clear hd
            simp only [h5] at HK ⊢
            clear h5
            go_wp2
            refine HK.out _ _ (Below.refl _ _) ?_
            rfl
          · intro vv W K hO hd HK
            simp only [confRules, conf6Rules] at hd HK
            have h6 := hd
            clear hd
            simp only [h6] at HK ⊢
            clear h6
            obtain ⟨-, -, c9⟩ := HKF.out W hO
            go_wp2
            refine HK.out _ _ (Below.refl _ _) ?_
            rfl
          · intro vv W K hO hd HK
            simp only [confRules, conf6Rules] at hd HK
            obtain ⟨h4, h7⟩ := hd
            simp only [h4, h7] at HK ⊢
            clear h4 h7
            refine wpList_lookupI rfl (.tmp 43) (.tmp 46) 89 rfl 3 100 Try.underlying3 Try.underlying89 (.slice none 0 0) HZL.out mb (RK k).length V rfl (HKM.out W hO) sq rfl HWF.out ?_
            rw [HV1.out]
            refine HK.out _ _ (Below.refl _ _) ?_
            rfl
          · intro vv W K hO hd HK
            simp only [confRules, conf6Rules] at HK
            clear hd
            refine wpList_load_row rfl 65 _ rfl g10 rfl 65 _ _ _ (HKE.out W hO) Try.underlying65 rfl HIE1.out ?_
            refine HK.out _ _ (Below.refl _ _) ?_
            rfl
          · intro vv W K hO hd HK
            simp only [confRules, conf6Rules] at HK
            clear hd
            go_wp2
            refine HK.out _ _ (Below.refl _ _) ?_
            rfl
          · intro vv W K hO hd HK
            simp only [confRules, conf6Rules] at hd HK
            have h10 := hd
            clear hd
            simp only [h10] at HK ⊢
            clear h10
            obtain ⟨c9, -, -⟩ := HKF.out W hO
            go_wp2
            refine HK.out _ _ (Below.refl _ _) ?_
            rfl
          · intro vv W K hO hd HK
            simp only [confRules, conf6Rules] at HK
            clear hd
            go_wp2
            refine HK.out _ _ (Below.refl _ _) ?_
            rfl
          · intro vv W K hO hd HK
            simp only [confRules, conf6Rules] at hd HK
            have h12 := hd
            clear hd
            simp only [h12] at HK ⊢
            clear h12
            obtain ⟨-, c9, -⟩ := HKF.out W hO
            go_wp2
            refine HK.out _ _ (Below.refl _ _) ?_
            rfl
          · intro vv W K hO hd HK
            simp only [confRules, conf6Rules] at hd HK
            obtain ⟨h9, h11, h13⟩ := hd
            simp only [h9, h11, h13] at HK ⊢
            clear h9 h11 h13
            refine wpList_build_on (by rfl) 102 _ rfl #[(0, .agg CE), (1, .int .i64 zn), (2, .int .i64 fo)] (by simp [Act.eval]) _ HBLT.out ?_
            refine HK.out _ _ (Below.refl _ _) ?_
            rfl
          · intro vv W K hO hd HK
            simp only [confRules, conf6Rules] at hd HK
            have h14 := hd
            clear hd
            simp only [h14] at HK ⊢
            clear h14
            refine wpList_slice1r rfl (.tmp 53) rfl rr HRQ.out CR HCR.out rfl ?_
            refine HK.out _ _ ((Below.refl _ _).alloc (Nat.le_refl _) _) ?_
            exact ⟨_, rfl, hO.size, heap_alloc_new _ _⟩
          · intro vv W K hO hI hd HK
            simp only [confRules, conf6Rules] at hd HK
            obtain ⟨h8, ⟨g15, h15, b15, z15⟩⟩ := hd
            simp only [h8, h15] at HK ⊢
            clear h8 h15
            have HRX1 : Hid (RowOf W 40 recC RecQ (some ⟨g15, 0, none⟩) [rr]) := Lib.hid (one_rowOf (t := 102) (fr := (0, 0)) (by rw [HCR.out]; exact z15) HRQ.out)
            have HI9 := Lib.hid hI
            have HSZ9 := Lib.hid hO.size
            go_wp2_with (at_builtin; refine wpList_appendM rfl (.tmp 47) (.tmp 54) 100 rfl 102 40 recC RecQ kinRec (by decide) (.agg (recC rec0)) 96 Try.underlying100 Try.infoRec3 rfl C0 _ (atSeq (RK k) sq) rfl HI9.out (some ⟨g15, 0, none⟩) 1 [rr] (by rfl) HRX1.out (by simp) (by have := HN1.out; unfold maxLen; simp; omega) (by have := HN1.out; simp; omega) (by have := HSZ9.out; have := HBY4.out.hB.2; omega) ?_; intro v9 w9 hv9 hg9 hx9)
            exact HK.out _ _ (HGO.out _ _ (by rw [HV1.out]; exact hg9)) ⟨hv9, by rw [HV1.out]; rcases hx9 with e | e; exact .inl e; exact .inr ⟨_, e, hO.size⟩⟩
        case rbhend =>
        intro vv W hO hf hG
        have e0 := hf 0 (by decide) (by rfl)
        simp only [conf6Rules] at e0
        have e3 := hf 3 (by decide) (by rfl)
        simp only [conf6Rules] at e3
        simp only [e0, e3, dropRules]
        clear hf e0 e3
        obtain ⟨u6, hu6⟩ : ∃ u, vv 16 = u := ⟨_, rfl⟩
        rw [hu6] at hG
        refine wpList_mapUpdateI rfl (.tmp 39) (.tmp 42) (.tmp 55) 89 rfl 3 100 Try.underlying3 Try.underlying89 (.slice none 0 0) mb (RK k).length V rfl (HKM.out W hO) (by have := HRL.out k; unfold maxLen; omega) sq rfl HWF.out ?_
        intro w8 hM8 hg8
        have hM8' : MapI w8 Try.prog 3 (.slice none 0 0) mb ((RK k).length + 1) (putV V sq u6) := by rw [← hu6]; exact hM8
        have hby8 := HBY4.out.put hO HSBM.out hG.1 hG.2 hM8' hg8
        rw [← HST.out] at hby8
        have hne8 : ∀ k, (some mb : Option Nat) = some k → k ≠ E ∧ k ≠ C0 := fun k hk => by
          obtain ⟨es, clock, hmm⟩ := HBY4.out.hm.obj
          simp only [Option.some.injEq] at hk
          subst hk
          exact ⟨map_ne_cells hmm HF4.out, map_ne_cells hmm HSN4.out⟩
        have hF8 : w8.heap[E]? = some (.cells CF 70 (0, 0)) := by
          have h1 := hO.get HF4.out HNF.out.1
          exact (hg8.block E (Array.getElem?_eq_some_iff.1 h1).1 (fun e => (hne8 E e.symm).1 rfl)).trans h1
        have hS8 : w8.heap[C0]? = some (.cells SX 29 (0, 0)) := by
          have h1 := hO.get HSN4.out HNF.out.2.1
          exact (hg8.block C0 (Array.getElem?_eq_some_iff.1 h1).1 (fun e => (hne8 C0 e.symm).2 rfl)).trans h1
        have hO8 : OwnM w8 3 1 iC (fun _ => True) C0 v (Rl.zones (RK k)) := by
          have h1 := HOW4.out.only hO (fun k hk hm => by
            obtain ⟨-, C, hC⟩ := HOW4.out.base_le hk
            obtain ⟨C', hC'⟩ := HSBK.out _ hm
            exact cells_ty_ne hC hC' (by decide) rfl)
          refine h1.kept hg8 ?_
          cases hb : v.ownBlock with
          | none => exact .inl rfl
          | some j =>
            refine .inr (fun e => ?_)
            obtain ⟨-, C, hC⟩ := h1.base_le hb
            obtain ⟨es, clock, hmm⟩ := HBY4.out.hm.obj
            simp only [Option.some.injEq] at e
            exact map_ne_cells (hO.get hmm HNF.out.2.2.2) hC e.symm
        have hB8 : Below C0 w w8 := HB4.out.trans ((hO.below (fun x hx => ((HBY4.out.hv sq).base_le (HSBM.out x hx)).1) HBY4.out.hB.2).trans (Below.of_grown hg8 (Nat.le_trans HBY4.out.hB.2 hO.size) (fun k hk => by simp only [Option.some.injEq] at hk; subst hk; exact HBY4.out.hB.1)))
        have hz8 : Rl.zones (RK (k + 1)) = Rl.zones (RK k) ++ [zn] := by rw [HST.out]; unfold Rl.zones; rw [List.map_append]; simp only [List.map_cons, List.map_nil]; rw [HRZ.out]
        have c8 := (HFC.out w8 E hF8).1
        have HBY8 := Lib.hid hby8
        have HS8 := Lib.hid hS8
        have HO8 := Lib.hid hO8
        have HB8 := Lib.hid hB8
        have HZ8 := Lib.hid hz8
        have HZL8 : Hid ((Rl.zones (RK k)).length ≤ 1000) := Lib.hid (by unfold Rl.zones; rw [List.length_map]; have := HRL.out k; omega)
        clear hG hM8 hM8' hg8 hby8 hne8 hF8 hS8 hO8 hB8 hz8 hO hu6 HKF HKE HKM
        have HA8 := Lib.hid ((Below.refl w8.heap.size w8).alloc (Nat.le_refl _) (.cells #[.int .i64 zn] 3))
        have HOA := Lib.hid (HO8.out.below HA8.out)
        have HRA := Lib.hid (add_one_int w8 3 zn)
        go_wp2_with (at_builtin; refine wpList_appendM rfl (.tmp 56) (.tmp 59) 33 rfl 3 1 iC (fun _ => True) kinI (by decide) (.int .i64 0) 8 Try.underlying33 Try.infoInt3 rfl C0 _ (Rl.zones (RK k)) rfl HOA.out (some ⟨w8.heap.size, 0, none⟩) 1 [zn] (by rfl) HRA.out (by simp) (by have := HZL8.out; unfold maxLen; simp; omega) (by have := HZL8.out; simp; omega) (by have := HBY8.out.hB.2; simp; omega) ?_; intro v11 w11 hv11 hg11 _; have hB11 := (HB8.out.trans (HA8.out.mono HBY8.out.hB.2)).trans (HOA.out.grown hg11 (by have := HBY8.out.hB.2; simp; omega)); have hby11 := (HBY8.out.below HA8.out).kept hg11 (fun k hk => (HOA.out.base_le hk).2); have hs11 : w11.heap[C0]? = some (.cells SX 29 (0, 0)) := (hg11.block C0 (by have := HBY8.out.hB.2; have := (Array.getElem?_eq_some_iff.1 HS8.out).1; simp; omega) (fun e => by obtain ⟨-, C, hC⟩ := HOA.out.base_le e.symm; exact cells_ty_ne hC ((HA8.out.block C0 (Array.getElem?_eq_some_iff.1 HS8.out).1).trans HS8.out) (by decide) rfl)).trans ((HA8.out.block C0 (Array.getElem?_eq_some_iff.1 HS8.out).1).trans HS8.out))
        rw [← HZ8.out] at hv11
        refine ⟨⟨_, _, _, _, _, ⟨k + 1, by omega, ?_, hv11, ⟨_, hby11⟩⟩, rfl, rfl, rfl, rfl, rfl⟩, by simp [intOf]; omega⟩
        go_num
    · obtain rfl : k = n := by omega
      have hown := HOW.out
      have hby := HBY.out
      rw [HRN.out] at hown hby
      have hzl : (Rl.zones RE).length ≤ 1000 := by unfold Rl.zones; rw [List.length_map, ← HRN.out]; have := HRL.out k; omega
      have HSO := Lib.hid (sort_own hown (by omega))
      have HOWN := Lib.hid hown
      have HBYN := Lib.hid hby
      have HZLN := Lib.hid hzl
      clear hown hby hzl
      go_wp2_with fail
      refine HSO.out.mono ?_
      rintro e1 w1 ⟨rfl, ho1, hg1⟩
      have hby1 := HBYN.out.kept hg1 (fun k hk => (HOWN.out.base_le hk).2)
      have hB1 := HBR.out.trans (HOWN.out.grown hg1 HBYN.out.hB.2)
      have HCO := Lib.hid (compact_own ho1 (by rw [sortedI_length]; have := HZLN.out; omega))
      have HO1 := Lib.hid ho1
      have HBY1 := Lib.hid hby1
      have HB1 := Lib.hid hB1
      clear ho1 hg1 hby1 hB1
      go_wp2_with fail
      refine HCO.out.mono ?_
      rintro e2 w2 ⟨u2, rfl, ho2, hg2⟩
      have hby2 := HBY1.out.kept hg2 (fun k hk => (HO1.out.base_le hk).2)
      have hB2 := HB1.out.trans (HO1.out.grown hg2 HBY1.out.hB.2)
      have HO2 := Lib.hid ho2
      have HBY2 := Lib.hid hby2
      have HB2' := Lib.hid hB2
      clear ho2 hg2 hby2 hB2
      go_wp2
      go_ret2
      exact ⟨mb, u2, V, rfl, HO2.out, HBY2.out, HB2'.out⟩
end Go.Proofs.Ytoiephmngdecaaa
