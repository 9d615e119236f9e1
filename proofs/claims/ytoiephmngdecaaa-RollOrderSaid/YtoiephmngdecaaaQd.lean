/- Proved here, one behind the other: Proved here: the contract of an entry's Right, at every entry; Plain laws: how many blocks lie in a zone, when an entry is set; Proved here: the contract of the map's Set; Proved here: the contract of the map's Set, at every block and entry; the one of New; Proved here: plain facts on what a log says: its records, which counts, and how a map is rolled on; Small laws, over any program: slices of ints that are read; Small laws, over any program: what an argument's cells look like, by its type: arrays, structs and slices of whatever make; Small laws, over any program: a slice of things of n cells each, read thing by thing; Small laws, over any program: rows of things of n cells each, that the call itself made: read, appended to; Proved here: small laws on the roller's things in memory: what was found, records, choices, the roller itself; Proved here: whether two records are a pair (mates); small laws on records in memory; Proved here: small laws on the roller in memory, and what leaves it as it is; Laws over any program: a struct that is built out of its parts, whatever they are; where a guard asks for it, or there is none; Proved here: a block lies where it was found (the roller's lie); Proved here: the roller's own cells are written: its open group, its count; Proved here: a Trim, or a Move, takes effect (the roller's other). -/
import Derived.OpenShut
import Derived.DataReads
import Derived.ChangeArms
import Derived.Deep.Slices
import Derived.WideShapes
import Derived.Deep.MidRow
import Derived.Laws.Tables
import Derived.Laws.CopyOwn
import Derived.LoopTactic
import Derived.Test.YtoiephmngdecaaaQa
import Derived.Test.YtoiephmngdecaaaQb
import Derived.Test.YtoiephmngdecaaaQc
namespace Go.Proofs.Ytoiephmngdecaaa
open Go.RowKit Go.Rv
set_option linter.unusedVariables false
def E64 (e : BE) : Prop := (Lit.int .i64 e.st).wf = true ∧ (Lit.int .i64 e.z).wf = true ∧ (Lit.int .i64 e.m).wf = true ∧ (Lit.int .i64 e.o).wf = true ∧ (Lit.int .i64 e.q).wf = true ∧ (Lit.int .i64 e.s).wf = true
def beLits (e : BE) : List Lit := [.int .i64 e.st, .int .i64 e.z, .int .i64 e.m, .int .i64 e.o, .int .i64 e.q, .int .i64 e.s]
theorem beLits_inj {a b : BE} (h : beLits a = beLits b) : a = b := by
  obtain ⟨a0, a1, a2, a3, a4, a5⟩ := a
  obtain ⟨b0, b1, b2, b3, b4, b5⟩ := b
  simp only [beLits, List.cons.injEq, Lit.int.injEq, true_and, and_true] at h
  obtain ⟨rfl, rfl, rfl, rfl, rfl, rfl⟩ := h
  rfl
theorem eq_be (a b : BE) (ha : E64 a) (hb : E64 b) (w : World) : (Op.equalIn 10000 54 (.agg (BEC a)) (.agg (BEC b))).run Try.prog w = .ok (decide (a = b)) w := by
  have k1 : Try.prog.cellsOf 3 = 1 := by kernel_rfl
  have k6 : Try.prog.cellsOf 54 = 6 := by kernel_rfl
  have i : ∀ n : Int, (Lit.int .i64 n).wf = true → Try.prog.keyLits 2 3 [.int .i64 n] = some [.int .i64 n] := by
    intro n hn
    simp only [Program.keyLits, Try.underlying3, hn, and_self, if_true]
  have hl : ∀ e : BE, E64 e → Try.prog.keyLits 3 54 (BEC e).toList = some (beLits e) := by
    intro e hn
    obtain ⟨n0, n1, n2, n3, n4, n5⟩ := hn
    have hlen : (BEC e).toList.length = 6 := rfl
    unfold Program.keyLits
    simp only [Try.underlying54, k6, hlen]
    rw [if_pos ⟨trivial, by decide +kernel⟩]
    simp only [List.mapM_cons, List.mapM_nil, k1, BEC, List.drop, List.take, i _ n0, i _ n1, i _ n2, i _ n3, i _ n4, i _ n5]
    simp [beLits]
  have hF : ∀ e : BE, (Value.agg (BEC e)).formed Try.prog 54 = true := by
    intro e
    simp only [Value.formed, Try.underlying54, BEC_size]
    kernel_rfl
  exact eq_deep (by kernel_rfl) (hF a) (hF b) (hl a ha) (hl b hb) _ (by rw [decide_eq_true_eq]; exact ⟨fun h => by rw [h], beLits_inj⟩) w
set_option maxRecDepth 100000 in
set_option maxHeartbeats 2000000 in
theorem bright_none (C D : Array Value) (e : BE) (b : Bool) (w : World) (hC : C = BEC e)
    (hcs : (e.st = 0 ∨ e.st = 2) ∧ (∀ W, (Op.equalIn 10000 54 (.agg (BEC e)) (.agg (BEC ⟨e.st, 0, 0, 0, 0, 0⟩))).run Try.prog W = .ok b W)) :
    Calls Try.prog 21 #[.agg C, .agg D] w fun x w' => x = .returned (.bool b) ∧ Below w.heap.size w w' := by
  subst hC
  have hz := (zero_of_info Try.infoEnt).1
  obtain ⟨W0, hW0, hB0, hE, hG, hz0⟩ := bright_setup (BEC e) D w
  have k0 : W0.cell? ⟨w.heap.size, 0, none⟩ = some (.int .i64 e.st) := (cell_of_row _ _ _ _ _ _ hE).trans rfl
  have HW0 := Lib.hid hW0
  have HIE := Lib.hid (esize e)
  obtain ⟨hst, hq⟩ := hcs
  have HQ := Lib.hid hq
  clear hW0 hG hq
  have HE := Lib.hid hE
  rcases hst with h0 | h0
  · have t1 : (e.st == 0) = true := by simp [h0]
    clear h0
    go_enter Try.func21, Try.ntmps21
    go_upto_region 1 with (fail)
    rw [HW0.out]
    go_wp2_with (first | (refine wpList_row_on (by rfl) 54 _ rfl w.heap.size rfl 54 _ _ _ HE.out Try.underlying54 rfl HIE.out ?_) | (refine wpList_eql_on (by rfl) 54 54 _ _ rfl (BEC e) (BEC ⟨e.st, 0, 0, 0, 0, 0⟩) rfl rfl (by kernel_rfl) b HQ.out ?_))
    go_ret
    exact ⟨rfl, hB0⟩
  · have t1 : (e.st == 0) = false := by simp [h0]
    have t2 : (e.st == 2) = true := by simp [h0]
    clear h0
    go_enter Try.func21, Try.ntmps21
    go_upto_region 1 with (fail)
    rw [HW0.out]
    go_wp2_with (first | (refine wpList_row_on (by rfl) 54 _ rfl w.heap.size rfl 54 _ _ _ HE.out Try.underlying54 rfl HIE.out ?_) | (refine wpList_eql_on (by rfl) 54 54 _ _ rfl (BEC e) (BEC ⟨e.st, 0, 0, 0, 0, 0⟩) rfl rfl (by kernel_rfl) b HQ.out ?_))
    go_ret
    exact ⟨rfl, hB0⟩
set_option maxRecDepth 100000 in
set_option maxHeartbeats 2000000 in
theorem bright_other (e : BE) (D : Array Value) (w : World) (h0 : e.st ≠ 0) (h1 : e.st ≠ 1) (h2 : e.st ≠ 2) :
    Calls Try.prog 21 #[.agg (BEC e), .agg D] w fun x w' => x = .returned (.bool false) ∧ Below w.heap.size w w' := by
  obtain ⟨W0, hW0, hB0, hE, hG, hz0⟩ := bright_setup (BEC e) D w
  have k0 : W0.cell? ⟨w.heap.size, 0, none⟩ = some (.int .i64 e.st) := (cell_of_row _ _ _ _ _ _ hE).trans rfl
  have HW0 := Lib.hid hW0
  have t0 : (e.st == 0) = false := by simpa using h0
  have t1 : (e.st == 1) = false := by simpa using h1
  have t2 : (e.st == 2) = false := by simpa using h2
  clear hW0 hG hE h0 h1 h2
  generalize BEC e = C at *
  go_enter Try.func21, Try.ntmps21
  go_upto_region 1 with (fail)
  rw [HW0.out]
  go_wp2
  go_ret
  exact ⟨rfl, hB0⟩
theorem bright_any (g : Geo.G) (e : BE) (w : World) (hr : Geo.right g = true) (hn : E64 e) :
    Calls Try.prog 21 #[.agg (BEC e), .agg (GC g)] w fun x w' => x = .returned (.bool (beRight g e)) ∧ Below w.heap.size w w' := by
  have hs := ((Geo.right_iff g).1 hr).1
  unfold beRight
  by_cases h0 : e.st = 0 ∨ e.st = 2
  · rw [if_pos h0]
    exact bright_none (BEC e) (GC g) e _ w rfl ⟨h0, fun W => eq_be e ⟨e.st, 0, 0, 0, 0, 0⟩ hn ⟨hn.1, rfl, rfl, rfl, rfl, rfl⟩ W⟩
  · rw [if_neg h0]
    by_cases h1 : e.st = 1
    · rw [if_pos h1]
      have hC : ∀ (W : World), W.heap[w.heap.size]? = some (.cells (BEC e) 54 (0, 0)) → W.cell? ⟨w.heap.size, 0, none⟩ = some (.int .i64 1) ∧ W.cell? ⟨w.heap.size, 1, none⟩ = some (.int .i64 e.z) ∧ W.cell? ⟨w.heap.size, 2, none⟩ = some (.int .i64 e.m) ∧ W.cell? ⟨w.heap.size, 3, none⟩ = some (.int .i64 e.o) ∧ W.cell? ⟨w.heap.size, 4, none⟩ = some (.int .i64 e.q) ∧ W.cell? ⟨w.heap.size, 5, none⟩ = some (.int .i64 e.s) := fun W hh => by
        have h2 := (cell_of_row _ _ _ _ _ _ hh).trans (show (BEC e)[0]? = some (.int .i64 1) by simp [BEC, h1])
        exact ⟨h2, (cell_of_row _ _ _ _ _ _ hh).trans rfl, (cell_of_row _ _ _ _ _ _ hh).trans rfl, (cell_of_row _ _ _ _ _ _ hh).trans rfl, (cell_of_row _ _ _ _ _ _ hh).trans rfl, (cell_of_row _ _ _ _ _ _ hh).trans rfl⟩
      have H1 := fun (W : World) => gholds_any g e.z e.o W
      have H2 := fun (W : World) => gholds_any g e.m e.o W
      have D1 := fun (W : World) => gdomain_any g e.z W hs
      have D2 := fun (W : World) => gdomain_any g e.m W hs
      unfold beLive
      cases c1 : holdsG g e.z e.o
      · rw [c1] at H1
        exact bright_1 (BEC e) (GC g) e.z e.m e.o e.q e.s 0 0 w hC gsize H1
      rw [c1] at H1
      cases c2 : holdsG g e.m e.o
      · rw [c2] at H2
        exact bright_2 (BEC e) (GC g) e.z e.m e.o e.q e.s 0 0 w hC gsize H1 H2
      rw [c2] at H2
      by_cases c3 : domOf g e.z = domOf g e.m
      · rw [show decide (domOf g e.z ≠ domOf g e.m) = false from decide_eq_false (fun h => h c3)]
        rw [← c3] at D2
        exact bright_3 (BEC e) (GC g) e.z e.m e.o e.q e.s _ 0 w hC gsize H1 H2 D1 D2
      rw [show decide (domOf g e.z ≠ domOf g e.m) = true from decide_eq_true c3]
      have t3 : (domOf g e.z == domOf g e.m) = false := by simpa using c3
      cases c4 : decide (1 ≤ e.q)
      · exact bright_4 (BEC e) (GC g) e.z e.m e.o e.q e.s _ _ w hC gsize H1 H2 D1 D2 t3 c4
      cases c5 : decide (e.q ≤ 281474976710655)
      · exact bright_5 (BEC e) (GC g) e.z e.m e.o e.q e.s _ _ w hC gsize H1 H2 D1 D2 t3 c4 c5
      cases c6 : decide (0 ≤ e.s)
      · exact bright_6 (BEC e) (GC g) e.z e.m e.o e.q e.s _ _ w hC gsize H1 H2 D1 D2 t3 c4 c5 c6
      cases c7 : decide (e.s ≤ 4294967295)
      · exact bright_7 (BEC e) (GC g) e.z e.m e.o e.q e.s _ _ w hC gsize H1 H2 D1 D2 t3 c4 c5 c6 c7
      · exact bright_8 (BEC e) (GC g) e.z e.m e.o e.q e.s _ _ w hC gsize H1 H2 D1 D2 t3 c4 c5 c6 c7
    · rw [if_neg h1]
      exact bright_other e (GC g) w (fun h => h0 (.inl h)) h1 (fun h => h0 (.inr h))
end Go.Proofs.Ytoiephmngdecaaa
namespace Go.Proofs.Ytoiephmngdecaaa
open Go.RowKit Go.Rv
set_option linter.unusedVariables false
/-- does an entry lie in a zone? -/
def hits (e : BE) (j : Int) : Bool := e.st == 1 && (e.z == j || e.m == j)
def liveN (es : List BE) (j : Int) : Nat := (es.filter fun e => hits e j).length
/-- how many lie in each of n zones -/
def liveL (n : Nat) (es : List BE) : List Int := (List.range n).map fun (j : Nat) => (liveN es j : Int)
theorem liveL_length (n : Nat) (es : List BE) : (liveL n es).length = n := by simp [liveL]
theorem liveL_at {n : Nat} {es : List BE} {j : Nat} (h : j < n) : (liveL n es)[j]? = some (liveN es j : Int) := by
  simp only [liveL, List.getElem?_map, List.getElem?_range h, Option.map_some]
theorem liveN_set : ∀ (es : List BE) (k : Nat) (old e : BE) (j : Int), es[k]? = some old → (liveN (es.set k e) j : Int) = liveN es j - (if hits old j then 1 else 0) + (if hits e j then 1 else 0)
  | [], k, old, e, j, h => by simp at h
  | x :: es, 0, old, e, j, h => by
    simp at h
    subst h
    simp only [List.set_cons_zero, liveN, List.filter_cons]
    cases h1 : hits x j <;> cases h2 : hits e j <;> simp <;> omega
  | x :: es, k + 1, old, e, j, h => by
    have ih := liveN_set es k old e j (by simpa using h)
    simp only [List.set_cons_succ, liveN, List.filter_cons] at ih ⊢
    cases h1 : hits x j <;> simp <;> omega
theorem liveN_le (es : List BE) (j : Int) : liveN es j ≤ es.length := List.length_filter_le _ _
/-- counted into two lists -/
def addE (lv : List Int) (e : BE) (b : Int) : List Int := if e.st = 1 then (lv.set e.z.toNat (lv.getD e.z.toNat 0 + b)).set e.m.toNat ((lv.set e.z.toNat (lv.getD e.z.toNat 0 + b)).getD e.m.toNat 0 + b) else lv
theorem addE_length (lv : List Int) (e : BE) (b : Int) : (addE lv e b).length = lv.length := by
  unfold addE
  split <;> simp
/-- an entry whose zones, if it lives, are two of n -/
def ZOk (n : Nat) (e : BE) : Prop := e.st = 1 → (0 ≤ e.z ∧ e.z < n) ∧ (0 ≤ e.m ∧ e.m < n) ∧ e.z ≠ e.m
theorem addE_at {n : Nat} {lv : List Int} {e : BE} {b : Int} (hl : lv.length = n) (hz : ZOk n e) {j : Nat} (hj : j < n) : (addE lv e b).getD j 0 = lv.getD j 0 + if hits e j then b else 0 := by
  unfold addE
  by_cases h1 : e.st = 1
  · obtain ⟨⟨hz1, hz2⟩, ⟨hm1, hm2⟩, hne⟩ := hz h1
    rw [if_pos h1]
    obtain ⟨z, hzz⟩ := Int.eq_ofNat_of_zero_le hz1
    obtain ⟨m, hmm⟩ := Int.eq_ofNat_of_zero_le hm1
    have hzm : z ≠ m := fun e => hne (by rw [hzz, hmm, e])
    have hh : hits e j = (z == j || m == j) := by
      simp only [hits, h1, hzz, hmm, beq_self_eq_true, Bool.true_and]
      rw [Bool.eq_iff_iff]
      simp
      omega
    rw [hzz, hmm, hh]
    simp only [Int.toNat_natCast]
    have e1 : z < lv.length := by omega
    have e2 : m < lv.length := by omega
    have e3 : j < lv.length := by omega
    simp only [List.getD_eq_getElem?_getD, List.getElem?_set, List.length_set]
    by_cases a1 : m = j
    · subst a1
      have : z ≠ m := hzm
      simp [this, e2]
    · by_cases a2 : z = j
      · subst a2
        simp [a1, e1]
      · simp [a1, a2]
  · rw [if_neg h1]
    have : hits e j = false := by simp [hits, h1]
    rw [this]
    simp
/-- a block is set: the lists follow -/
theorem liveL_step {n : Nat} {es : List BE} {k : Nat} {old e : BE} (hk : es[k]? = some old) (ho : ZOk n old) (he : ZOk n e) : addE (addE (liveL n es) old (-1)) e 1 = liveL n (es.set k e) := by
  have hl1 : (addE (liveL n es) old (-1)).length = n := by rw [addE_length, liveL_length]
  apply List.ext_getElem?
  intro j
  by_cases hj : j < n
  · have e1 : j < (addE (addE (liveL n es) old (-1)) e 1).length := by rw [addE_length, hl1]; exact hj
    have h1 := addE_at (b := 1) hl1 he hj
    have h2 := addE_at (b := -1) (liveL_length n es) ho hj
    have h3 := liveN_set es k old e j hk
    have h4 : (liveL n es).getD j 0 = (liveN es j : Int) := by rw [List.getD_eq_getElem?_getD, liveL_at hj]; rfl
    rw [liveL_at hj, List.getElem?_eq_getElem e1]
    have h5 : (addE (addE (liveL n es) old (-1)) e 1).getD j 0 = (addE (addE (liveL n es) old (-1)) e 1)[j] := by rw [List.getD_eq_getElem?_getD, List.getElem?_eq_getElem e1]; rfl
    rw [← h5, h1, h2, h4, h3]
    congr 1
    split <;> split <;> omega
  · rw [List.getElem?_eq_none (by rw [addE_length, hl1]; omega), List.getElem?_eq_none (by rw [liveL_length]; omega)]
theorem zok_of_right {g : Geo.G} {e : BE} (hs : Geo.Small g) (h : beRight g e = true) : ZOk (g.d * g.z).toNat e := by
  intro h1
  unfold beRight at h
  rw [if_neg (by omega), if_pos h1] at h
  unfold beLive holdsG at h
  simp only [Bool.and_eq_true, decide_eq_true_eq, Geo.inB_iff] at h
  obtain ⟨⟨-, ⟨a1, a2⟩, -⟩, ⟨-, ⟨b1, b2⟩, -⟩, hd, -⟩ := h
  have hb := Geo.dz_bd hs
  refine ⟨⟨a1, by omega⟩, ⟨b1, by omega⟩, fun e' => hd (by rw [e'])⟩
theorem st_of_right {g : Geo.G} {e : BE} (h : beRight g e = true) : e.st = 0 ∨ e.st = 1 ∨ e.st = 2 := by
  unfold beRight at h
  split at h
  · rename_i h0; omega
  · split at h
    · rename_i h1; exact .inr (.inl h1)
    · cases h
theorem zero_right (g : Geo.G) : beRight g BE.zero = true := by unfold beRight BE.zero; simp
/-- a map that may be: as many entries as there are blocks, each of them right; its counts are theirs -/
structure MapOk (g : Geo.G) (es : List BE) : Prop where
  len : (es.length : Int) = g.b
  ok : ∀ e ∈ es, beRight g e = true ∧ E64 e
theorem MapOk.set {g : Geo.G} {es : List BE} (h : MapOk g es) {e : BE} (he : beRight g e = true) (hn : E64 e) (k : Nat) : MapOk g (es.set k e) :=
  ⟨by rw [List.length_set]; exact h.len, fun x hx => by
    rcases List.mem_or_eq_of_mem_set hx with h1 | h1
    · exact h.ok x h1
    · rw [h1]; exact ⟨he, hn⟩⟩
end Go.Proofs.Ytoiephmngdecaaa
namespace Go.Proofs.Ytoiephmngdecaaa
open Go.RowKit Go.Rv
set_option linter.unusedVariables false
theorem flatE_set : ∀ (es : List BE) (k : Nat) (e : BE), k < es.length → flatE (es.set k e) = ((((((flatE es).set (k * 6) (.int .i64 e.st)).set (k * 6 + 1) (.int .i64 e.z)).set (k * 6 + 2) (.int .i64 e.m)).set (k * 6 + 3) (.int .i64 e.o)).set (k * 6 + 4) (.int .i64 e.q)).set (k * 6 + 5) (.int .i64 e.s)
  | [], k, e, h => by simp at h
  | x :: es, 0, e, h => by
    show (BEC e).toList ++ flatE es = _
    simp only [flatE, List.flatMap_cons, BEC]
    rfl
  | x :: es, k + 1, e, h => by
    have ih := flatE_set es k e (by simpa using h)
    have hx : (BEC x).toList = [.int .i64 x.st, .int .i64 x.z, .int .i64 x.m, .int .i64 x.o, .int .i64 x.q, .int .i64 x.s] := rfl
    show (BEC x).toList ++ flatE (es.set k e) = ((((((((BEC x).toList ++ flatE es).set _ _).set _ _).set _ _).set _ _).set _ _).set _ _)
    rw [ih, hx, show (k + 1) * 6 = k * 6 + 6 by omega, show k * 6 + 6 + 1 = k * 6 + 1 + 6 by omega, show k * 6 + 6 + 2 = k * 6 + 2 + 6 by omega, show k * 6 + 6 + 3 = k * 6 + 3 + 6 by omega, show k * 6 + 6 + 4 = k * 6 + 4 + 6 by omega, show k * 6 + 6 + 5 = k * 6 + 5 + 6 by omega]
    rfl
/-- the entry's six cells, stored -/
def putE (w : World) (le k : Nat) (e : BE) : World := (((((w.setCell ⟨le, k * 6, none⟩ (.int .i64 e.st)).setCell ⟨le, k * 6 + 1, none⟩ (.int .i64 e.z)).setCell ⟨le, k * 6 + 2, none⟩ (.int .i64 e.m)).setCell ⟨le, k * 6 + 3, none⟩ (.int .i64 e.o)).setCell ⟨le, k * 6 + 4, none⟩ (.int .i64 e.q)).setCell ⟨le, k * 6 + 5, none⟩ (.int .i64 e.s)
theorem putE_only (w : World) (le k : Nat) (e : BE) : Only [le] w (putE w le k e) :=
  ((((((Only.refl [le] w).setCell (.inl (by simp)) _).setCell (.inl (by simp)) _).setCell (.inl (by simp)) _).setCell (.inl (by simp)) _).setCell (.inl (by simp)) _).setCell (.inl (by simp)) _
theorem BmIs.putE {w : World} {p le ll ce cl : Nat} {g : Geo.G} {es : List BE} {lv : List Int} (h : BmIs w p le ll ce cl g es lv) {k : Nat} (hk : k < es.length) (e : BE) :
    BmIs (putE w le k e) p le ll ce cl g (es.set k e) lv := by
  obtain ⟨hn1, hn2, hn3⟩ := h.ne
  have hO := putE_only w le k e
  obtain ⟨L, hL, hL2⟩ := h.he
  obtain ⟨V, hV, hV2⟩ := h.hl
  have hlen : (es.set k e).length = es.length := List.length_set
  refine ⟨by rw [hlen]; exact hO.get h.hp (by simpa using hn1), ?_, ⟨V, hO.get hV (by simpa using Ne.symm hn3), hV2⟩, by rw [hlen]; exact h.h1, h.h2⟩
  have s1 := heap_setCell_same w le (k * 6) _ _ (.int .i64 e.st) hL
  have s2 := heap_setCell_same _ le (k * 6 + 1) _ _ (.int .i64 e.z) s1
  have s3 := heap_setCell_same _ le (k * 6 + 2) _ _ (.int .i64 e.m) s2
  have s4 := heap_setCell_same _ le (k * 6 + 3) _ _ (.int .i64 e.o) s3
  have s5 := heap_setCell_same _ le (k * 6 + 4) _ _ (.int .i64 e.q) s4
  have s6 := heap_setCell_same _ le (k * 6 + 5) _ _ (.int .i64 e.s) s5
  refine ⟨_, s6, ?_⟩
  rw [hlen, flatE_set es k e hk]
  simp only [Array.toList_setIfInBounds, List.take_set, hL2]
theorem BmIs.ent_free {w : World} {p le ll ce cl : Nat} {g : Geo.G} {es : List BE} {lv : List Int} (h : BmIs w p le ll ce cl g es lv) (j : Nat) : w.frozen? ⟨le, j, none⟩ = false := by
  obtain ⟨L, hL, -⟩ := h.he
  exact frozen_of_row _ _ _ _ _ hL
set_option maxRecDepth 100000 in
set_option maxHeartbeats 2000000 in
theorem bset_out (w : World) (p le ll ce cl : Nat) (g : Geo.G) (es : List BE) (lv : List Int) (h : BmIs w p le ll ce cl g es lv) (k : Int) (e : BE) (hk : k < 0 ∨ (es.length : Int) ≤ k) :
    Calls Try.prog 25 #[.pointer (some ⟨p, 0, none⟩), .int .i64 k, .agg (BEC e)] w fun x w' => x = .returned (.int .i64 13) ∧ Below w.heap.size w w' := by
  have hz := (zero_of_info Try.infoEnt).1
  have hal := (Below.refl w.heap.size w).alloc (Nat.le_refl _) (.cells (BEC e) 54)
  have HG := Lib.hid (bget_out _ p le ll ce cl g es lv (h.below hal) k hk)
  have HIE := Lib.hid (fun e => esize e)
  have HON := Lib.hid (fun e => BEC_one e)
  clear h hk
  generalize BEC e = C at *
  go_enter Try.func25, Try.ntmps25
  go_wp2_with fail
  refine HG.out.mono ?_
  rintro x w1 ⟨rfl, hB1⟩
  have hB2 := hal.trans (hB1.mono hal.size)
  have hB3 := hB2.alloc hB2.size (.cells (BEC BE.zero) 54)
  clear hal hB1
  go_wp2_with (refine wpList_store_row rfl 54 _ _ rfl w1.heap.size (BEC BE.zero) rfl rfl 54 (BEC BE.zero) (heap_alloc_new w1 _) (HIE.out _) rfl (HON.out _) ?_; rw [World.setRow_alloc_new])
  go_ret
  exact ⟨rfl, hB3⟩
set_option maxRecDepth 100000 in
set_option maxHeartbeats 4000000 in
theorem bset_bad (w : World) (p le ll ce cl : Nat) (g : Geo.G) (es : List BE) (lv : List Int) (h : BmIs w p le ll ce cl g es lv) (k : Nat) (e old : BE) (hk : es[k]? = some old) (hn : es.length ≤ 100000) (hrt : ∀ W, Calls Try.prog 21 #[.agg (BEC e), .agg (GC g)] W fun x w' => x = .returned (.bool false) ∧ Below W.heap.size W w') :
    Calls Try.prog 25 #[.pointer (some ⟨p, 0, none⟩), .int .i64 (k : Nat), .agg (BEC e)] w fun x w' => x = .returned (.int .i64 10) ∧ Below w.heap.size w w' := by
  have hz := (zero_of_info Try.infoEnt).1
  have hal := (Below.refl w.heap.size w).alloc (Nat.le_refl _) (.cells (BEC e) 54)
  have hnew := heap_alloc_new w (.cells (BEC e) 54)
  obtain ⟨W0, hW0⟩ : ∃ W0, w.alloc (.cells (BEC e) 54) = W0 := ⟨_, rfl⟩
  rw [hW0] at hal hnew
  have HG := Lib.hid (bget_in _ p le ll ce cl g es lv (h.below hal) k old hk hn)
  have HIE := Lib.hid (fun e => esize e)
  have HON := Lib.hid (fun e => BEC_one e)
  have HW0 := Lib.hid hW0
  have HRT := Lib.hid hrt
  have HB := Lib.hid h
  have hkl0 : k < es.length := (List.getElem?_eq_some_iff.1 hk).1
  have hce := h.h1
  have HKO := Lib.hid hk
  have zW := (Array.getElem?_eq_some_iff.1 hnew).1
  clear hW0 hrt h
  go_enter Try.func25, Try.ntmps25
  go_upto_region 1 with (fail)
  rw [HW0.out]
  go_wp2_with fail
  refine HG.out.mono ?_
  rintro x w1 ⟨rfl, hB1⟩
  have hB2 := hal.trans (hB1.mono hal.size)
  obtain ⟨W2, hW2⟩ : ∃ W2, w1.alloc (.cells (BEC old) 54) = W2 := ⟨_, rfl⟩
  have hbb : Below w1.heap.size w1 W2 := by rw [← hW2]; exact (Below.refl w1.heap.size w1).alloc (Nat.le_refl _) _
  have hO2 : Below w.heap.size w W2 := hB2.trans (hbb.mono hB2.size)
  have hE2 := (hbb.block w.heap.size (by have := hB1.size; omega)).trans ((hB1.block w.heap.size zW).trans hnew)
  have hD2 : W2.heap[w1.heap.size]? = some (.cells (BEC old) 54 (0, 0)) := by rw [← hW2]; exact heap_alloc_new w1 _
  have HW2 := Lib.hid hW2
  have HE2 := Lib.hid hE2
  have HD2 := Lib.hid hD2
  have z2 := (Array.getElem?_eq_some_iff.1 hD2).1
  have z1 := hB1.size
  clear hal hnew hB1 hW2 hE2 hD2 hbb hB2 HG hk
  generalize hC : BEC e = C at *
  have HC := Lib.hid hC
  clear hC
  go_upto_region 2 with (refine wpList_store_row rfl 54 _ _ rfl w1.heap.size (BEC old) rfl rfl 54 (BEC BE.zero) (heap_alloc_new w1 _) (HIE.out _) rfl (HON.out _) ?_; rw [World.setRow_alloc_new])
  rw [HW2.out]
  clear HW2
  go_wp2
  have HIC : Hid ((Try.prog.info? 54).map (·.size) = some C.size) := Lib.hid (by rw [← HC.out]; exact HIE.out _)
  have HRC := HRT
  refine wp_region_conf2 7 [Fact.eq ?rax0, Fact.eq ?rax1, Fact.eq ?rax2, Fact.eq ?rax3, Fact.eq (.agg (GC g)), Fact.eq ?rax5, Fact.eq ?rax6] ?raA (by kernel_rfl) (by kernel_rfl) ?rahA ?raho ?rahend
  case rahA =>
    intro vv
    simp only [putRules, Nat.reduceAdd]
    rfl
  case raho =>
    refine ⟨?_, ?_, ?_, ?_, ?_, ?_, ?_, trivial⟩
    · intro vv W K hB hd HK
      simp only [confRules] at HK
      clear hd
      have hT := (hB.block w.heap.size (by omega)).trans HE2.out
      go_wp2_with (refine wpList_row_on (by rfl) 54 _ rfl w.heap.size rfl 54 _ _ _ hT Try.underlying54 rfl HIC.out ?_)
      refine HK.out _ _ (Below.refl _ _) ?_
      rfl
    · intro vv W K hB hd HK
      simp only [confRules] at HK
      clear hd
      go_wp2
      refine HK.out _ _ (Below.refl _ _) ?_
      rfl
    · intro vv W K hB hd HK
      simp only [confRules] at hd HK
      have h1 := hd
      clear hd
      simp only [h1] at HK ⊢
      clear h1
      go_wp2
      refine HK.out _ _ (Below.refl _ _) ?_
      rfl
    · intro vv W K hB hd HK
      simp only [confRules] at hd HK
      have h2 := hd
      clear hd
      simp only [h2] at HK ⊢
      clear h2
      go_wp2
      refine HK.out _ _ (Below.refl _ _) ?_
      rfl
    · intro vv W K hB hd HK
      simp only [confRules] at hd HK
      have h3 := hd
      clear hd
      simp only [h3] at HK ⊢
      clear h3
      have hbA := HB.out.below (hO2.trans (hB.mono hO2.size))
      obtain ⟨c0, c1, c2, c3, c4, c5⟩ := hbA.geo
      clear hbA
      go_wp2
      refine HK.out _ _ (Below.refl _ _) ?_
      rfl
    · intro vv W K hB hd HK
      simp only [confRules] at hd HK
      obtain ⟨h0, h4⟩ := hd
      simp only [h0, h4] at HK ⊢
      clear h0 h4
      go_wp2_with (refine (HRC.out _).mono ?_; rintro e w9 ⟨rfl, hB9⟩)
      refine HK.out _ _ hB9 ?_
      rfl
    · intro vv W K hB hd HK
      simp only [confRules] at hd HK
      have h5 := hd
      clear hd
      simp only [h5] at HK ⊢
      clear h5
      go_wp2
      refine HK.out _ _ (Below.refl _ _) ?_
      rfl
  case rahend =>
    intro vv W hB hf
    have e6 := hf 6 (by decide)
    simp only [endRules] at e6
    simp only [e6, dropRules]
    clear hf e6
    go_wp2
    go_ret
    exact ⟨rfl, hO2.trans (hB.mono hO2.size)⟩
set_option maxRecDepth 100000 in
set_option maxHeartbeats 4000000 in
theorem bset_ok (w : World) (p le ll ce cl : Nat) (g : Geo.G) (es : List BE) (lv : List Int) (h : BmIs w p le ll ce cl g es lv) (k : Nat) (e old : BE) (hk : es[k]? = some old) (hn : es.length ≤ 100000) (lv1 lv2 : List Int) (hrt : ∀ W, Calls Try.prog 21 #[.agg (BEC e), .agg (GC g)] W fun x w' => x = .returned (.bool true) ∧ Below W.heap.size W w')
    (hc1 : ∀ W, BmIs W p le ll ce cl g es lv → Calls Try.prog 48 #[.pointer (some ⟨p, 0, none⟩), .agg (BEC old), .int .i64 (-1)] W fun x w' => (∃ v, x = .returned v) ∧ BmIs w' p le ll ce cl g es lv1 ∧ Only [ll] W w')
    (hc2 : ∀ W, BmIs W p le ll ce cl g es lv1 → Calls Try.prog 48 #[.pointer (some ⟨p, 0, none⟩), .agg (BEC e), .int .i64 1] W fun x w' => (∃ v, x = .returned v) ∧ BmIs w' p le ll ce cl g es lv2 ∧ Only [ll] W w') :
    Calls Try.prog 25 #[.pointer (some ⟨p, 0, none⟩), .int .i64 (k : Nat), .agg (BEC e)] w fun x w' => x = .returned (.int .i64 0) ∧ BmIs w' p le ll ce cl g (es.set k e) lv2 ∧ Only [le, ll] w w' := by
  have hz := (zero_of_info Try.infoEnt).1
  have hal := (Below.refl w.heap.size w).alloc (Nat.le_refl _) (.cells (BEC e) 54)
  have hnew := heap_alloc_new w (.cells (BEC e) 54)
  obtain ⟨W0, hW0⟩ : ∃ W0, w.alloc (.cells (BEC e) 54) = W0 := ⟨_, rfl⟩
  rw [hW0] at hal hnew
  have HG := Lib.hid (bget_in _ p le ll ce cl g es lv (h.below hal) k old hk hn)
  have HIE := Lib.hid (fun e => esize e)
  have HON := Lib.hid (fun e => BEC_one e)
  have HW0 := Lib.hid hW0
  have HRT := Lib.hid hrt
  have HB := Lib.hid h
  have hkl0 : k < es.length := (List.getElem?_eq_some_iff.1 hk).1
  have hce := h.h1
  have HKO := Lib.hid hk
  have zW := (Array.getElem?_eq_some_iff.1 hnew).1
  clear hW0 hrt h
  go_enter Try.func25, Try.ntmps25
  go_upto_region 1 with (fail)
  rw [HW0.out]
  go_wp2_with fail
  refine HG.out.mono ?_
  rintro x w1 ⟨rfl, hB1⟩
  have hB2 := hal.trans (hB1.mono hal.size)
  obtain ⟨W2, hW2⟩ : ∃ W2, w1.alloc (.cells (BEC old) 54) = W2 := ⟨_, rfl⟩
  have hbb : Below w1.heap.size w1 W2 := by rw [← hW2]; exact (Below.refl w1.heap.size w1).alloc (Nat.le_refl _) _
  have hO2 : Below w.heap.size w W2 := hB2.trans (hbb.mono hB2.size)
  have hE2 := (hbb.block w.heap.size (by have := hB1.size; omega)).trans ((hB1.block w.heap.size zW).trans hnew)
  have hD2 : W2.heap[w1.heap.size]? = some (.cells (BEC old) 54 (0, 0)) := by rw [← hW2]; exact heap_alloc_new w1 _
  have HW2 := Lib.hid hW2
  have HE2 := Lib.hid hE2
  have HD2 := Lib.hid hD2
  have z2 := (Array.getElem?_eq_some_iff.1 hD2).1
  have z1 := hB1.size
  clear hal hnew hB1 hW2 hE2 hD2 hbb hB2 HG hk
  generalize hC : BEC e = C at *
  have HC := Lib.hid hC
  clear hC
  go_upto_region 2 with (refine wpList_store_row rfl 54 _ _ rfl w1.heap.size (BEC old) rfl rfl 54 (BEC BE.zero) (heap_alloc_new w1 _) (HIE.out _) rfl (HON.out _) ?_; rw [World.setRow_alloc_new])
  rw [HW2.out]
  clear HW2
  go_wp2
  have HIC : Hid ((Try.prog.info? 54).map (·.size) = some C.size) := Lib.hid (by rw [← HC.out]; exact HIE.out _)
  have HRC := HRT
  refine wp_region_conf2 7 [Fact.eq ?rax0, Fact.eq ?rax1, Fact.eq ?rax2, Fact.eq ?rax3, Fact.eq (.agg (GC g)), Fact.eq ?rax5, Fact.eq ?rax6] ?raA (by kernel_rfl) (by kernel_rfl) ?rahA ?raho ?rahend
  case rahA =>
    intro vv
    simp only [putRules, Nat.reduceAdd]
    rfl
  case raho =>
    refine ⟨?_, ?_, ?_, ?_, ?_, ?_, ?_, trivial⟩
    · intro vv W K hB hd HK
      simp only [confRules] at HK
      clear hd
      have hT := (hB.block w.heap.size (by omega)).trans HE2.out
      go_wp2_with (refine wpList_row_on (by rfl) 54 _ rfl w.heap.size rfl 54 _ _ _ hT Try.underlying54 rfl HIC.out ?_)
      refine HK.out _ _ (Below.refl _ _) ?_
      rfl
    · intro vv W K hB hd HK
      simp only [confRules] at HK
      clear hd
      go_wp2
      refine HK.out _ _ (Below.refl _ _) ?_
      rfl
    · intro vv W K hB hd HK
      simp only [confRules] at hd HK
      have h1 := hd
      clear hd
      simp only [h1] at HK ⊢
      clear h1
      go_wp2
      refine HK.out _ _ (Below.refl _ _) ?_
      rfl
    · intro vv W K hB hd HK
      simp only [confRules] at hd HK
      have h2 := hd
      clear hd
      simp only [h2] at HK ⊢
      clear h2
      go_wp2
      refine HK.out _ _ (Below.refl _ _) ?_
      rfl
    · intro vv W K hB hd HK
      simp only [confRules] at hd HK
      have h3 := hd
      clear hd
      simp only [h3] at HK ⊢
      clear h3
      have hbA := HB.out.below (hO2.trans (hB.mono hO2.size))
      obtain ⟨c0, c1, c2, c3, c4, c5⟩ := hbA.geo
      clear hbA
      go_wp2
      refine HK.out _ _ (Below.refl _ _) ?_
      rfl
    · intro vv W K hB hd HK
      simp only [confRules] at hd HK
      obtain ⟨h0, h4⟩ := hd
      simp only [h0, h4] at HK ⊢
      clear h0 h4
      go_wp2_with (refine (HRC.out _).mono ?_; rintro e w9 ⟨rfl, hB9⟩)
      refine HK.out _ _ hB9 ?_
      rfl
    · intro vv W K hB hd HK
      simp only [confRules] at hd HK
      have h5 := hd
      clear hd
      simp only [h5] at HK ⊢
      clear h5
      go_wp2
      refine HK.out _ _ (Below.refl _ _) ?_
      rfl
  case rahend =>
    intro vv W hB hf
    have e6 := hf 6 (by decide)
    simp only [endRules] at e6
    simp only [e6, dropRules]
    clear hf e6
    have hb4 := HB.out.below (hO2.trans (hB.mono hO2.size))
    have hOa : Only [le, ll] w W := Only.of_below (hO2.trans (hB.mono hO2.size))
    have hD4 := (hB.block w1.heap.size z2).trans HD2.out
    have hE4 := (hB.block w.heap.size (by omega)).trans HE2.out
    obtain ⟨hl1, hl2, hl3⟩ := HB.out.lt
    have HC1 := Lib.hid (hc1 W hb4)
    have HC2 := Lib.hid hc2
    have zW4 := hB.size
    clear hc1 hc2 hb4 hB hO2
    go_wp2_with (refine wpList_row_on (by rfl) 54 _ rfl w1.heap.size rfl 54 _ _ _ hD4 Try.underlying54 rfl (HIE.out _) ?_)
    refine HC1.out.mono ?_
    rintro x w5 ⟨⟨v5, rfl⟩, hb5, hO5⟩
    have hE5 := hO5.get hE4 (by simp; omega)
    have HC3 := Lib.hid (HC2.out w5 hb5)
    have hOb := hOa.trans (hO5.mono (T := [le, ll]) (by simp))
    have z5 := hO5.size
    clear hb5 hO5 hOa HC1 HC2 hE4 hD4
    go_wp2_with (refine wpList_row_on (by rfl) 54 _ rfl w.heap.size rfl 54 _ _ _ hE5 Try.underlying54 rfl HIC.out ?_)
    refine HC3.out.mono ?_
    rintro x w6 ⟨⟨v6, rfl⟩, hb6, hO6⟩
    have hE6 := hO6.get hE5 (by simp; omega)
    have hOc := hOb.trans (hO6.mono (T := [le, ll]) (by simp))
    have z6 := hO6.size
    have HB6 := Lib.hid hb6
    have HE6 := Lib.hid hE6
    clear hb6 hO6 hE6 hE5 hOb
    go_wp2
    have hkl : k < es.length := hkl0
    refine wp_region_conf2 7 [Fact.eq ?rbx0, Fact.eq ?rbx1, Fact.eq ?rbx2, Fact.eq ?rbx3, Fact.eq ?rbx4, Fact.eq ?rbx5, Fact.eq ?rbx6] ?rbA (by kernel_rfl) (by kernel_rfl) ?rbhA ?rbho ?rbhend
    case rbhA =>
      intro vv
      simp only [putRules, Nat.reduceAdd]
      rfl
    case rbho =>
      refine ⟨?_, ?_, ?_, ?_, ?_, ?_, ?_, trivial⟩
      · intro vv W K hB hd HK
        simp only [confRules] at HK
        clear hd
        go_wp2
        refine HK.out _ _ (Below.refl _ _) ?_
        rfl
      · intro vv W K hB hd HK
        simp only [confRules] at hd HK
        have h0 := hd
        clear hd
        simp only [h0] at HK ⊢
        clear h0
        go_wp2
        refine HK.out _ _ (Below.refl _ _) ?_
        rfl
      · intro vv W K hB hd HK
        simp only [confRules] at hd HK
        have h1 := hd
        clear hd
        simp only [h1] at HK ⊢
        clear h1
        go_wp2
        refine HK.out _ _ (Below.refl _ _) ?_
        rfl
      · intro vv W K hB hd HK
        simp only [confRules] at hd HK
        have h2 := hd
        clear hd
        simp only [h2] at HK ⊢
        clear h2
        have hbA := HB6.out.below hB
        obtain ⟨c6, c7⟩ := hbA.cells
        clear hbA
        go_wp2
        refine HK.out _ _ (Below.refl _ _) ?_
        rfl
      · intro vv W K hB hd HK
        simp only [confRules] at HK
        clear hd
        go_wp2
        refine HK.out _ _ (Below.refl _ _) ?_
        rfl
      · intro vv W K hB hd HK
        simp only [confRules] at HK
        clear hd
        have hT := (hB.block w.heap.size (by omega)).trans HE6.out
        go_wp2_with (refine wpList_row_on (by rfl) 54 _ rfl w.heap.size rfl 54 _ _ _ hT Try.underlying54 rfl HIC.out ?_)
        refine HK.out _ _ (Below.refl _ _) ?_
        rfl
      · intro vv W K hB hd HK
        simp only [confRules] at hd HK
        obtain ⟨h3, h4, h0, h1, h2, _, _, h5⟩ := hd
        simp only [h3, h4, h0, h1, h2, h5] at HK ⊢
        clear h3 h4 h0 h1 h2 h5
        go_wp2
        refine HK.out _ _ (Below.refl _ _) ?_
        rfl
    case rbhend =>
      intro vv W hB hf
      have e5 := hf 5 (by decide)
      have e6 := hf 6 (by decide)
      simp only [endRules] at e5 e6
      simp only [e5, e6, dropRules]
      clear hf e5 e6
      have hb8 := HB6.out.below hB
      obtain ⟨e0, e1, e2, e3, e4, e5⟩ := hb8.ent HKO.out
      have hfz := hb8.ent_free
      have hpe := hb8.putE hkl0 e
      have hOd := (hOc.trans (Only.of_below hB)).trans ((putE_only W le k e).mono (T := [le, ll]) (by simp))
      obtain ⟨f0, f1, f2, f3, f4, f5⟩ : W.frozen? ⟨le, k * 6, none⟩ = false ∧ W.frozen? ⟨le, k * 6 + 1, none⟩ = false ∧ W.frozen? ⟨le, k * 6 + 2, none⟩ = false ∧ W.frozen? ⟨le, k * 6 + 3, none⟩ = false ∧ W.frozen? ⟨le, k * 6 + 4, none⟩ = false ∧ W.frozen? ⟨le, k * 6 + 5, none⟩ = false := ⟨hfz _, hfz _, hfz _, hfz _, hfz _, hfz _⟩
      have HPE := Lib.hid hpe
      have HOD := Lib.hid hOd
      rw [← HC.out]
      clear hb8 hfz hpe hOd
      unfold BEC
      go_wp2
      go_ret
      exact ⟨rfl, HPE.out, HOD.out⟩
end Go.Proofs.Ytoiephmngdecaaa
namespace Go.Proofs.Ytoiephmngdecaaa
open Go.RowKit Go.Rv
set_option linter.unusedVariables false
theorem bcnt_any (w : World) (p le ll ce cl : Nat) (g : Geo.G) (es : List BE) (lv : List Int) (h : BmIs w p le ll ce cl g es lv) (e : BE) (b : Int) (hz : ZOk lv.length e) (hb : -1 ≤ b ∧ b ≤ 1) (hv : ∀ x ∈ lv, -99999 ≤ x ∧ x ≤ 99999) (hn : lv.length ≤ 100000) :
    Calls Try.prog 48 #[.pointer (some ⟨p, 0, none⟩), .agg (BEC e), .int .i64 b] w fun x w' => (∃ v, x = .returned v) ∧ BmIs w' p le ll ce cl g es (addE lv e b) ∧ Only [ll] w w' := by
  by_cases h1 : e.st = 1
  · obtain ⟨⟨hz1, hz2⟩, ⟨hm1, hm2⟩, hne⟩ := hz h1
    obtain ⟨st, z, m, o, q, s⟩ := e
    simp only at h1 hz1 hz2 hm1 hm2
    subst h1
    obtain ⟨z, rfl⟩ := Int.eq_ofNat_of_zero_le hz1
    obtain ⟨m, rfl⟩ := Int.eq_ofNat_of_zero_le hm1
    have hzl : z < lv.length := by omega
    have hml : m < lv.length := by omega
    have ex : lv[z]? = some lv[z] := List.getElem?_eq_getElem hzl
    have hx := hv lv[z] (List.getElem_mem hzl)
    have hml' : m < (lv.set z (lv[z] + b)).length := by rw [List.length_set]; exact hml
    have ey : (lv.set z (lv[z] + b))[m]? = some (lv.set z (lv[z] + b))[m] := List.getElem?_eq_getElem hml'
    have hy : -100000 ≤ (lv.set z (lv[z] + b))[m] ∧ (lv.set z (lv[z] + b))[m] ≤ 100000 := by
      rw [List.getElem_set]
      split
      · omega
      · have := hv lv[m] (List.getElem_mem hml)
        omega
    have ha : addE lv ⟨1, (z : Nat), (m : Nat), o, q, s⟩ b = (lv.set z (lv[z] + b)).set m ((lv.set z (lv[z] + b))[m] + b) := by
      unfold addE
      rw [if_pos rfl]
      simp only [Int.toNat_natCast]
      rw [show lv.getD z 0 = lv[z] by rw [List.getD_eq_getElem?_getD, ex]; rfl, show (lv.set z (lv[z] + b)).getD m 0 = (lv.set z (lv[z] + b))[m] by rw [List.getD_eq_getElem?_getD, ey]; rfl]
    rw [ha]
    exact bcnt_yes w p le ll ce cl g es lv h z m o q s b _ _ ex ey hb ⟨by omega, by omega⟩ hy hn
  · have ha : addE lv e b = lv := if_neg h1
    rw [ha]
    refine (bcnt_no w p e b (by simpa using h1)).mono ?_
    rintro x w' ⟨hx, hB⟩
    exact ⟨hx, h.below hB, Only.of_below hB⟩
/-- what Set answers, and what it leaves -/
def setErr (g : Geo.G) (es : List BE) (k : Int) (e : BE) : Int := if k < 0 ∨ (es.length : Int) ≤ k then 13 else if beRight g e = true then 0 else 10
def setEs (g : Geo.G) (es : List BE) (k : Int) (e : BE) : List BE := if k < 0 ∨ (es.length : Int) ≤ k then es else if beRight g e = true then es.set k.toNat e else es
def nz (g : Geo.G) : Nat := (g.d * g.z).toNat
theorem setEs_ok {g : Geo.G} {es : List BE} (h : MapOk g es) {e : BE} (hn : E64 e) (k : Int) : MapOk g (setEs g es k e) := by
  unfold setEs
  split
  · exact h
  · split
    · exact h.set (by assumption) hn _
    · exact h
theorem setEs_length (g : Geo.G) (es : List BE) (k : Int) (e : BE) : (setEs g es k e).length = es.length := by
  unfold setEs
  split
  · rfl
  · split
    · simp
    · rfl
theorem bset_any (w : World) (p le ll ce cl : Nat) (g : Geo.G) (es : List BE) (hr : Geo.right g = true) (hM : MapOk g es) (h : BmIs w p le ll ce cl g es (liveL (nz g) es)) (k : Int) (e : BE) (hn : E64 e) :
    Calls Try.prog 25 #[.pointer (some ⟨p, 0, none⟩), .int .i64 k, .agg (BEC e)] w fun x w' => x = .returned (.int .i64 (setErr g es k e)) ∧ BmIs w' p le ll ce cl g (setEs g es k e) (liveL (nz g) (setEs g es k e)) ∧ Only [le, ll] w w' := by
  have hs := ((Geo.right_iff g).1 hr).1
  have hes : es.length ≤ 256 := by have h1 := hM.len; have h2 := hs.2.2.2.1.2; omega
  have hnz : nz g ≤ 512 := by have := (Geo.dz_bd hs).2; unfold nz; omega
  unfold setErr setEs
  by_cases hk : k < 0 ∨ (es.length : Int) ≤ k
  · rw [if_pos hk, if_pos hk]
    refine (bset_out w p le ll ce cl g es _ h k e hk).mono ?_
    rintro x w' ⟨hx, hB⟩
    exact ⟨hx, h.below hB, Only.of_below hB⟩
  · rw [if_neg hk, if_neg hk]
    obtain ⟨j, rfl⟩ : ∃ j : Nat, k = j := ⟨k.toNat, by omega⟩
    have hj : j < es.length := by omega
    have hold : es[j]? = some es[j] := List.getElem?_eq_getElem hj
    have hR := fun (W : World) => bright_any g e W hr hn
    cases hb : beRight g e
    · rw [hb] at hR
      simp only [Bool.false_eq_true, if_false]
      refine (bset_bad w p le ll ce cl g es _ h j e _ hold (by omega) hR).mono ?_
      rintro x w' ⟨hx, hB⟩
      exact ⟨hx, h.below hB, Only.of_below hB⟩
    · rw [hb] at hR
      simp only [if_true, Int.toNat_natCast]
      have ho : ZOk (nz g) es[j] := zok_of_right hs (hM.ok _ (List.getElem_mem hj)).1
      have he : ZOk (nz g) e := zok_of_right hs hb
      have hst := liveL_step hold ho he
      have hlv : ∀ x ∈ liveL (nz g) es, 0 ≤ x ∧ x ≤ 256 := fun x hx => by
        simp only [liveL, List.mem_map, List.mem_range] at hx
        obtain ⟨a, ha, rfl⟩ := hx
        have := liveN_le es a
        omega
      have hlv1 : ∀ x ∈ addE (liveL (nz g) es) es[j] (-1), -99999 ≤ x ∧ x ≤ 99999 := fun x hx => by
        obtain ⟨i, hi, rfl⟩ := List.getElem_of_mem hx
        have hi' : i < nz g := by rw [addE_length, liveL_length] at hi; exact hi
        have h1 := addE_at (b := -1) (liveL_length (nz g) es) ho hi'
        rw [List.getD_eq_getElem?_getD, List.getElem?_eq_getElem hi] at h1
        simp only [Option.getD_some] at h1
        have h2 : (liveL (nz g) es).getD i 0 = (liveN es i : Int) := by rw [List.getD_eq_getElem?_getD, liveL_at hi']; rfl
        have h3 := liveN_le es i
        rw [h1, h2]
        split <;> omega
      refine (bset_ok w p le ll ce cl g es _ h j e _ hold (by omega) (addE (liveL (nz g) es) es[j] (-1)) (liveL (nz g) (es.set j e)) hR (fun W hW => ?_) (fun W hW => ?_))
      · exact bcnt_any W p le ll ce cl g es _ hW es[j] (-1) (by rw [liveL_length]; exact ho) (by omega) (fun x hx => by have := hlv x hx; omega) (by rw [liveL_length]; omega)
      · have := bcnt_any W p le ll ce cl g es _ hW e 1 (by rw [addE_length, liveL_length]; exact he) (by omega) hlv1 (by rw [addE_length, liveL_length]; omega)
        rwa [hst] at this
end Go.Proofs.Ytoiephmngdecaaa
namespace Go.Proofs.Ytoiephmngdecaaa
open Go.RowKit Go.Rv Frm
set_option linter.unusedVariables false
namespace Rl
/-- a frame, and where it was found -/
structure Fnd where
  zone : Int
  off : Int
  fr : Fr
/-- a record, and where it was found -/
structure Rec where
  e : En.E
  zone : Int
  off : Int
/-- the record that counts, and whether it is single -/
structure Ch where
  r : Rec
  single : Bool
/-- is it a record in a geometry? -/
def lies (g : Geo.G) (f : Fnd) (e : En.E) : Bool := holdsG g f.zone f.off && (holdsG g e.mate f.off && (decide (domOf g f.zone ≠ domOf g e.mate) && decide (e.block + max e.many 1 ≤ g.b)))
/-- the entry of a record -/
def recE (g : Geo.G) (epoch : Int) (f : Fnd) : Option En.E :=
  if (readE f.fr).2 = 0 ∧ f.fr.epoch = epoch ∧ f.fr.zone = f.zone ∧ f.fr.off = f.off ∧ lies g f (readE f.fr).1 = true then some (readE f.fr).1 else none
/-- a record from a number on -/
def recF (g : Geo.G) (epoch next : Int) (f : Fnd) : Option (Int × Rec) :=
  match recE g epoch f with
  | none => none
  | some e => if f.fr.seq < next then none else some (f.fr.seq, ⟨e, f.zone, f.off⟩)
/-- the records of a list, from a number on -/
def recs (g : Geo.G) (epoch next : Int) (l : List Fnd) : List (Int × Rec) := l.filterMap (recF g epoch next)
/-- those of a number -/
def atSeq (R : List (Int × Rec)) (s : Int) : List Rec := (R.filter fun x => decide (x.1 = s)).map (·.2)
def mates (a b : Rec) : Bool := decide (a.e.mate = b.zone) && (decide (b.e.mate = a.zone) && decide (a.off = b.off))
/-- the first of a pair -/
def firstPair : List Rec → Option Rec
  | [] => none
  | a :: r => if r.any (mates a) = true then some a else firstPair r
def rec0 : Rec := ⟨En.E.zero, 0, 0⟩
def choose (l : List Rec) : Ch :=
  match firstPair l with
  | some a => ⟨a, false⟩
  | none => ⟨l.headD rec0, true⟩
/-- a roller -/
structure St where
  es : List BE
  single : List Int
  applied : Int
  first : Int
  count : Int
  ol : List Ch
def beOf (seq : Int) (c : Ch) : BE := ⟨1, c.r.zone, c.r.e.mate, c.r.off, seq, (Crc.sum c.r.e.bytes : Nat)⟩
def lie (g : Geo.G) (st : St) (seq : Int) (c : Ch) : St := { st with es := setEs g st.es c.r.e.block (beOf seq c), single := st.single.set c.r.e.block.toNat (if c.single = true then 1 else 0) }
def lieAll (g : Geo.G) (first : Int) : List Ch → Nat → St → St
  | [], _, st => st
  | c :: r, i, st => lieAll g first r (i + 1) (lie g st (first + (i : Nat)) c)
def shut (st : St) : St := { st with first := 0, count := 0, ol := [] }
/-- a group is begun -/
def opened (st : St) (seq : Int) (e : En.E) : St := if e.first = seq then { st with first := seq, count := e.count, ol := [] } else st
/-- does it go on the group that is open? -/
def goesOn (st : St) (seq : Int) (e : En.E) : Bool := decide (e.first = st.first) && (decide (e.count = st.count) && decide (seq = st.first + (st.ol.length : Nat)))
def data (g : Geo.G) (st : St) (seq : Int) (c : Ch) : St :=
  let st1 := opened st seq c.r.e
  if goesOn st1 seq c.r.e = false then shut st1
  else if ((st1.ol.length + 1 : Nat) : Int) < c.r.e.count then { st1 with ol := st1.ol ++ [c] }
  else { shut (lieAll g st1.first (st1.ol ++ [c]) 0 st1) with applied := st1.applied + 1 }
/-- blocks are nothing -/
def trim (g : Geo.G) (b : Int) : Nat → St → St
  | 0, st => st
  | n + 1, st => trim g (b + 1) n { st with es := setEs g st.es b BE.zero, single := st.single.set b.toNat 0 }
def other (g : Geo.G) (st : St) (seq : Int) (c : Ch) : St :=
  let st1 := { shut st with applied := st.applied + 1 }
  if c.r.e.kind = 3 then lie g st1 seq c else trim g c.r.e.block c.r.e.many.toNat st1
def step (g : Geo.G) (st : St) (seq : Int) (c : Ch) : St := if c.r.e.kind = 1 then data g st seq c else other g st seq c
/-- after k numbers -/
def after (g : Geo.G) (R : List (Int × Rec)) (next : Int) (st : St) : Nat → St
  | 0 => st
  | k + 1 => step g (after g R next st k) (next + (k : Nat)) (choose (atSeq R (next + (k : Nat))))
/-- how many numbers in a row have records -/
def run (R : List (Int × Rec)) : Nat → Int → Nat
  | 0, _ => 0
  | n + 1, s => if (atSeq R s).isEmpty = true then 0 else run R n (s + 1) + 1
def runLen (R : List (Int × Rec)) (next : Int) : Nat := run R R.length next
theorem run_some (R : List (Int × Rec)) : ∀ n s k, k < run R n s → atSeq R (s + (k : Nat)) ≠ []
  | 0, s, k, h => by simp [run] at h
  | n + 1, s, k, h => by
    unfold run at h
    split at h
    · omega
    · rename_i hne
      cases k with
      | zero => intro he; rw [show s + ((0 : Nat) : Int) = s by omega] at he; exact hne (by simp [he])
      | succ k =>
        have := run_some R n (s + 1) k (by omega)
        rwa [show s + 1 + (k : Int) = s + ((k + 1 : Nat) : Int) by omega] at this
theorem run_le (R : List (Int × Rec)) : ∀ n s, run R n s ≤ n
  | 0, s => by simp [run]
  | n + 1, s => by
    unfold run
    split
    · omega
    · have := run_le R n (s + 1); omega
theorem run_none (R : List (Int × Rec)) : ∀ n s, run R n s < n → atSeq R (s + (run R n s : Nat)) = []
  | 0, s, h => by simp at h
  | n + 1, s, h => by
    unfold run at h ⊢
    split
    · rename_i he
      rw [show s + ((0 : Nat) : Int) = s by omega]
      simpa using he
    · rename_i hne
      rw [if_neg hne] at h
      have := run_none R n (s + 1) (by omega)
      rwa [show s + 1 + ((run R n (s + 1) : Nat) : Int) = s + ((run R n (s + 1) + 1 : Nat) : Int) by omega] at this
/-- of numbers that all have records there are as many records -/
theorem filled_le (s : Int) : ∀ (k : Nat) (R : List (Int × Rec)), (∀ j, j < k → atSeq R (s + (j : Nat)) ≠ []) → k ≤ R.length
  | 0, R, _ => Nat.zero_le _
  | k + 1, R, h => by
    have h1 := filled_le s k (R.filter fun x => decide (x.1 ≠ s + (k : Nat))) fun j hj => by
      have h2 := h j (by omega)
      intro he
      apply h2
      unfold atSeq at he ⊢
      rw [List.map_eq_nil_iff, List.filter_filter] at he
      rw [List.map_eq_nil_iff, ← he]
      apply List.filter_congr
      intro x _
      by_cases hx : x.1 = s + (j : Nat)
      · simp [hx]; omega
      · simp [hx]
    have h3 := h k (by omega)
    have h4 : (R.filter fun x => decide (x.1 = s + (k : Nat))) ≠ [] := fun he => h3 (by simp [atSeq, he])
    have h5 := List.length_pos_iff.2 h4
    have h6 : (R.filter fun x => decide (x.1 ≠ s + (k : Nat))).length + (R.filter fun x => decide (x.1 = s + (k : Nat))).length = R.length := by
      have : ∀ L : List (Int × Rec), (L.filter fun x => decide (x.1 ≠ s + (k : Nat))).length + (L.filter fun x => decide (x.1 = s + (k : Nat))).length = L.length := fun L => by
        induction L with
        | nil => rfl
        | cons x L ih =>
          by_cases hx : x.1 = s + (k : Nat)
          · simp [hx] at ih ⊢; omega
          · simp [hx] at ih ⊢; omega
      exact this R
    omega
theorem runLen_none (R : List (Int × Rec)) (next : Int) : atSeq R (next + (runLen R next : Nat)) = [] := by
  unfold runLen
  by_cases h : run R R.length next < R.length
  · exact run_none R _ _ h
  · have hle := run_le R R.length next
    have he : run R R.length next = R.length := by omega
    by_cases hn : atSeq R (next + (run R R.length next : Nat)) = []
    · exact hn
    · have := filled_le next (R.length + 1) R fun j hj => by
        by_cases hj2 : j < R.length
        · exact run_some R R.length next j (by omega)
        · have : j = run R R.length next := by omega
          rw [this]
          exact hn
      omega
theorem runLen_some {R : List (Int × Rec)} {next : Int} {k : Nat} (h : k < runLen R next) : atSeq R (next + (k : Nat)) ≠ [] := run_some R _ _ k h
theorem runLen_le (R : List (Int × Rec)) (next : Int) : runLen R next ≤ R.length := run_le R _ _
theorem recs_length (g : Geo.G) (epoch next : Int) (l : List Fnd) : (recs g epoch next l).length ≤ l.length := List.length_filterMap_le _ _
theorem atSeq_length (R : List (Int × Rec)) (s : Int) : (atSeq R s).length ≤ R.length := by
  unfold atSeq
  rw [List.length_map]
  exact List.length_filter_le _ _
theorem atSeq_snoc (R : List (Int × Rec)) (x : Int × Rec) (s : Int) : atSeq (R ++ [x]) s = if x.1 = s then atSeq R s ++ [x.2] else atSeq R s := by
  unfold atSeq
  rw [List.filter_append]
  by_cases h : x.1 = s <;> simp [h]
/-- the zones of records, sorted, each once -/
def zones (R : List (Int × Rec)) : List Int := R.map (·.2.zone)
/-- the blocks that are single -/
def singles : List Int → Nat → List Int
  | [], _ => []
  | n :: r, b => if 0 < n then (b : Nat) :: singles r (b + 1) else singles r (b + 1)
end Rl
end Go.Proofs.Ytoiephmngdecaaa
namespace Go.Rv
open Go.RowKit
/-- a slice whose elements are these ints -/
def Ints (w : World) (a : Option Addr) (l : List Int) : Prop :=
  (∀ c ∈ l, -9223372036854775808 ≤ c ∧ c ≤ 9223372036854775807) ∧ (l = [] ∨ ∃ b o, a = some ⟨b, o, none⟩ ∧ b < w.heap.size ∧ ∀ i, i < l.length → w.cell? ⟨b, o + i, none⟩ = some (.int .i64 (l.getD i 0)))
theorem Ints.nil (w : World) (a : Option Addr) : Ints w a [] := ⟨by simp, .inl rfl⟩
theorem Ints.below {w w' : World} {a : Option Addr} {l : List Int} (h : Ints w a l) (hb : Below w.heap.size w w') : Ints w' a l := by
  refine ⟨h.1, ?_⟩
  rcases h.2 with rfl | ⟨b, o, rfl, hlt, hc⟩
  · exact .inl rfl
  · exact .inr ⟨b, o, rfl, Nat.lt_of_lt_of_le hlt hb.size, fun i hi => by rw [hb.cell (by exact hlt)]; exact hc i hi⟩
theorem Ints.at {w : World} {a : Option Addr} {l : List Int} (h : Ints w a l) {k : Nat} (hk : k < l.length) : ∃ b o c, a = some ⟨b, o, none⟩ ∧ b < w.heap.size ∧ w.cell? ⟨b, o + k, none⟩ = some (.int .i64 c) ∧ -9223372036854775808 ≤ c ∧ c ≤ 9223372036854775807 ∧ l[k]? = some c := by
  rcases h.2 with rfl | ⟨b, o, rfl, hlt, hc⟩
  · simp at hk
  · have hm := h.1 _ (List.getElem_mem hk)
    refine ⟨b, o, l[k], rfl, hlt, ?_, hm.1, hm.2, List.getElem?_eq_getElem hk⟩
    rw [hc k hk, List.getD_eq_getElem?_getD, List.getElem?_eq_getElem hk]
    rfl
/-- a slice of ints that came in -/
theorem ints_of_row {w : World} {a : Option Addr} {len cap : Nat} {zs : List Int}
    (h : (a = none ∧ len = 0 ∧ cap = 0 ∧ zs = []) ∨ ∃ x, a = some x ∧ len ≤ cap ∧ cap ≤ maxLen ∧ zs.length = cap ∧ (∀ i, i < zs.length → w.cell? (x.add i) = some (.int .i64 (zs.getD i 0))) ∧ ∀ n ∈ zs, (Lit.int .i64 n).wf = true) :
    ∃ l : List Int, l.length = len ∧ Ints w a l ∧ (a = none → cap = 0) := by
  rcases h with ⟨rfl, rfl, rfl, rfl⟩ | ⟨x, rfl, hl, hm, hz, hcell, hwz⟩
  · exact ⟨[], rfl, Ints.nil _ _, fun _ => rfl⟩
  · refine ⟨zs.take len, by simp; omega, ⟨fun c hc => ?_, ?_⟩, fun e => by cases e⟩
    · have := hwz c (List.mem_of_mem_take hc)
      simp [Lit.wf, IntKind.min, IntKind.max, IntKind.signed, IntKind.bits] at this
      omega
    · by_cases h0 : len = 0
      · left; simp [h0]
      · right
        obtain ⟨b, o, spot⟩ := x
        have hc := hcell 0 (by omega)
        have hspot : spot = none := by simpa [Addr.add] using World.cell?_spot hc
        subst hspot
        refine ⟨b, o, rfl, ?_, fun i hi => ?_⟩
        · have := block_lt_of_cell hc
          simpa [Addr.add] using this
        · simp only [List.length_take] at hi
          have hc := hcell i (by omega)
          have hadd : (⟨b, o, none⟩ : Addr).add i = ⟨b, o + i, none⟩ := by unfold Addr.add; split <;> simp_all
          rw [hadd] at hc
          rw [hc]
          congr 2
          have hil : i < len := by omega
          simp [List.getD_eq_getElem?_getD, hil]
end Go.Rv
namespace Go.Rv
open Go.RowKit
/-- cells that read as a value of a type: numbers, bools, texts, arrays, structs and slices of them; of other types nothing is said -/
def Fits (P : Program) (w : World) : Nat → TypeId → List Value → Prop
  | 0, _, _ => True
  | f + 1, t, cs =>
    match P.underlying t with
    | some .bool => ∃ b, cs = [.bool b]
    | some (.int k) => ∃ n, cs = [.int k n] ∧ (Lit.int k n).wf = true
    | some .string => ∃ s, cs = [.string s] ∧ s.size ≤ maxLen
    | some (.slice e) => cs = [.slice none 0 0] ∨ ∃ a len cap, cs = [.slice (some a) len cap] ∧ len ≤ cap ∧ cap ≤ maxLen ∧ ∀ i, i < len → ∃ cs', cs'.length = P.cellsOf e ∧ (∀ j, j < P.cellsOf e → w.cell? ((a.add (i * P.cellsOf e)).add j) = cs'[j]?) ∧ Fits P w f e cs'
    | some (.struct fs) => cs.length = P.cellsOf t ∧ ∀ x ∈ fs.toList, Fits P w f x.type ((cs.drop x.offset).take (P.cellsOf x.type))
    | some (.array n e) => cs.length = P.cellsOf t ∧ ∀ i, i < n → Fits P w f e ((cs.drop (i * P.cellsOf e)).take (P.cellsOf e))
    | some (.pointer e) => cs = [.pointer none] ∨ ∃ a cs', cs = [.pointer (some a)] ∧ cs'.length = P.cellsOf e ∧ (∀ j, j < P.cellsOf e → w.cell? (a.add j) = cs'[j]?) ∧ Fits P w f e cs'
    | _ => True
theorem fits_of_trod {H : Type} {enc : TypeId × Value → H} {P : Program} {w : World} {base : Nat} {spare : Nat → Bool} {held : Bool} : ∀ (d : Nat) {fuel : Nat} {t : TypeId} {cs : List Value} {x : DataW H × List MemPlace}, DataW.trod enc P w base spare held fuel t cs = some x → Fits P w d t cs
  | 0, _, _, _, _, _ => trivial
  | d + 1, fuel, t, cs, x, h => by
    unfold Fits
    cases hu : P.underlying t with
    | none => trivial
    | some td =>
      cases td
      case bool => obtain ⟨b, hb, _⟩ := DataW.trod_bool hu h; exact ⟨b, hb⟩
      case int k => obtain ⟨n, hn, _, hw⟩ := DataW.trod_int hu h; exact ⟨n, hn, hw⟩
      case string => obtain ⟨n, hn, _, hw⟩ := DataW.trod_string hu h; exact ⟨n, hn, hw⟩
      case slice e =>
        rcases Go.Deep.open_slice hu h with ⟨h0, _⟩ | ⟨a, len, cap, m, n, D, Pl, hcs, _, h1, h2, hm, _, hi⟩
        · exact .inl h0
        · refine .inr ⟨a, len, cap, hcs, h1, h2, fun i hil => ?_⟩
          obtain ⟨cs', hc, ht⟩ := hi i (by rw [hm]; split <;> omega)
          obtain ⟨_, h5, h6⟩ := World.cells?_some hc
          exact ⟨cs', h5, h6, fits_of_trod d ht⟩
      case struct fs =>
        obtain ⟨xs, n, _, _, hl, hx, hf⟩ := DataW.trod_struct hu h
        refine ⟨hl, fun f hfm => ?_⟩
        obtain ⟨i, hi, rfl⟩ := List.getElem_of_mem hfm
        have hil : i < xs.length := by rw [hx]; simpa using hi
        have h2 := hf i (fs.toList[i]) (by simp)
        rw [List.getElem?_eq_getElem hil] at h2
        exact fits_of_trod d h2
      case array n e =>
        obtain ⟨xs, m, _, _, hl, hx, hf⟩ := DataW.trod_array hu h
        refine ⟨hl, fun i hi => ?_⟩
        have h2 := hf i hi
        rw [List.getElem?_eq_getElem (by omega)] at h2
        exact fits_of_trod d h2
      case pointer e =>
        rcases DataW.trod_pointer hu h with ⟨h0, _⟩ | ⟨a, cs', y, m, _, hcs, _, hc, ht⟩
        · exact .inl h0
        · obtain ⟨_, h5, h6⟩ := World.cells?_some hc
          exact .inr ⟨a, cs', hcs, h5, h6, fits_of_trod d ht⟩
      all_goals trivial
theorem fits_of_Trod {H : Type} {enc : TypeId × Value → H} {P : Program} {w : World} {base : Nat} {spare : Nat → Bool} {held : Bool} {t : TypeId} {v : Value} {x : DataW H} {p : List MemPlace} (d : Nat) (h : DataW.Trod enc P w base spare held t v x p) : Fits P w d t v.cells.toList :=
  let ⟨_, hf⟩ := h
  fits_of_trod d hf
section
variable {P : Program} {w : World} {d : Nat} {t e : TypeId} {cs : List Value}
theorem fits_bool (hu : P.underlying t = some .bool) (h : Fits P w (d + 1) t cs) : ∃ b, cs = [.bool b] := by
  unfold Fits at h; rw [hu] at h; exact h
theorem fits_int {k : IntKind} (hu : P.underlying t = some (.int k)) (h : Fits P w (d + 1) t cs) : ∃ n, cs = [.int k n] ∧ (Lit.int k n).wf = true := by
  unfold Fits at h; rw [hu] at h; exact h
theorem fits_string (hu : P.underlying t = some .string) (h : Fits P w (d + 1) t cs) : ∃ s, cs = [.string s] ∧ s.size ≤ maxLen := by
  unfold Fits at h; rw [hu] at h; exact h
theorem fits_slice (hu : P.underlying t = some (.slice e)) (h : Fits P w (d + 1) t cs) : cs = [.slice none 0 0] ∨ ∃ a len cap, cs = [.slice (some a) len cap] ∧ len ≤ cap ∧ cap ≤ maxLen ∧ ∀ i, i < len → ∃ cs', cs'.length = P.cellsOf e ∧ (∀ j, j < P.cellsOf e → w.cell? ((a.add (i * P.cellsOf e)).add j) = cs'[j]?) ∧ Fits P w d e cs' := by
  unfold Fits at h; rw [hu] at h; exact h
theorem fits_struct {fs : Array Field} (hu : P.underlying t = some (.struct fs)) (h : Fits P w (d + 1) t cs) : cs.length = P.cellsOf t ∧ ∀ x ∈ fs.toList, Fits P w d x.type ((cs.drop x.offset).take (P.cellsOf x.type)) := by
  unfold Fits at h; rw [hu] at h; exact h
theorem fits_array {n : Nat} (hu : P.underlying t = some (.array n e)) (h : Fits P w (d + 1) t cs) : cs.length = P.cellsOf t ∧ ∀ i, i < n → Fits P w d e ((cs.drop (i * P.cellsOf e)).take (P.cellsOf e)) := by
  unfold Fits at h; rw [hu] at h; exact h
theorem fits_pointer (hu : P.underlying t = some (.pointer e)) (h : Fits P w (d + 1) t cs) : cs = [.pointer none] ∨ ∃ a cs', cs = [.pointer (some a)] ∧ cs'.length = P.cellsOf e ∧ (∀ j, j < P.cellsOf e → w.cell? (a.add j) = cs'[j]?) ∧ Fits P w d e cs' := by
  unfold Fits at h; rw [hu] at h; exact h
end
theorem add_lit (b o i : Nat) : (⟨b, o, none⟩ : Addr).add i = ⟨b, o + i, none⟩ := by unfold Addr.add; split <;> simp_all
theorem list_of_forall {α : Type} {Q : Nat → α → Prop} : ∀ (n : Nat), (∀ i, i < n → ∃ x, Q i x) → ∃ xs : List α, xs.length = n ∧ ∀ i x, xs[i]? = some x → Q i x
  | 0, _ => ⟨[], rfl, fun i x h => by simp at h⟩
  | n + 1, h => by
    obtain ⟨xs, hl, hx⟩ := list_of_forall n fun i hi => h i (by omega)
    obtain ⟨y, hy⟩ := h n (by omega)
    refine ⟨xs ++ [y], by simp [hl], fun i x hi => ?_⟩
    rw [List.getElem?_append] at hi
    split at hi
    · exact hx i x hi
    · have : i = n := by
        have := (List.getElem?_eq_some_iff.1 hi).1
        simp at this
        omega
      subst this
      rw [hl, Nat.sub_self] at hi
      cases hi
      exact hy
/-- a slice that came in: its cells, element by element, at a plain address -/
theorem row_of_fits {P : Program} {w : World} {d : Nat} {t e : TypeId} {a : Option Addr} {len cap : Nat} (hu : P.underlying t = some (.slice e)) (hs : 0 < P.cellsOf e) (h : Fits P w (d + 1) t [.slice a len cap]) :
    len ≤ cap ∧ cap ≤ 9223372036854775807 ∧ (a = none → cap = 0) ∧ (len = 0 ∨ ∃ b o, a = some ⟨b, o, none⟩ ∧ b < w.heap.size ∧ ∀ i, i < len → ∃ cs : List Value, cs.length = P.cellsOf e ∧ (∀ j, j < P.cellsOf e → w.cell? ⟨b, o + i * P.cellsOf e + j, none⟩ = cs[j]?) ∧ Fits P w d e cs) := by
  rcases fits_slice hu h with h | ⟨ad, l, c, he, hl, hm, hi⟩
  · simp at h
    obtain ⟨rfl, rfl, rfl⟩ := h
    exact ⟨by omega, by omega, fun _ => rfl, .inl rfl⟩
  · simp at he
    obtain ⟨rfl, rfl, rfl⟩ := he
    unfold maxLen at hm
    refine ⟨hl, by omega, (fun e => by cases e), ?_⟩
    by_cases h0 : len = 0
    · exact .inl h0
    · right
      obtain ⟨b, o, spot⟩ := ad
      obtain ⟨cs0, h1, h2, _⟩ := hi 0 (by omega)
      have h2 := h2 0 hs
      rw [List.getElem?_eq_getElem (by omega)] at h2
      have hspot : spot = none := by simpa [Addr.add] using World.cell?_spot h2
      subst hspot
      refine ⟨b, o, rfl, by simpa [Addr.add] using block_lt_of_cell h2, fun i hil => ?_⟩
      obtain ⟨cs', h3, h4, h5⟩ := hi i hil
      refine ⟨cs', h3, fun j hj => ?_, h5⟩
      have := h4 j hj
      rw [add_lit, add_lit] at this
      exact this
theorem slice_of_fits {P : Program} {w : World} {d : Nat} {t e : TypeId} {v : Value} (hu : P.underlying t = some (.slice e)) (h : Fits P w (d + 1) t [v]) : ∃ a len cap, v = .slice a len cap := by
  rcases fits_slice hu h with h | ⟨ad, l, c, he, _⟩
  · simp at h; exact ⟨_, _, _, h⟩
  · simp at he; exact ⟨_, _, _, he⟩
theorem bytes_of_fits {P : Program} {w : World} {d : Nat} {t e : TypeId} {a : Option Addr} {len cap : Nat} (hu : P.underlying t = some (.slice e)) (he : P.underlying e = some (.int .u8)) (hs : P.cellsOf e = 1) (h : Fits P w (d + 2) t [.slice a len cap]) :
    ∃ l : List Nat, l.length = len ∧ Bytes w a l ∧ (a = none → cap = 0) ∧ len ≤ cap ∧ cap ≤ 9223372036854775807 := by
  obtain ⟨hl, hm, hn, hr⟩ := row_of_fits hu (by omega) h
  rcases hr with h0 | ⟨b, o, rfl, hlt, hi⟩
  · exact ⟨[], by simp [h0], Bytes.nil _ _, hn, hl, hm⟩
  · obtain ⟨l, hx1, hx2⟩ := list_of_forall (Q := fun i (x : Nat) => x < 256 ∧ w.cell? ⟨b, o + i, none⟩ = some (.int .u8 (x : Nat))) len fun i hil => by
      obtain ⟨cs, h1, h2, h3⟩ := hi i hil
      obtain ⟨n, rfl, hw⟩ := fits_int he h3
      simp [Lit.wf, IntKind.min, IntKind.max, IntKind.signed, IntKind.bits] at hw
      have := h2 0 (by omega)
      rw [hs] at this
      obtain ⟨m, rfl⟩ := Int.eq_ofNat_of_zero_le hw.1
      exact ⟨m, by omega, by simpa using this⟩
    refine ⟨l, hx1, ⟨fun c hc => ?_, .inr ⟨b, o, rfl, hlt, fun i hi => ?_⟩⟩, hn, hl, hm⟩
    · obtain ⟨i, hi, rfl⟩ := List.getElem_of_mem hc
      exact (hx2 i _ (List.getElem?_eq_getElem hi)).1
    · rw [(hx2 i _ (List.getElem?_eq_getElem hi)).2, List.getD_eq_getElem?_getD, List.getElem?_eq_getElem hi]
      rfl
end Go.Rv
namespace Go.Rv
open Go.RowKit
set_option linter.unusedVariables false
/-- a slice of things: each has n cells, those that X tells -/
def RowOf {α : Type} (w : World) (n : Nat) (X : α → Array Value) (Q : α → Prop) (a : Option Addr) (xs : List α) : Prop :=
  xs = [] ∨ ∃ b o, a = some ⟨b, o, none⟩ ∧ b < w.heap.size ∧ ∀ k x, xs[k]? = some x → (∀ j, j < n → w.cell? ⟨b, o + k * n + j, none⟩ = (X x)[j]?) ∧ Q x
theorem RowOf.nil {α : Type} (w : World) (n : Nat) (X : α → Array Value) (Q : α → Prop) (a : Option Addr) : RowOf w n X Q a [] := .inl rfl
theorem RowOf.at {α : Type} {w : World} {n : Nat} {X : α → Array Value} {Q : α → Prop} {a : Option Addr} {xs : List α} (h : RowOf w n X Q a xs) {k : Nat} {x : α} (hk : xs[k]? = some x) :
    ∃ b o, a = some ⟨b, o, none⟩ ∧ b < w.heap.size ∧ (∀ j, j < n → w.cell? ⟨b, o + k * n + j, none⟩ = (X x)[j]?) ∧ Q x := by
  rcases h with rfl | ⟨b, o, rfl, hlt, hc⟩
  · simp at hk
  · exact ⟨b, o, rfl, hlt, (hc k x hk).1, (hc k x hk).2⟩
theorem RowOf.only {α : Type} {S : List Nat} {w w' : World} {n : Nat} {X : α → Array Value} {Q : α → Prop} {a : Option Addr} {xs : List α} (h : RowOf w n X Q a xs) (hb : Only S w w') (hS : ∀ x, a = some x → x.block ∉ S) : RowOf w' n X Q a xs := by
  rcases h with rfl | ⟨b, o, rfl, hlt, hc⟩
  · exact .inl rfl
  · refine .inr ⟨b, o, rfl, Nat.lt_of_lt_of_le hlt hb.size, fun k x hk => ⟨fun j hj => ?_, (hc k x hk).2⟩⟩
    rw [← (hc k x hk).1 j hj]
    exact World.cell?_of_block (hb.block b hlt (hS _ rfl))
theorem RowOf.below {α : Type} {w w' : World} {n : Nat} {X : α → Array Value} {Q : α → Prop} {a : Option Addr} {xs : List α} (h : RowOf w n X Q a xs) (hb : Below w.heap.size w w') : RowOf w' n X Q a xs :=
  h.only (Only.of_below (S := []) hb) (by simp)
theorem RowOf.all {α : Type} {w : World} {n : Nat} {X : α → Array Value} {Q : α → Prop} {a : Option Addr} {xs : List α} (h : RowOf w n X Q a xs) : ∀ x ∈ xs, Q x := by
  intro x hx
  obtain ⟨k, hk⟩ := List.getElem?_of_mem hx
  obtain ⟨-, -, -, -, -, hq⟩ := h.at hk
  exact hq
theorem rowOf_of_fits {α : Type} {P : Program} {w : World} {d : Nat} {t e : TypeId} {a : Option Addr} {len cap : Nat} (n : Nat) (X : α → Array Value) (Q : α → Prop) (hu : P.underlying t = some (.slice e)) (hn : P.cellsOf e = n) (h0 : 0 < n)
    (hX : ∀ cs, cs.length = n → Fits P w d e cs → ∃ x, cs = (X x).toList ∧ Q x) (h : Fits P w (d + 1) t [.slice a len cap]) : ∃ xs : List α, xs.length = len ∧ RowOf w n X Q a xs ∧ len ≤ cap ∧ cap ≤ 9223372036854775807 ∧ (a = none → cap = 0) := by
  obtain ⟨hc1, hc2, hc3, hr⟩ := row_of_fits hu (by omega) h
  rcases hr with h0 | ⟨b, o, rfl, hlt, hi⟩
  · exact ⟨[], by simp [h0], .inl rfl, by omega, by omega, by assumption⟩
  · obtain ⟨xs, hx1, hx2⟩ := list_of_forall (Q := fun i (x : α) => (∀ j, j < n → w.cell? ⟨b, o + i * n + j, none⟩ = (X x)[j]?) ∧ Q x) len fun i hil => by
      obtain ⟨cs, h1, h2, h3⟩ := hi i hil
      rw [hn] at h1 h2
      obtain ⟨x, rfl, hq⟩ := hX cs h1 h3
      exact ⟨x, fun j hj => by rw [h2 j hj, Array.getElem?_toList], hq⟩
    exact ⟨xs, hx1, .inr ⟨b, o, rfl, hlt, hx2⟩, by omega, by omega, by assumption⟩
end Go.Rv
namespace Go.Rv
open Go.RowKit
set_option linter.unusedVariables false
/-- the cells of things, one behind the other -/
def flatM {α : Type} (X : α → Array Value) (xs : List α) : List Value := xs.flatMap fun x => (X x).toList
theorem flatM_app {α : Type} (X : α → Array Value) (xs ys : List α) : flatM X (xs ++ ys) = flatM X xs ++ flatM X ys := by simp [flatM]
theorem flatM_one {α : Type} (X : α → Array Value) (x : α) : flatM X [x] = (X x).toList := by simp [flatM]
theorem flatM_length {α : Type} {n : Nat} {X : α → Array Value} : ∀ {xs : List α}, (∀ x ∈ xs, (X x).size = n) → (flatM X xs).length = xs.length * n
  | [], _ => by simp [flatM]
  | x :: xs, h => by
    have ih := flatM_length (X := X) (xs := xs) fun y hy => h y (by simp [hy])
    have h1 := h x (by simp)
    simp only [flatM, List.flatMap_cons, List.length_append, List.length_cons, Array.length_toList] at ih ⊢
    rw [ih, h1, Nat.add_mul, Nat.one_mul, Nat.add_comm]
theorem flatM_at {α : Type} {n : Nat} {X : α → Array Value} : ∀ {xs : List α}, (∀ x ∈ xs, (X x).size = n) → ∀ {k j : Nat} {x : α}, xs[k]? = some x → j < n → (flatM X xs)[k * n + j]? = (X x)[j]?
  | [], _, _, _, _, h, _ => by simp at h
  | y :: ys, h, 0, j, x, hk, hj => by
    simp at hk
    subst hk
    have h1 := h y (by simp)
    simp only [flatM, List.flatMap_cons, Nat.zero_mul, Nat.zero_add]
    rw [List.getElem?_append_left (by rw [Array.length_toList]; omega), Array.getElem?_toList]
  | y :: ys, h, k + 1, j, x, hk, hj => by
    have ih := flatM_at (X := X) (xs := ys) (fun z hz => h z (by simp [hz])) (k := k) (j := j) (x := x) (by simpa using hk) hj
    have h1 := h y (by simp)
    simp only [flatM, List.flatMap_cons] at ih ⊢
    rw [List.getElem?_append_right (by rw [Array.length_toList, h1, Nat.add_mul]; omega), Array.length_toList, h1, show (k + 1) * n + j - n = k * n + j by rw [Nat.add_mul]; omega]
    exact ih
/-- what kind of things: each has n cells, one value each -/
structure Kin {α : Type} (n : Nat) (X : α → Array Value) (Q : α → Prop) : Prop where
  size : ∀ x, Q x → (X x).size = n
  one : ∀ x, Q x → (X x).all (·.oneCell') = true
/-- a row of things of the call's own -/
def OwnM {α : Type} (w : World) (e : TypeId) (n : Nat) (X : α → Array Value) (Q : α → Prop) (base : Nat) (v : Value) (xs : List α) : Prop := w.ownsRow base e n v xs.length (flatM X xs) ∧ ∀ x ∈ xs, Q x
theorem OwnM.nil {α : Type} (w : World) (e : TypeId) (n : Nat) (X : α → Array Value) (Q : α → Prop) (base : Nat) : OwnM w e n X Q base (.slice none 0 0) [] := ⟨World.ownsRow_nil _ _ _ _, by simp⟩
theorem OwnM.shape {α : Type} {w : World} {e : TypeId} {n : Nat} {X : α → Array Value} {Q : α → Prop} {base : Nat} {v : Value} {xs : List α} (h : OwnM w e n X Q base v xs) (hK : Kin n X Q) :
    ∃ a cap, v = .slice a xs.length cap ∧ RowOf w n X Q a xs ∧ (a = none → cap = 0) ∧ xs.length ≤ cap ∧ cap ≤ 9223372036854775807 ∧ (∀ x, a = some x → base ≤ x.block ∧ x.block < w.heap.size ∧ v.ownBlock = some x.block) := by
  obtain ⟨⟨hl, hr⟩, hq⟩ := h
  rcases hr with ⟨rfl, hn⟩ | ⟨g, cap, cur, rfl, hb, hg, hnc, hcm, hcs, htake⟩
  · have h0 : xs = [] := List.eq_nil_of_length_eq_zero hn
    subst h0
    exact ⟨none, 0, rfl, .inl rfl, fun _ => rfl, by simp, by omega, fun x hx => (by cases hx)⟩
  · have hlt := (Array.getElem?_eq_some_iff.1 hg).1
    refine ⟨some ⟨g, 0, none⟩, cap, rfl, .inr ⟨g, 0, rfl, hlt, fun k x hk => ⟨fun j hj => ?_, hq x (List.mem_of_getElem? hk)⟩⟩, fun e => (by cases e), hnc, by unfold maxLen at hcm; omega, fun x hx => (by cases hx; exact ⟨hb, hlt, rfl⟩)⟩
    have hkl := (List.getElem?_eq_some_iff.1 hk).1
    rw [Nat.zero_add, cell_of_row _ _ _ _ _ _ hg, ← flatM_at (fun y hy => hK.size y (hq y hy)) hk hj, ← htake, List.getElem?_take, if_pos, Array.getElem?_toList]
    calc k * n + j < k * n + n := by omega
      _ = (k + 1) * n := by rw [Nat.add_mul, Nat.one_mul]
      _ ≤ xs.length * n := Nat.mul_le_mul_right n hkl
theorem OwnM.kept {α : Type} {w w' : World} {e : TypeId} {n : Nat} {X : α → Array Value} {Q : α → Prop} {base : Nat} {v : Value} {xs : List α} (h : OwnM w e n X Q base v xs) {row : Option Nat} (hg : w.grownBy w' row) (hne : v.ownBlock = none ∨ v.ownBlock ≠ row) : OwnM w' e n X Q base v xs := ⟨h.1.kept hg hne, h.2⟩
theorem OwnM.below {α : Type} {w w' : World} {e : TypeId} {n : Nat} {X : α → Array Value} {Q : α → Prop} {base : Nat} {v : Value} {xs : List α} (h : OwnM w e n X Q base v xs) (hb : Below w.heap.size w w') : OwnM w' e n X Q base v xs :=
  h.kept (grownBy_of_below hb none) (by cases v.ownBlock <;> simp)
theorem OwnM.only {α : Type} {S : List Nat} {w w' : World} {e : TypeId} {n : Nat} {X : α → Array Value} {Q : α → Prop} {base : Nat} {v : Value} {xs : List α} (h : OwnM w e n X Q base v xs) (hb : Only S w w') (hS : ∀ k, v.ownBlock = some k → k ∉ S) : OwnM w' e n X Q base v xs := by
  obtain ⟨⟨h1, hr⟩, hl⟩ := h
  refine ⟨⟨h1, ?_⟩, hl⟩
  rcases hr with hr | ⟨g, cap, cur, rfl, hg, hh, r⟩
  · exact .inl hr
  · exact .inr ⟨g, cap, cur, rfl, hg, (hb.block g (Array.getElem?_eq_some_iff.1 hh).1 (hS g rfl)).trans hh, r⟩
theorem OwnM.mono {α : Type} {w : World} {e : TypeId} {n : Nat} {X : α → Array Value} {Q : α → Prop} {base base' : Nat} {v : Value} {xs : List α} (h : OwnM w e n X Q base v xs) (hb : base' ≤ base) : OwnM w e n X Q base' v xs := by
  obtain ⟨⟨h1, hr⟩, hl⟩ := h
  refine ⟨⟨h1, ?_⟩, hl⟩
  rcases hr with hr | ⟨g, cap, cur, hv, hg, r⟩
  · exact .inl hr
  · exact .inr ⟨g, cap, cur, hv, by omega, r⟩
theorem OwnM.base_le {α : Type} {w : World} {e : TypeId} {n : Nat} {X : α → Array Value} {Q : α → Prop} {base : Nat} {v : Value} {xs : List α} (h : OwnM w e n X Q base v xs) {k : Nat} (hk : v.ownBlock = some k) : base ≤ k ∧ ∃ C, w.heap[k]? = some (.cells C e (0, 0)) := by
  rcases h.1.2 with ⟨rfl, _⟩ | ⟨g, cap, cur, rfl, hg, hh, r⟩
  · simp [Value.ownBlock] at hk
  · simp [Value.ownBlock] at hk
    subst hk
    exact ⟨hg, cur, hh⟩
theorem OwnM.grown {α : Type} {w w' : World} {e : TypeId} {n : Nat} {X : α → Array Value} {Q : α → Prop} {base : Nat} {v : Value} {xs : List α} (h : OwnM w e n X Q base v xs) (hg : w.grownBy w' v.ownBlock) (hb : base ≤ w.heap.size) : Below base w w' :=
  Below.of_grown hg hb fun k hk => (h.base_le hk).1
/-- things are appended, that lie anywhere -/
theorem wpList_appendM {α : Type} {P : Program} {w : World} {ops : Array Oper} {rest : List Oper} {o : Oper} {a : Act} {Q' : Exit → Act → World → Prop} (hgd : o.guard = none) (s x : Operand) (t : TypeId)
    (ho : o.op = .call { callee := .builtin .append, args := #[s, x], argTypes := #[t, t] })
    (e : TypeId) (n : Nat) (X : α → Array Value) (Q : α → Prop) (hK : Kin n X Q) (h0 : 0 < n) (z : Value) (bytes : Nat) (ht : P.underlying t = some (.slice e)) (hinfo : (P.info? e).map (fun i => (i.zero, i.size, i.bytes)) = some (some z, n, bytes)) (hzs : z.cells.size = n)
    (base : Nat) (v : Value) (xs : List α) (hs : a.eval s = v) (hown : OwnM w e n X Q base v xs) (ad : Option Addr) (cap : Nat) (ms : List α) (hx : a.eval x = .slice ad ms.length cap) (hm : RowOf w n X Q ad ms) (hcap : ad = none → cap = 0)
    (h63 : xs.length + ms.length ≤ maxLen) (hbytes : (xs.length + ms.length) * bytes ≤ 140737488355328) (hbase : base ≤ w.heap.size)
    (h : ∀ v' w', OwnM w' e n X Q base v' (xs ++ ms) → w.grownBy w' v.ownBlock → (v'.ownBlock = v.ownBlock ∨ v'.ownBlock = some w.heap.size) → wpList P ops Q' rest (a.put o.dst v') w') : wpList P ops Q' (o :: rest) a w := by
  obtain ⟨i0, hi, hz0, hz1, hz2⟩ := info_parts hinfo
  cases ad with
  | none =>
    have hms : ms = [] := by
      rcases hm with h | ⟨b, o, e, _⟩
      · exact h
      · cases e
    subst hms
    have hc := hcap rfl
    subst hc
    refine wpList_append_own_none hgd s x t ho base e i0 n ht hi v xs.length _ hs hown.1 hx ?_
    exact h v w (by simpa using hown) ⟨rfl, rfl, rfl, Nat.le_refl _, fun _ _ _ => rfl⟩ (.inl rfl)
  | some ad =>
    have hq : ∀ y ∈ ms, Q y := hm.all
    refine wpList_append_own_at w hgd s x t ho base e i0 z n bytes ht hi hz0 hz1 hz2 hzs h0 v xs.length _ hs hown.1 ad ms.length cap (flatM X ms) hx (flatM_length fun y hy => hK.size y (hq y hy)) ?_ ?_ h63 hbytes hbase ?_
    · intro j u hu
      have hj : j < ms.length * n := by
        have := (List.getElem?_eq_some_iff.1 hu).1
        rwa [flatM_length fun y hy => hK.size y (hq y hy)] at this
      obtain ⟨y, hy⟩ : ∃ y, ms[j / n]? = some y := ⟨_, List.getElem?_eq_getElem (by rwa [Nat.div_lt_iff_lt_mul h0])⟩
      obtain ⟨b, o, e, hb, hc, -⟩ := hm.at hy
      cases e
      have h1 := hc (j % n) (Nat.mod_lt _ h0)
      have h2 := flatM_at (fun y hy => hK.size y (hq y hy)) hy (Nat.mod_lt j h0)
      rw [Nat.div_add_mod' j n] at h2
      rw [add_lit, ← hu, h2, ← h1, Nat.add_assoc, Nat.div_add_mod' j n]
    · intro u hu
      simp only [flatM, List.mem_flatMap] at hu
      obtain ⟨y, hy, hu⟩ := hu
      have := hK.one y (hq y hy)
      rw [Array.all_eq_true_iff_forall_mem] at this
      exact this u (by simpa using hu)
    · intro v' w' h1 h2 _ h4
      refine h v' w' ⟨by rw [List.length_append, flatM_app]; exact h1, fun y hy => ?_⟩ h2 h4
      rcases List.mem_append.1 hy with hy | hy
      · exact hown.2 y hy
      · exact hq y hy
/-- one thing, that lies in a block of its own -/
theorem one_rowOf {α : Type} {w : World} {n : Nat} {X : α → Array Value} {Q : α → Prop} {g : Nat} {x : α} {t : TypeId} {fr : Nat × Nat} (hg : w.heap[g]? = some (.cells (X x) t fr)) (hq : Q x) : RowOf w n X Q (some ⟨g, 0, none⟩) [x] :=
  .inr ⟨g, 0, rfl, (Array.getElem?_eq_some_iff.1 hg).1, fun k y hk => by
    match k, hk with
    | 0, hk =>
      simp at hk
      subst hk
      exact ⟨fun j hj => by rw [Nat.zero_mul, Nat.zero_add]; exact cell_of_row _ _ _ _ _ _ hg, hq⟩⟩
end Go.Rv
namespace Go.Proofs.Ytoiephmngdecaaa
open Go.RowKit Go.Rv Rl Frm
set_option linter.unusedVariables false
theorem put_none (a : Act) (u : Value) : a.put none u = a := rfl
def FrQ (f : Fr) : Prop := Body f.body ∧ Num64 f
/-- the cells of what was found -/
def fndC (f : Fnd) : Array Value := #[.int .i64 f.zone, .int .i64 f.off] ++ FC f.fr
def FndQ (f : Fnd) : Prop := (Lit.int .i64 f.zone).wf = true ∧ (Lit.int .i64 f.off).wf = true ∧ FrQ f.fr
/-- a record's cells -/
def recC (r : Rec) : Array Value := EC r.e ++ #[.int .i64 r.zone, .int .i64 r.off]
def RecQ (r : Rec) : Prop := EBody r.e
/-- a choice's cells -/
def chC (c : Ch) : Array Value := recC c.r ++ #[.bool c.single]
def ChQ (c : Ch) : Prop := RecQ c.r
theorem fndC_size (f : Fnd) : (fndC f).size = 2 + (FC f.fr).size := by simp [fndC]
theorem recC_size (r : Rec) : (recC r).size = (EC r.e).size + 2 := by simp [recC]
theorem chC_size (c : Ch) : (chC c).size = (recC c.r).size + 1 := by simp [chC]
theorem kinFnd : Kin 51 fndC FndQ := ⟨fun f h => by rw [fndC_size, FC_size, h.2.2.1.1], fun f _ => by
  have h := FC_one f.fr
  simp [fndC, Value.oneCell'] at h ⊢
  exact h⟩
theorem kinRec : Kin 40 recC RecQ := ⟨fun r h => by rw [recC_size, EC_size, h.1], fun r _ => by
  unfold recC
  rw [Array.all_append, EC_one r.e]
  simp [Value.oneCell']⟩
theorem kinCh : Kin 41 chC ChQ := ⟨fun c h => by rw [chC_size, recC_size, EC_size, h.1], fun c _ => by
  unfold chC recC
  rw [Array.all_append, Array.all_append, EC_one c.r.e]
  simp [Value.oneCell']⟩
def rec1 : Rec := rec0
def ch0 : Ch := ⟨rec0, false⟩
def fnd0 : Fnd := ⟨0, 0, Fr.zero⟩
theorem Try.infoRec : (Try.prog.info? 102).map (fun i => (i.zero, i.size)) = some (some (.agg (recC rec0)), 40) := by kernel_rfl
theorem Try.infoRec3 : (Try.prog.info? 102).map (fun i => (i.zero, i.size, i.bytes)) = some (some (.agg (recC rec0)), 40, 96) := by kernel_rfl
theorem Try.infoCh : (Try.prog.info? 104).map (fun i => (i.zero, i.size)) = some (some (.agg (chC ch0)), 41) := by kernel_rfl
theorem Try.infoCh3 : (Try.prog.info? 104).map (fun i => (i.zero, i.size, i.bytes)) = some (some (.agg (chC ch0)), 41, 104) := by kernel_rfl
theorem Try.infoFnd : (Try.prog.info? 70).map (fun i => (i.zero, i.size)) = some (some (.agg (fndC fnd0)), 51) := by kernel_rfl
theorem Try.infoFnd3 : (Try.prog.info? 70).map (fun i => (i.zero, i.size, i.bytes)) = some (some (.agg (fndC fnd0)), 51, 104) := by kernel_rfl
theorem size_rec {r : Rec} (h : RecQ r) : (Try.prog.info? 102).map (·.size) = some (recC r).size := by rw [kinRec.size r h]; exact (zero_of_info Try.infoRec).2
theorem size_ch {c : Ch} (h : ChQ c) : (Try.prog.info? 104).map (·.size) = some (chC c).size := by rw [kinCh.size c h]; exact (zero_of_info Try.infoCh).2
theorem size_fnd {f : Fnd} (h : FndQ f) : (Try.prog.info? 70).map (·.size) = some (fndC f).size := by rw [kinFnd.size f h]; exact (zero_of_info Try.infoFnd).2
/-- the cells of a roller -/
def rolT (p : Nat) (first count : Int) (v : Value) (sb n : Nat) (applied : Int) : Array Value := #[.pointer (some ⟨p, 0, none⟩), .int .i64 first, .int .i64 count, v, .slice (some ⟨sb, 0, none⟩) n n, .int .i64 applied]
def rolC (p : Nat) (first count : Int) (v : Value) (sb n : Nat) (applied : Int) : Array Value := Tb.tabV ++ rolT p first count v sb n applied
theorem tabV_size : Tb.tabV.size = 256 := by kernel_rfl
theorem rolC_at (p : Nat) (first count : Int) (v : Value) (sb n : Nat) (applied : Int) (j : Nat) : (rolC p first count v sb n applied)[256 + j]? = (rolT p first count v sb n applied)[j]? := by
  unfold rolC
  rw [Array.getElem?_append_right (by rw [tabV_size]; omega), tabV_size, Nat.add_sub_cancel_left]
theorem rolC_cells {w : World} {q p : Nat} {first count : Int} {v : Value} {sb n : Nat} {applied : Int} {t : TypeId} (h : w.heap[q]? = some (.cells (rolC p first count v sb n applied) t (0, 0))) :
    w.cell? ⟨q, 256, none⟩ = some (.pointer (some ⟨p, 0, none⟩)) ∧ w.cell? ⟨q, 257, none⟩ = some (.int .i64 first) ∧ w.cell? ⟨q, 258, none⟩ = some (.int .i64 count) ∧ w.cell? ⟨q, 259, none⟩ = some v ∧ w.cell? ⟨q, 260, none⟩ = some (.slice (some ⟨sb, 0, none⟩) n n) ∧ w.cell? ⟨q, 261, none⟩ = some (.int .i64 applied) := by
  refine ⟨?_, ?_, ?_, ?_, ?_, ?_⟩ <;> rw [cell_of_row _ _ _ _ _ _ h]
  · exact rolC_at _ _ _ _ _ _ _ 0
  · exact rolC_at _ _ _ _ _ _ _ 1
  · exact rolC_at _ _ _ _ _ _ _ 2
  · exact rolC_at _ _ _ _ _ _ _ 3
  · exact rolC_at _ _ _ _ _ _ _ 4
  · exact rolC_at _ _ _ _ _ _ _ 5
theorem rolC_range {w : World} {q p : Nat} {first count : Int} {v : Value} {sb n : Nat} {applied : Int} {t : TypeId} (h : w.heap[q]? = some (.cells (rolC p first count v sb n applied) t (0, 0))) : w.rangeAt q 0 Tb.tabV.toList := fun j u hu => by
  have hj : j < Tb.tabV.size := by
    have := (List.getElem?_eq_some_iff.1 hu).1
    simpa using this
  rw [Nat.zero_add, cell_of_row _ _ _ _ _ _ h, ← hu, Array.getElem?_toList]
  unfold rolC
  rw [Array.getElem?_append_left hj]
end Go.Proofs.Ytoiephmngdecaaa
namespace Go.Proofs.Ytoiephmngdecaaa
open Go.RowKit Go.Rv Rl
set_option linter.unusedVariables false
attribute [local go_sem] Oper.semAt_some
theorem recC_e (r : Rec) (j : Nat) (h : j < (EC r.e).size) : (recC r)[j]? = (EC r.e)[j]? := by
  unfold recC
  rw [Array.getElem?_append_left h]
theorem recC_at (r : Rec) (h : RecQ r) : (recC r)[0]? = some (.int .i64 r.e.kind) ∧ (recC r)[1]? = some (.int .i64 r.e.first) ∧ (recC r)[2]? = some (.int .i64 r.e.count) ∧ (recC r)[3]? = some (.int .i64 r.e.block) ∧ (recC r)[4]? = some (.int .i64 r.e.many) ∧ (recC r)[5]? = some (.int .i64 r.e.mate) ∧ (recC r)[38]? = some (.int .i64 r.zone) ∧ (recC r)[39]? = some (.int .i64 r.off) := by
  have hs : (EC r.e).size = 38 := by rw [EC_size, h.1]
  obtain ⟨h0, h1, h2, h3, h4, h5⟩ := EC_num r.e
  refine ⟨(recC_e r 0 (by omega)).trans h0, (recC_e r 1 (by omega)).trans h1, (recC_e r 2 (by omega)).trans h2, (recC_e r 3 (by omega)).trans h3, (recC_e r 4 (by omega)).trans h4, (recC_e r 5 (by omega)).trans h5, ?_, ?_⟩
  · unfold recC; rw [Array.getElem?_append_right (by omega), hs]; rfl
  · unfold recC; rw [Array.getElem?_append_right (by omega), hs]; rfl
theorem rec_cells {w : World} {b : Nat} {r : Rec} {t : TypeId} (hq : RecQ r) (h : w.heap[b]? = some (.cells (recC r) t (0, 0))) : w.cell? ⟨b, 5, none⟩ = some (.int .i64 r.e.mate) ∧ w.cell? ⟨b, 38, none⟩ = some (.int .i64 r.zone) ∧ w.cell? ⟨b, 39, none⟩ = some (.int .i64 r.off) := by
  obtain ⟨-, -, -, -, -, h5, h6, h7⟩ := recC_at r hq
  exact ⟨(cell_of_row _ _ _ _ _ _ h).trans h5, (cell_of_row _ _ _ _ _ _ h).trans h6, (cell_of_row _ _ _ _ _ _ h).trans h7⟩
set_option maxHeartbeats 2000000 in
theorem rmates_core (w : World) (CA CB : Array Value) (ma za oa mb zb ob : Int) (r : Bool)
    (hA : ∀ (W : World) (b : Nat), W.heap[b]? = some (.cells CA 102 (0, 0)) → W.cell? ⟨b, 5, none⟩ = some (.int .i64 ma) ∧ W.cell? ⟨b, 38, none⟩ = some (.int .i64 za) ∧ W.cell? ⟨b, 39, none⟩ = some (.int .i64 oa))
    (hB : ∀ (W : World) (b : Nat), W.heap[b]? = some (.cells CB 102 (0, 0)) → W.cell? ⟨b, 5, none⟩ = some (.int .i64 mb) ∧ W.cell? ⟨b, 38, none⟩ = some (.int .i64 zb) ∧ W.cell? ⟨b, 39, none⟩ = some (.int .i64 ob))
    (hc : ((ma == zb) = false ∧ r = false) ∨ (ma = zb ∧ (mb == za) = false ∧ r = false) ∨ (ma = zb ∧ mb = za ∧ (oa == ob) = r)) :
    Calls Try.prog 54 #[.agg CA, .agg CB] w fun e w' => e = .returned (.bool r) ∧ Below w.heap.size w w' := by
  have hB0 : Below w.heap.size w ((w.alloc (.cells CA 102)).alloc (.cells CB 102)) := ((Below.refl _ _).alloc (Nat.le_refl _) _).alloc (by simp) _
  have ha := heap_alloc2_old w (.cells CA 102) (.cells CB 102)
  have hb := heap_alloc2_new w (.cells CA 102) (.cells CB 102)
  obtain ⟨W0, hW0⟩ : ∃ W, (w.alloc (.cells CA 102)).alloc (.cells CB 102) = W := ⟨_, rfl⟩
  rw [hW0] at ha hb hB0
  obtain ⟨a1, a2, a3⟩ := hA W0 _ ha
  obtain ⟨b1, b2, b3⟩ := hB W0 _ hb
  have HW0 := Lib.hid hW0
  have HB0 := Lib.hid hB0
  clear hA hB hB0 ha hb hW0
  rcases hc with ⟨t1, rfl⟩ | ⟨rfl, t1, rfl⟩ | ⟨rfl, rfl, t1⟩
  · go_enter Try.func54, Try.ntmps54
    go_upto_region 1 with (fail)
    rw [HW0.out]
    go_wp2
    go_ret
    exact ⟨rfl, HB0.out⟩
  · go_enter Try.func54, Try.ntmps54
    go_upto_region 1 with (fail)
    rw [HW0.out]
    go_wp2
    go_ret
    exact ⟨rfl, HB0.out⟩
  · go_enter Try.func54, Try.ntmps54
    go_upto_region 1 with (fail)
    rw [HW0.out]
    cases r
    · go_wp2
      go_ret
      exact ⟨rfl, HB0.out⟩
    · go_wp2
      go_ret
      exact ⟨rfl, HB0.out⟩
theorem rmates_any (a b : Rec) (w : World) (ha : RecQ a) (hb : RecQ b) :
    Calls Try.prog 54 #[.agg (recC a), .agg (recC b)] w fun e w' => e = .returned (.bool (mates a b)) ∧ Below w.heap.size w w' := by
  refine rmates_core w (recC a) (recC b) a.e.mate a.zone a.off b.e.mate b.zone b.off (mates a b) (fun W g h => rec_cells ha h) (fun W g h => rec_cells hb h) ?_
  unfold mates
  by_cases h1 : a.e.mate = b.zone
  · by_cases h2 : b.e.mate = a.zone
    · refine .inr (.inr ⟨h1, h2, ?_⟩)
      simp only [h1, h2, decide_true, Bool.true_and]
      by_cases h3 : a.off = b.off <;> simp [h3]
    · exact .inr (.inl ⟨h1, by simp [h2], by simp [h2]⟩)
  · exact .inl ⟨by simp [h1], by simp [h1]⟩
end Go.Proofs.Ytoiephmngdecaaa
namespace Go.Proofs.Ytoiephmngdecaaa
open Go.RowKit Go.Rv Rl Frm
set_option linter.unusedVariables false
/-- the row of ints that tells which blocks are single -/
def sgC (l : List Int) : Array Value := (l.map (Value.int .i64)).toArray
theorem sgC_set (l : List Int) (j : Nat) (x : Int) : (sgC l).setIfInBounds j (.int .i64 x) = sgC (l.set j x) := by
  unfold sgC
  apply Array.toList_inj.1
  rw [Array.toList_setIfInBounds]
  simp [List.map_set]
theorem sgC_at (l : List Int) (j : Nat) (h : j < l.length) : (sgC l)[j]? = some (.int .i64 (l.getD j 0)) := by
  unfold sgC
  simp [List.getElem?_eq_getElem h]
/-- the roller in block q: its map, its single blocks, its open group -/
structure RolIs (w : World) (B q p le ll ce cl sb : Nat) (g : Geo.G) (v : Value) (st : St) : Prop where
  hq : w.heap[q]? = some (.cells (rolC p st.first st.count v sb st.single.length st.applied) 99 (0, 0))
  hv : OwnM w 104 41 chC ChQ B v st.ol
  hm : BmIs w p le ll ce cl g st.es (liveL (nz g) st.es)
  hs : w.heap[sb]? = some (.cells (sgC st.single) 3 (0, 0))
  hB : B ≤ q ∧ B ≤ p ∧ B ≤ le ∧ B ≤ ll ∧ B ≤ sb ∧ B ≤ w.heap.size
  hok : MapOk g st.es
  hn : st.single.length = g.b.toNat
  hne : sb ≠ ll
theorem RolIs.ne {w : World} {B q p le ll ce cl sb : Nat} {g : Geo.G} {v : Value} {st : St} (h : RolIs w B q p le ll ce cl sb g v st) : q ≠ p ∧ q ≠ le ∧ q ≠ ll ∧ q ≠ sb ∧ sb ≠ p ∧ sb ≠ le ∧ (∀ k, v.ownBlock = some k → k ≠ q ∧ k ≠ p ∧ k ≠ le ∧ k ≠ ll ∧ k ≠ sb) := by
  obtain ⟨L, hL, -⟩ := h.hm.he
  obtain ⟨V, hV, -⟩ := h.hm.hl
  have hq := h.hq
  have hp := h.hm.hp
  have hs := h.hs
  refine ⟨fun e => ?_, fun e => ?_, fun e => ?_, fun e => ?_, fun e => ?_, fun e => ?_, fun k hk => ?_⟩
  · subst e; have := hq.symm.trans hp; simp at this
  · subst e; have := hq.symm.trans hL; simp at this
  · subst e; have := hq.symm.trans hV; simp at this
  · subst e; have := hq.symm.trans hs; simp at this
  · subst e; have := hs.symm.trans hp; simp at this
  · subst e; have := hs.symm.trans hL; simp at this
  · obtain ⟨-, C, hC⟩ := h.hv.base_le hk
    refine ⟨fun e => ?_, fun e => ?_, fun e => ?_, fun e => ?_, fun e => ?_⟩
    · subst e; have := hC.symm.trans hq; simp at this
    · subst e; have := hC.symm.trans hp; simp at this
    · subst e; have := hC.symm.trans hL; simp at this
    · subst e; have := hC.symm.trans hV; simp at this
    · subst e; have := hC.symm.trans hs; simp at this
theorem RolIs.below {w w' : World} {B q p le ll ce cl sb : Nat} {g : Geo.G} {v : Value} {st : St} (h : RolIs w B q p le ll ce cl sb g v st) (hb : Below w.heap.size w w') : RolIs w' B q p le ll ce cl sb g v st :=
  ⟨(hb.block _ (Array.getElem?_eq_some_iff.1 h.hq).1).trans h.hq, h.hv.below hb, h.hm.below hb, (hb.block _ (Array.getElem?_eq_some_iff.1 h.hs).1).trans h.hs, by have := hb.size; have := h.hB; omega, h.hok, h.hn, h.hne⟩
/-- the map is written -/
theorem RolIs.map {w w' : World} {B q p le ll ce cl sb : Nat} {g : Geo.G} {v : Value} {st : St} (h : RolIs w B q p le ll ce cl sb g v st) {es : List BE} (hm : BmIs w' p le ll ce cl g es (liveL (nz g) es)) (hok : MapOk g es) (hO : Only [le, ll] w w') : RolIs w' B q p le ll ce cl sb g v { st with es := es } := by
  obtain ⟨-, n2, n3, n4, n5, n6, nv⟩ := h.ne
  exact ⟨hO.get h.hq (by simp [n2, n3]), h.hv.only hO (fun k hk => by have := nv k hk; simp [this]), hm, hO.get h.hs (by simp [n6, h.hne]), by have := hO.size; have := h.hB; omega, hok, h.hn, h.hne⟩
/-- a block is marked, or not -/
theorem RolIs.mark {w : World} {B q p le ll ce cl sb : Nat} {g : Geo.G} {v : Value} {st : St} (h : RolIs w B q p le ll ce cl sb g v st) (j : Nat) (x : Int) : RolIs (w.setCell ⟨sb, j, none⟩ (.int .i64 x)) B q p le ll ce cl sb g v { st with single := st.single.set j x } := by
  obtain ⟨-, n2, n3, n4, n5, n6, nv⟩ := h.ne
  have hO : Only [sb] w (w.setCell ⟨sb, j, none⟩ (.int .i64 x)) := (Only.refl _ _).setCell (.inl (by simp)) _
  refine ⟨?_, h.hv.only hO (fun k hk => by have := nv k hk; simp [this]), h.hm.only hO (by simp [Ne.symm n5]) (by simp [Ne.symm n6]) (by simp [Ne.symm h.hne]), ?_, by have := hO.size; have := h.hB; omega, h.hok, by simpa using h.hn, h.hne⟩
  · have := hO.get h.hq (by simp [n4])
    simpa using this
  · rw [heap_setCell_same w sb j _ _ _ h.hs, sgC_set]
/-- the roller's own cells are written -/
theorem RolIs.cells {w w' : World} {B q p le ll ce cl sb : Nat} {g : Geo.G} {v v' : Value} {st : St} (h : RolIs w B q p le ll ce cl sb g v st) (first count applied : Int) (ol : List Ch) (hO : Only [q] w w')
    (hq : w'.heap[q]? = some (.cells (rolC p first count v' sb st.single.length applied) 99 (0, 0))) (hv : OwnM w' 104 41 chC ChQ B v' ol) : RolIs w' B q p le ll ce cl sb g v' { st with first := first, count := count, applied := applied, ol := ol } := by
  obtain ⟨n1, n2, n3, n4, n5, n6, nv⟩ := h.ne
  exact ⟨hq, hv, h.hm.only hO (by simp [Ne.symm n1]) (by simp [Ne.symm n2]) (by simp [Ne.symm n3]), hO.get h.hs (by simp [Ne.symm n4]), by have := hO.size; have := h.hB; omega, h.hok, h.hn, h.hne⟩
/-- the roller's cells, one by one -/
theorem RolIs.own {w : World} {B q p le ll ce cl sb : Nat} {g : Geo.G} {v : Value} {st : St} (h : RolIs w B q p le ll ce cl sb g v st) : w.cell? ⟨q, 256, none⟩ = some (.pointer (some ⟨p, 0, none⟩)) ∧ w.cell? ⟨q, 257, none⟩ = some (.int .i64 st.first) ∧ w.cell? ⟨q, 258, none⟩ = some (.int .i64 st.count) ∧ w.cell? ⟨q, 259, none⟩ = some v ∧ w.cell? ⟨q, 260, none⟩ = some (.slice (some ⟨sb, 0, none⟩) st.single.length st.single.length) ∧ w.cell? ⟨q, 261, none⟩ = some (.int .i64 st.applied) := rolC_cells h.hq
theorem RolIs.one {w : World} {B q p le ll ce cl sb : Nat} {g : Geo.G} {v : Value} {st : St} (h : RolIs w B q p le ll ce cl sb g v st) {j : Nat} (hj : j < st.single.length) : w.cell? ⟨sb, j, none⟩ = some (.int .i64 (st.single.getD j 0)) ∧ w.frozen? ⟨sb, j, none⟩ = false :=
  ⟨(cell_of_row _ _ _ _ _ _ h.hs).trans (sgC_at _ _ hj), frozen_of_row _ _ _ _ _ h.hs⟩
end Go.Proofs.Ytoiephmngdecaaa
namespace Go.Rv
open Go.RowKit
theorem wpList_build_on {P : Program} {ops : Array Oper} {rest : List Oper} {o : Oper} {a : Act} {w : World} {Q : Exit → Act → World → Prop} (hgd : Region.wanted o (yielded ops a.tmps) = true) (ty : TypeId) (parts : Array (Nat × Operand)) (ho : o.op = .build ty parts)
    (ps : Array (Nat × Value)) (hp : parts.map (fun (i, x) => (i, a.eval x)) = ps) (cells : Array Value) (hr : P.built ty ps.toList = some cells)
    (h : wpList P ops Q rest (a.put o.dst (.agg cells)) w) : wpList P ops Q (o :: rest) a w := by
  unfold wpList
  rw [if_pos hgd]
  refine .inl ?_
  unfold Oper.wp execOp
  have h1 := run_build (P := P) w ty ps cells hr
  simp only [ho, hp, Sem.run_bind, Sem.run_pure, h1, Result.andThen_ok]
  exact h
end Go.Rv
namespace Go.Proofs.Ytoiephmngdecaaa
open Go.RowKit Go.Rv Rl Frm
set_option linter.unusedVariables false
attribute [local go_sem] Oper.semAt_some
theorem ch_cells {w : World} {b : Nat} {c : Ch} {t : TypeId} (hq : ChQ c) (h : w.heap[b]? = some (.cells (chC c) t (0, 0))) : w.cell? ⟨b, 0, none⟩ = some (.int .i64 c.r.e.kind) ∧ w.cell? ⟨b, 3, none⟩ = some (.int .i64 c.r.e.block) ∧ w.cell? ⟨b, 4, none⟩ = some (.int .i64 c.r.e.many) ∧ w.cell? ⟨b, 38, none⟩ = some (.int .i64 c.r.zone) ∧ w.cell? ⟨b, 39, none⟩ = some (.int .i64 c.r.off) ∧ w.cell? ⟨b, 40, none⟩ = some (.bool c.single) ∧ w.rangeAt b 0 (EC c.r.e).toList := by
  have hs := kinRec.size c.r hq
  have hse : (EC c.r.e).size = 38 := by rw [EC_size, hq.1]
  have key : ∀ j, j < 40 → (chC c)[j]? = (recC c.r)[j]? := fun j hj => by
    unfold chC
    rw [Array.getElem?_append_left (by omega)]
  obtain ⟨k0, -, -, k3, k4, -, k6, k7⟩ := recC_at c.r hq
  refine ⟨(cell_of_row _ _ _ _ _ _ h).trans ((key 0 (by omega)).trans k0), (cell_of_row _ _ _ _ _ _ h).trans ((key 3 (by omega)).trans k3), (cell_of_row _ _ _ _ _ _ h).trans ((key 4 (by omega)).trans k4), (cell_of_row _ _ _ _ _ _ h).trans ((key 38 (by omega)).trans k6), (cell_of_row _ _ _ _ _ _ h).trans ((key 39 (by omega)).trans k7), (cell_of_row _ _ _ _ _ _ h).trans ?_, fun j v hv => ?_⟩
  · unfold chC
    rw [Array.getElem?_append_right (by omega), hs]
    rfl
  · have hj : j < 38 := by
      have := (List.getElem?_eq_some_iff.1 hv).1
      rw [Array.length_toList, hse] at this
      exact this
    rw [Nat.zero_add, cell_of_row _ _ _ _ _ _ h, key j (by omega), recC_e c.r j (by omega), ← Array.getElem?_toList, hv]
theorem built_be (z m o q s : Int) : Try.prog.built 54 [(0, .int .i64 1), (1, .int .i64 z), (2, .int .i64 m), (3, .int .i64 o), (4, .int .i64 q), (5, .int .i64 s)] = some (BEC ⟨1, z, m, o, q, s⟩) := by kernel_rfl
theorem tab_len : Tb.tabV.toList.length = 256 := by rw [Array.length_toList]; exact tabV_size
set_option maxRecDepth 100000 in
set_option maxHeartbeats 16000000 in
theorem rlie_core (w : World) (B q p le ll ce cl sb : Nat) (g : Geo.G) (v : Value) (st : St) (h : RolIs w B q p le ll ce cl sb g v st) (CC CE : Array Value) (block mate zone off seq sum : Int) (sg : Bool) (n blk : Nat) (XT : Array Value)
    (hblk : block = blk) (hlt : blk < n) (hn : st.single.length = n) (hXT : Tb.tabV = XT)
    (hCC : ∀ (W : World) (b : Nat), W.heap[b]? = some (.cells CC 104 (0, 0)) → W.cell? ⟨b, 38, none⟩ = some (.int .i64 zone) ∧ W.cell? ⟨b, 39, none⟩ = some (.int .i64 off) ∧ W.cell? ⟨b, 40, none⟩ = some (.bool sg) ∧ W.rangeAt b 0 CE.toList)
    (hCE : ∀ (W : World) (b : Nat), W.heap[b]? = some (.cells CE 65 (0, 0)) → W.cell? ⟨b, 3, none⟩ = some (.int .i64 block) ∧ W.cell? ⟨b, 5, none⟩ = some (.int .i64 mate))
    (hIE : (Try.prog.info? 65).map (·.size) = some CE.size) (hIL : (Try.prog.info? 65).map (·.size) = some CE.toList.length) (hSE : (EC En.E.zero).size = CE.size) (hOE : CE.all (·.oneCell') = true) (hIT : (Try.prog.info? 41).map (·.size) = some XT.toList.length)
    (HSM : ∀ (W : World) (b : Nat), W.heap[b]? = some (.cells CE 65 (0, 0)) → Calls Try.prog 69 #[.agg XT.toList.toArray, .slice (some ⟨b, 6, none⟩) 32 32] W fun e w' => e = .returned (.int .u32 sum) ∧ Below W.heap.size W w')
    (hsum : 0 ≤ sum ∧ sum ≤ 4294967295)
    (es2 : List BE) (HST : ∀ (W : World) (st' : St), st'.es = st.es → RolIs W B q p le ll ce cl sb g v st' → Calls Try.prog 25 #[.pointer (some ⟨p, 0, none⟩), .int .i64 block, .agg (BEC ⟨1, zone, mate, off, seq, sum⟩)] W fun x w' => (∃ k, x = .returned (.int .i64 k)) ∧ RolIs w' B q p le ll ce cl sb g v { st' with es := es2 } ∧ Below B W w') :
    Calls Try.prog 55 #[.pointer (some ⟨q, 0, none⟩), .int .i64 seq, .agg CC] w fun e w' => e = .returned (.tuple #[]) ∧ RolIs w' B q p le ll ce cl sb g v { st with es := es2, single := st.single.set blk (if sg = true then 1 else 0) } ∧ Below B w w' := by
  subst hblk
  have hz := (zero_of_info Try.infoEntry).1
  have HH := Lib.hid h
  have HCC := Lib.hid hCC
  have HCE := Lib.hid hCE
  have HIE := Lib.hid hIE
  have HIL := Lib.hid hIL
  have HSE := Lib.hid hSE
  have HOE := Lib.hid hOE
  have HIT := Lib.hid hIT
  have HSU := Lib.hid HSM
  have HSTT := Lib.hid HST
  have HBU := Lib.hid (built_be zone mate off seq sum)
  have HN := Lib.hid hn
  have HXT := Lib.hid hXT
  have hBs := h.hB.2.2.2.2.2
  obtain ⟨Z, hZ⟩ : ∃ Z, EC En.E.zero = Z := ⟨_, rfl⟩
  rw [hZ] at hz HSE
  obtain ⟨W1, hW1⟩ : ∃ W, w.alloc (.cells CC 104) = W := ⟨_, rfl⟩
  have hb1 : Below w.heap.size w W1 := by rw [← hW1]; exact (Below.refl _ _).alloc (Nat.le_refl _) _
  have hc1 : W1.heap[w.heap.size]? = some (.cells CC 104 (0, 0)) := by rw [← hW1]; exact heap_alloc_new w _
  have zc1 : w.heap.size < W1.heap.size := (Array.getElem?_eq_some_iff.1 hc1).1
  have HW1 := Lib.hid hW1
  have HC1 := Lib.hid hc1
  have HRG := Lib.hid (hCC W1 _ hc1).2.2.2
  obtain ⟨W2, hW2⟩ : ∃ W, W1.alloc (.cells CE 65) = W := ⟨_, rfl⟩
  have hb2 : Below W1.heap.size W1 W2 := by rw [← hW2]; exact (Below.refl _ _).alloc (Nat.le_refl _) _
  have he2 : W2.heap[W1.heap.size]? = some (.cells CE 65 (0, 0)) := by rw [← hW2]; exact heap_alloc_new W1 _
  have ze2 : W1.heap.size < W2.heap.size := (Array.getElem?_eq_some_iff.1 he2).1
  have HW2 := Lib.hid hW2
  have HE2 := Lib.hid he2
  have hb12 := hb1.trans (hb2.mono (Nat.le_of_lt zc1))
  have HB2 := Lib.hid hb12
  have HR2 := Lib.hid (h.below hb12)
  have HC2 := Lib.hid ((hb2.block _ zc1).trans hc1)
  clear h hCC hCE hIE hIL hSE hOE hIT HSM HST hn hXT hZ hW1 hb1 hc1 hW2 hb2 he2 hb12
  go_enter Try.func55, Try.ntmps55
  go_upto_region 1 with (fail)
  rw [HW1.out]
  go_upto_region 2 with (first | (refine wpList_load_mid rfl 65 _ rfl w.heap.size 0 rfl CE.toList _ HRG.out Try.underlying65 rfl HIL.out ?_) | (refine wpList_store_row rfl 65 _ _ rfl W1.heap.size CE rfl rfl 65 Z (heap_alloc_new W1 _) HIE.out HSE.out HOE.out ?_; rw [World.setRow_alloc_new]))
  rw [HW2.out, put_none]
  obtain ⟨E, hE⟩ : ∃ E, W1.heap.size = E := ⟨_, rfl⟩
  obtain ⟨C, hC⟩ : ∃ C, w.heap.size = C := ⟨_, rfl⟩
  have hEC : C < E := by omega
  have hBC : B ≤ C := by omega
  rw [hE] at HE2 ze2 ⊢
  rw [hC] at HC2 zc1 ⊢
  have HKE : Hid (∀ W, Only [sb] W2 W → W.cell? ⟨E, 3, none⟩ = some (.int .i64 (blk : Nat)) ∧ W.cell? ⟨E, 5, none⟩ = some (.int .i64 mate) ∧ W.heap[E]? = some (.cells CE 65 (0, 0))) := Lib.hid (fun W hO => by
    have hh := hO.get HE2.out (by have := (Array.getElem?_eq_some_iff.1 HH.out.hs).1; simp only [List.mem_singleton]; omega)
    exact ⟨(HCE.out W _ hh).1, (HCE.out W _ hh).2, hh⟩)
  have HKC : Hid (∀ W, Only [sb] W2 W → W.cell? ⟨C, 38, none⟩ = some (.int .i64 zone) ∧ W.cell? ⟨C, 39, none⟩ = some (.int .i64 off) ∧ W.cell? ⟨C, 40, none⟩ = some (.bool sg)) := Lib.hid (fun W hO => by
    have hh := hO.get HC2.out (by have := (Array.getElem?_eq_some_iff.1 HH.out.hs).1; simp only [List.mem_singleton]; omega)
    obtain ⟨h1, h2, h3, -⟩ := HCC.out W _ hh
    exact ⟨h1, h2, h3⟩)
  clear hE hC
  refine wp_region_conf2 7 [Fact.eq (.pointer (some ⟨q, 0, none⟩)), Fact.eq (.pointer (some ⟨q, 0, none⟩)), Fact.eq (.pointer (some ⟨q, 260, none⟩)), Fact.eq (.slice (some ⟨sb, 0, none⟩) n n), Fact.eq (.pointer (some ⟨E, 3, none⟩)), Fact.eq (.int .i64 (blk : Nat)), Fact.eq (.pointer (some ⟨sb, blk, none⟩))] ?raA (by kernel_rfl) (by kernel_rfl) ?rahA ?raho ?rahend
  case rahA =>
    intro vv
    simp only [putRules, Nat.reduceAdd]
    rfl
  case raho =>
    refine ⟨?_, ?_, ?_, ?_, ?_, ?_, ?_, trivial⟩
    · intro vv W K hB hd HK
      simp only [confRules] at HK
      clear hd
      go_wp2
      refine HK.out _ _ (Below.refl _ _) ?_
      rfl
    · intro vv W K hB hd HK
      simp only [confRules] at hd HK
      have h0 := hd
      clear hd
      simp only [h0] at HK ⊢
      clear h0
      go_wp2
      refine HK.out _ _ (Below.refl _ _) ?_
      rfl
    · intro vv W K hB hd HK
      simp only [confRules] at hd HK
      have h1 := hd
      clear hd
      simp only [h1] at HK ⊢
      clear h1
      go_wp2
      refine HK.out _ _ (Below.refl _ _) ?_
      rfl
    · intro vv W K hB hd HK
      simp only [confRules] at hd HK
      have h2 := hd
      clear hd
      simp only [h2] at HK ⊢
      clear h2
      obtain ⟨-, -, -, -, c9, -⟩ := (HR2.out.below hB).own
      simp only [HN.out] at c9
      go_wp2
      refine HK.out _ _ (Below.refl _ _) ?_
      rfl
    · intro vv W K hB hd HK
      simp only [confRules] at HK
      clear hd
      go_wp2
      refine HK.out _ _ (Below.refl _ _) ?_
      rfl
    · intro vv W K hB hd HK
      simp only [confRules] at hd HK
      have h4 := hd
      clear hd
      simp only [h4] at HK ⊢
      clear h4
      obtain ⟨c9, -, -⟩ := HKE.out W ((Only.refl _ _).trans (Only.of_below hB))
      go_wp2
      refine HK.out _ _ (Below.refl _ _) ?_
      rfl
    · intro vv W K hB hd HK
      simp only [confRules] at hd HK
      obtain ⟨h3, h5, h0, h1, h2, _, h4, _⟩ := hd
      simp only [h3, h5, h0, h1, h2, h4] at HK ⊢
      clear h3 h5 h0 h1 h2 h4
      go_wp2
      refine HK.out _ _ (Below.refl _ _) ?_
      rfl
  case rahend =>
    intro vv W hB hf
    have e6 := hf 6 (by decide)
    simp only [endRules] at e6
    simp only [e6, dropRules]
    clear hf e6
    have hW := HR2.out.below hB
    obtain ⟨c9, f9⟩ := hW.one (j := blk) (by rw [HN.out]; exact hlt)
    have HR3 := Lib.hid (hW.mark blk 0)
    obtain ⟨W3, hW3⟩ : ∃ W3, W.setCell ⟨sb, blk, none⟩ (.int .i64 0) = W3 := ⟨_, rfl⟩
    have HO3 : Hid (Only [sb] W2 W3) := Lib.hid (by rw [← hW3]; exact (Only.of_below hB).setCell (.inl (by simp)) _)
    rw [hW3] at HR3
    have HW3 := Lib.hid hW3
    obtain ⟨-, -, c40⟩ := HKC.out W3 HO3.out
    clear hW3 hW hB
    go_upto_region 3 with (fail)
    rw [HW3.out]
    clear c9 f9
    cases sg
    · have hsb : B ≤ sb := HH.out.hB.2.2.2.2.1
      have hB2s : B ≤ W2.heap.size := by have := HR2.out.hB.2.2.2.2.2; exact this
      have hBW : B ≤ W3.heap.size := by have := HR3.out.hB.2.2.2.2.2; exact this
      go_upto_region 5 with (fail)
      refine wp_region_conf2 24 [Fact.eq (.pointer (some ⟨q, 0, none⟩)), Fact.eq (.pointer (some ⟨q, 0, none⟩)), Fact.eq (.pointer (some ⟨q, 256, none⟩)), Fact.eq (.pointer (some ⟨p, 0, none⟩)), Fact.eq (.pointer (some ⟨E, 3, none⟩)), Fact.eq (.int .i64 (blk : Nat)), Fact.eq (.pointer (some ⟨C, 0, none⟩)), Fact.eq (.pointer (some ⟨C, 38, none⟩)), Fact.eq (.int .i64 zone), Fact.eq (.pointer (some ⟨E, 5, none⟩)), Fact.eq (.int .i64 mate), Fact.eq (.pointer (some ⟨C, 0, none⟩)), Fact.eq (.pointer (some ⟨C, 39, none⟩)), Fact.eq (.int .i64 off), Fact.eq (.int .i64 seq), Fact.eq (.pointer (some ⟨q, 0, none⟩)), Fact.eq (.pointer (some ⟨q, 0, none⟩)), Fact.eq (.pointer (some ⟨q, 0, none⟩)), Fact.eq (.agg XT.toList.toArray), Fact.eq (.pointer (some ⟨E, 6, none⟩)), Fact.eq (.slice (some ⟨E, 6, none⟩) 32 32), Fact.eq (.int .u32 sum), Fact.eq (.int .i64 sum), Fact.eq (.agg (BEC ⟨1, zone, mate, off, seq, sum⟩))] ?rcA (by kernel_rfl) (by kernel_rfl) ?rchA ?rcho ?rchend
      case rchA =>
        intro vv
        simp only [putRules, Nat.reduceAdd]
        rfl
      case rcho =>
        refine ⟨?_, ?_, ?_, ?_, ?_, ?_, ?_, ?_, ?_, ?_, ?_, ?_, ?_, ?_, ?_, ?_, ?_, ?_, ?_, ?_, ?_, ?_, ?_, ?_, trivial⟩
        · intro vv W K hB hd HK
          simp only [confRules] at HK
          clear hd
          go_wp2
          refine HK.out _ _ (Below.refl _ _) ?_
          rfl
        · intro vv W K hB hd HK
          simp only [confRules] at hd HK
          have h0 := hd
          clear hd
          simp only [h0] at HK ⊢
          clear h0
          go_wp2
          refine HK.out _ _ (Below.refl _ _) ?_
          rfl
        · intro vv W K hB hd HK
          simp only [confRules] at hd HK
          have h1 := hd
          clear hd
          simp only [h1] at HK ⊢
          clear h1
          go_wp2
          refine HK.out _ _ (Below.refl _ _) ?_
          rfl
        · intro vv W K hB hd HK
          simp only [confRules] at hd HK
          have h2 := hd
          clear hd
          simp only [h2] at HK ⊢
          clear h2
          obtain ⟨c9, -, -, -, -, -⟩ := (HR3.out.below hB).own
          go_wp2
          refine HK.out _ _ (Below.refl _ _) ?_
          rfl
        · intro vv W K hB hd HK
          simp only [confRules] at HK
          clear hd
          go_wp2
          refine HK.out _ _ (Below.refl _ _) ?_
          rfl
        · intro vv W K hB hd HK
          simp only [confRules] at hd HK
          have h4 := hd
          clear hd
          simp only [h4] at HK ⊢
          clear h4
          obtain ⟨c9, -, -⟩ := HKE.out W (HO3.out.trans (Only.of_below hB))
          go_wp2
          refine HK.out _ _ (Below.refl _ _) ?_
          rfl
        · intro vv W K hB hd HK
          simp only [confRules] at HK
          clear hd
          go_wp2
          refine HK.out _ _ (Below.refl _ _) ?_
          rfl
        · intro vv W K hB hd HK
          simp only [confRules] at hd HK
          have h6 := hd
          clear hd
          simp only [h6] at HK ⊢
          clear h6
          go_wp2
          refine HK.out _ _ (Below.refl _ _) ?_
          rfl
        · intro vv W K hB hd HK
          simp only [confRules] at hd HK
          have h7 := hd
          clear hd
          simp only [h7] at HK ⊢
          clear h7
          obtain ⟨c9, -, -⟩ := HKC.out W (HO3.out.trans (Only.of_below hB))
          go_wp2
          refine HK.out _ _ (Below.refl _ _) ?_
          rfl
        · intro vv W K hB hd HK
          simp only [confRules] at HK
          clear hd
          go_wp2
          refine HK.out _ _ (Below.refl _ _) ?_
          rfl
        · intro vv W K hB hd HK
          simp only [confRules] at hd HK
          have h9 := hd
          clear hd
          simp only [h9] at HK ⊢
          clear h9
          obtain ⟨-, c9, -⟩ := HKE.out W (HO3.out.trans (Only.of_below hB))
          go_wp2
          refine HK.out _ _ (Below.refl _ _) ?_
          rfl
        · intro vv W K hB hd HK
          simp only [confRules] at HK
          clear hd
          go_wp2
          refine HK.out _ _ (Below.refl _ _) ?_
          rfl
        · intro vv W K hB hd HK
          simp only [confRules] at hd HK
          have h11 := hd
          clear hd
          simp only [h11] at HK ⊢
          clear h11
          go_wp2
          refine HK.out _ _ (Below.refl _ _) ?_
          rfl
        · intro vv W K hB hd HK
          simp only [confRules] at hd HK
          have h12 := hd
          clear hd
          simp only [h12] at HK ⊢
          clear h12
          obtain ⟨-, c9, -⟩ := HKC.out W (HO3.out.trans (Only.of_below hB))
          go_wp2
          refine HK.out _ _ (Below.refl _ _) ?_
          rfl
        · intro vv W K hB hd HK
          simp only [confRules] at HK
          clear hd
          go_wp2
          refine HK.out _ _ (Below.refl _ _) ?_
          rfl
        · intro vv W K hB hd HK
          simp only [confRules] at HK
          clear hd
          go_wp2
          refine HK.out _ _ (Below.refl _ _) ?_
          rfl
        · intro vv W K hB hd HK
          simp only [confRules] at hd HK
          have h15 := hd
          clear hd
          simp only [h15] at HK ⊢
          clear h15
          go_wp2
          refine HK.out _ _ (Below.refl _ _) ?_
          rfl
        · intro vv W K hB hd HK
          simp only [confRules] at hd HK
          have h16 := hd
          clear hd
          simp only [h16] at HK ⊢
          clear h16
          go_wp2
          refine HK.out _ _ (Below.refl _ _) ?_
          rfl
        · intro vv W K hB hd HK
          simp only [confRules] at hd HK
          have h17 := hd
          clear hd
          simp only [h17] at HK ⊢
          clear h17
          have c9 := rolC_range (HR3.out.below hB).hq
          rw [HXT.out] at c9
          refine wpList_load_mid rfl 41 _ rfl q 0 rfl XT.toList _ c9 Try.underlying41 rfl HIT.out ?_
          refine HK.out _ _ (Below.refl _ _) ?_
          rfl
        · intro vv W K hB hd HK
          simp only [confRules] at HK
          clear hd
          go_wp2
          refine HK.out _ _ (Below.refl _ _) ?_
          rfl
        · intro vv W K hB hd HK
          simp only [confRules] at hd HK
          have h19 := hd
          clear hd
          simp only [h19] at HK ⊢
          clear h19
          go_wp2
          refine HK.out _ _ (Below.refl _ _) ?_
          rfl
        · intro vv W K hB hd HK
          simp only [confRules] at hd HK
          obtain ⟨h18, h20⟩ := hd
          simp only [h18, h20] at HK ⊢
          clear h18 h20
          obtain ⟨-, -, c9⟩ := HKE.out W (HO3.out.trans (Only.of_below hB))
          go_wp2_with (refine (HSU.out W E c9).mono ?_; rintro e w9 ⟨rfl, hB9⟩)
          refine HK.out _ _ hB9 ?_
          rfl
        · intro vv W K hB hd HK
          simp only [confRules] at hd HK
          have h21 := hd
          clear hd
          simp only [h21] at HK ⊢
          clear h21
          go_wp2
          refine HK.out _ _ (Below.refl _ _) ?_
          rfl
        · intro vv W K hB hd HK
          simp only [confRules] at hd HK
          obtain ⟨h8, h10, h13, h14, h22⟩ := hd
          simp only [h8, h10, h13, h14, h22] at HK ⊢
          clear h8 h10 h13 h14 h22
          go_wp2_with (refine wpList_build_on (by rfl) 54 _ rfl #[(0, .int .i64 1), (1, .int .i64 zone), (2, .int .i64 mate), (3, .int .i64 off), (4, .int .i64 seq), (5, .int .i64 sum)] (by simp [Act.eval]) _ HBU.out ?_)
          refine HK.out _ _ (Below.refl _ _) ?_
          rfl
      case rchend =>
        intro vv W hB hf
        have e3 := hf 3 (by decide)
        have e5 := hf 5 (by decide)
        have e23 := hf 23 (by decide)
        simp only [endRules] at e3 e5 e23
        simp only [e3, e5, e23, dropRules]
        clear hf e3 e5 e23
        have hW := HR3.out.below hB
        have HSX := Lib.hid (HSTT.out W _ (by rfl) hW)
        have HBW := Lib.hid ((HB2.out.mono hBs).trans ((HO3.out.below (by simp; exact hsb) hB2s).trans (hB.mono hBW)))
        clear hW hB
        go_wp2_with fail
        refine HSX.out.mono ?_
        rintro e9 w9 ⟨⟨k9, rfl⟩, hR9, hB9⟩
        have HR9 := Lib.hid hR9
        have HB9 := Lib.hid (HBW.out.trans hB9)
        clear hR9 hB9
        go_wp2
        refine bodyPost_end (results_none rfl _ _ _) rfl ?_
        exact ⟨rfl, HR9.out, HB9.out⟩
    · go_upto_region 4 with (fail)
      refine wp_region_conf2 7 [Fact.eq (.pointer (some ⟨q, 0, none⟩)), Fact.eq (.pointer (some ⟨q, 0, none⟩)), Fact.eq (.pointer (some ⟨q, 260, none⟩)), Fact.eq (.slice (some ⟨sb, 0, none⟩) n n), Fact.eq (.pointer (some ⟨E, 3, none⟩)), Fact.eq (.int .i64 (blk : Nat)), Fact.eq (.pointer (some ⟨sb, blk, none⟩))] ?rdA (by kernel_rfl) (by kernel_rfl) ?rdhA ?rdho ?rdhend
      case rdhA =>
        intro vv
        simp only [putRules, Nat.reduceAdd]
        rfl
      case rdho =>
        refine ⟨?_, ?_, ?_, ?_, ?_, ?_, ?_, trivial⟩
        · intro vv W K hB hd HK
          simp only [confRules] at HK
          clear hd
          go_wp2
          refine HK.out _ _ (Below.refl _ _) ?_
          rfl
        · intro vv W K hB hd HK
          simp only [confRules] at hd HK
          have h0 := hd
          clear hd
          simp only [h0] at HK ⊢
          clear h0
          go_wp2
          refine HK.out _ _ (Below.refl _ _) ?_
          rfl
        · intro vv W K hB hd HK
          simp only [confRules] at hd HK
          have h1 := hd
          clear hd
          simp only [h1] at HK ⊢
          clear h1
          go_wp2
          refine HK.out _ _ (Below.refl _ _) ?_
          rfl
        · intro vv W K hB hd HK
          simp only [confRules] at hd HK
          have h2 := hd
          clear hd
          simp only [h2] at HK ⊢
          clear h2
          obtain ⟨-, -, -, -, c9, -⟩ := (HR3.out.below hB).own
          simp only [List.length_set, HN.out] at c9
          go_wp2
          refine HK.out _ _ (Below.refl _ _) ?_
          rfl
        · intro vv W K hB hd HK
          simp only [confRules] at HK
          clear hd
          go_wp2
          refine HK.out _ _ (Below.refl _ _) ?_
          rfl
        · intro vv W K hB hd HK
          simp only [confRules] at hd HK
          have h4 := hd
          clear hd
          simp only [h4] at HK ⊢
          clear h4
          obtain ⟨c9, -, -⟩ := HKE.out W (HO3.out.trans (Only.of_below hB))
          go_wp2
          refine HK.out _ _ (Below.refl _ _) ?_
          rfl
        · intro vv W K hB hd HK
          simp only [confRules] at hd HK
          obtain ⟨h3, h5, h0, h1, h2, _, h4, _⟩ := hd
          simp only [h3, h5, h0, h1, h2, h4] at HK ⊢
          clear h3 h5 h0 h1 h2 h4
          go_wp2
          refine HK.out _ _ (Below.refl _ _) ?_
          rfl
      case rdhend =>
        intro vv W hB hf
        have e6 := hf 6 (by decide)
        simp only [endRules] at e6
        simp only [e6, dropRules]
        clear hf e6
        have hW := HR3.out.below hB
        obtain ⟨c9, f9⟩ := hW.one (j := blk) (by simp only [List.length_set]; rw [HN.out]; exact hlt)
        have HR5 := Lib.hid (hW.mark blk 1)
        obtain ⟨W5, hW5⟩ : ∃ W5, W.setCell ⟨sb, blk, none⟩ (.int .i64 1) = W5 := ⟨_, rfl⟩
        have HO5 : Hid (Only [sb] W2 W5) := Lib.hid (by rw [← hW5]; exact (HO3.out.trans (Only.of_below hB)).setCell (.inl (by simp)) _)
        rw [hW5] at HR5
        have HW5 := Lib.hid hW5
        clear hW5 hW hB
        go_upto_region 5 with (fail)
        rw [HW5.out]
        clear c9 f9
        have hsb : B ≤ sb := HH.out.hB.2.2.2.2.1
        have hB2s : B ≤ W2.heap.size := by have := HR2.out.hB.2.2.2.2.2; exact this
        have hBW : B ≤ W5.heap.size := by have := HR5.out.hB.2.2.2.2.2; exact this
        refine wp_region_conf2 24 [Fact.eq (.pointer (some ⟨q, 0, none⟩)), Fact.eq (.pointer (some ⟨q, 0, none⟩)), Fact.eq (.pointer (some ⟨q, 256, none⟩)), Fact.eq (.pointer (some ⟨p, 0, none⟩)), Fact.eq (.pointer (some ⟨E, 3, none⟩)), Fact.eq (.int .i64 (blk : Nat)), Fact.eq (.pointer (some ⟨C, 0, none⟩)), Fact.eq (.pointer (some ⟨C, 38, none⟩)), Fact.eq (.int .i64 zone), Fact.eq (.pointer (some ⟨E, 5, none⟩)), Fact.eq (.int .i64 mate), Fact.eq (.pointer (some ⟨C, 0, none⟩)), Fact.eq (.pointer (some ⟨C, 39, none⟩)), Fact.eq (.int .i64 off), Fact.eq (.int .i64 seq), Fact.eq (.pointer (some ⟨q, 0, none⟩)), Fact.eq (.pointer (some ⟨q, 0, none⟩)), Fact.eq (.pointer (some ⟨q, 0, none⟩)), Fact.eq (.agg XT.toList.toArray), Fact.eq (.pointer (some ⟨E, 6, none⟩)), Fact.eq (.slice (some ⟨E, 6, none⟩) 32 32), Fact.eq (.int .u32 sum), Fact.eq (.int .i64 sum), Fact.eq (.agg (BEC ⟨1, zone, mate, off, seq, sum⟩))] ?reA (by kernel_rfl) (by kernel_rfl) ?rehA ?reho ?rehend
        case rehA =>
          intro vv
          simp only [putRules, Nat.reduceAdd]
          rfl
        case reho =>
          refine ⟨?_, ?_, ?_, ?_, ?_, ?_, ?_, ?_, ?_, ?_, ?_, ?_, ?_, ?_, ?_, ?_, ?_, ?_, ?_, ?_, ?_, ?_, ?_, ?_, trivial⟩
          · intro vv W K hB hd HK
            simp only [confRules] at HK
            clear hd
            go_wp2
            refine HK.out _ _ (Below.refl _ _) ?_
            rfl
          · intro vv W K hB hd HK
            simp only [confRules] at hd HK
            have h0 := hd
            clear hd
            simp only [h0] at HK ⊢
            clear h0
            go_wp2
            refine HK.out _ _ (Below.refl _ _) ?_
            rfl
          · intro vv W K hB hd HK
            simp only [confRules] at hd HK
            have h1 := hd
            clear hd
            simp only [h1] at HK ⊢
            clear h1
            go_wp2
            refine HK.out _ _ (Below.refl _ _) ?_
            rfl
          · intro vv W K hB hd HK
            simp only [confRules] at hd HK
            have h2 := hd
            clear hd
            simp only [h2] at HK ⊢
            clear h2
            obtain ⟨c9, -, -, -, -, -⟩ := (HR5.out.below hB).own
            go_wp2
            refine HK.out _ _ (Below.refl _ _) ?_
            rfl
          · intro vv W K hB hd HK
            simp only [confRules] at HK
            clear hd
            go_wp2
            refine HK.out _ _ (Below.refl _ _) ?_
            rfl
          · intro vv W K hB hd HK
            simp only [confRules] at hd HK
            have h4 := hd
            clear hd
            simp only [h4] at HK ⊢
            clear h4
            obtain ⟨c9, -, -⟩ := HKE.out W (HO5.out.trans (Only.of_below hB))
            go_wp2
            refine HK.out _ _ (Below.refl _ _) ?_
            rfl
          · intro vv W K hB hd HK
            simp only [confRules] at HK
            clear hd
            go_wp2
            refine HK.out _ _ (Below.refl _ _) ?_
            rfl
          · intro vv W K hB hd HK
            simp only [confRules] at hd HK
            have h6 := hd
            clear hd
            simp only [h6] at HK ⊢
            clear h6
            go_wp2
            refine HK.out _ _ (Below.refl _ _) ?_
            rfl
          · intro vv W K hB hd HK
            simp only [confRules] at hd HK
            have h7 := hd
            clear hd
            simp only [h7] at HK ⊢
            clear h7
            obtain ⟨c9, -, -⟩ := HKC.out W (HO5.out.trans (Only.of_below hB))
            go_wp2
            refine HK.out _ _ (Below.refl _ _) ?_
            rfl
          · intro vv W K hB hd HK
            simp only [confRules] at HK
            clear hd
            go_wp2
            refine HK.out _ _ (Below.refl _ _) ?_
            rfl
          · intro vv W K hB hd HK
            simp only [confRules] at hd HK
            have h9 := hd
            clear hd
            simp only [h9] at HK ⊢
            clear h9
            obtain ⟨-, c9, -⟩ := HKE.out W (HO5.out.trans (Only.of_below hB))
            go_wp2
            refine HK.out _ _ (Below.refl _ _) ?_
            rfl
          · intro vv W K hB hd HK
            simp only [confRules] at HK
            clear hd
            go_wp2
            refine HK.out _ _ (Below.refl _ _) ?_
            rfl
          · intro vv W K hB hd HK
            simp only [confRules] at hd HK
            have h11 := hd
            clear hd
            simp only [h11] at HK ⊢
            clear h11
            go_wp2
            refine HK.out _ _ (Below.refl _ _) ?_
            rfl
          · intro vv W K hB hd HK
            simp only [confRules] at hd HK
            have h12 := hd
            clear hd
            simp only [h12] at HK ⊢
            clear h12
            obtain ⟨-, c9, -⟩ := HKC.out W (HO5.out.trans (Only.of_below hB))
            go_wp2
            refine HK.out _ _ (Below.refl _ _) ?_
            rfl
          · intro vv W K hB hd HK
            simp only [confRules] at HK
            clear hd
            go_wp2
            refine HK.out _ _ (Below.refl _ _) ?_
            rfl
          · intro vv W K hB hd HK
            simp only [confRules] at HK
            clear hd
            go_wp2
            refine HK.out _ _ (Below.refl _ _) ?_
            rfl
          · intro vv W K hB hd HK
            simp only [confRules] at hd HK
            have h15 := hd
            clear hd
            simp only [h15] at HK ⊢
            clear h15
            go_wp2
            refine HK.out _ _ (Below.refl _ _) ?_
            rfl
          · intro vv W K hB hd HK
            simp only [confRules] at hd HK
            have h16 := hd
            clear hd
            simp only [h16] at HK ⊢
            clear h16
            go_wp2
            refine HK.out _ _ (Below.refl _ _) ?_
            rfl
          · intro vv W K hB hd HK
            simp only [confRules] at hd HK
            have h17 := hd
            clear hd
            simp only [h17] at HK ⊢
            clear h17
            have c9 := rolC_range (HR5.out.below hB).hq
            rw [HXT.out] at c9
            refine wpList_load_mid rfl 41 _ rfl q 0 rfl XT.toList _ c9 Try.underlying41 rfl HIT.out ?_
            refine HK.out _ _ (Below.refl _ _) ?_
            rfl
          · intro vv W K hB hd HK
            simp only [confRules] at HK
            clear hd
            go_wp2
            refine HK.out _ _ (Below.refl _ _) ?_
            rfl
          · intro vv W K hB hd HK
            simp only [confRules] at hd HK
            have h19 := hd
            clear hd
            simp only [h19] at HK ⊢
            clear h19
            go_wp2
            refine HK.out _ _ (Below.refl _ _) ?_
            rfl
          · intro vv W K hB hd HK
            simp only [confRules] at hd HK
            obtain ⟨h18, h20⟩ := hd
            simp only [h18, h20] at HK ⊢
            clear h18 h20
            obtain ⟨-, -, c9⟩ := HKE.out W (HO5.out.trans (Only.of_below hB))
            go_wp2_with (refine (HSU.out W E c9).mono ?_; rintro e w9 ⟨rfl, hB9⟩)
            refine HK.out _ _ hB9 ?_
            rfl
          · intro vv W K hB hd HK
            simp only [confRules] at hd HK
            have h21 := hd
            clear hd
            simp only [h21] at HK ⊢
            clear h21
            go_wp2
            refine HK.out _ _ (Below.refl _ _) ?_
            rfl
          · intro vv W K hB hd HK
            simp only [confRules] at hd HK
            obtain ⟨h8, h10, h13, h14, h22⟩ := hd
            simp only [h8, h10, h13, h14, h22] at HK ⊢
            clear h8 h10 h13 h14 h22
            go_wp2_with (refine wpList_build_on (by rfl) 54 _ rfl #[(0, .int .i64 1), (1, .int .i64 zone), (2, .int .i64 mate), (3, .int .i64 off), (4, .int .i64 seq), (5, .int .i64 sum)] (by simp [Act.eval]) _ HBU.out ?_)
            refine HK.out _ _ (Below.refl _ _) ?_
            rfl
        case rehend =>
          intro vv W hB hf
          have e3 := hf 3 (by decide)
          have e5 := hf 5 (by decide)
          have e23 := hf 23 (by decide)
          simp only [endRules] at e3 e5 e23
          simp only [e3, e5, e23, dropRules]
          clear hf e3 e5 e23
          have hW := HR5.out.below hB
          have HSX := Lib.hid (HSTT.out W _ (by rfl) hW)
          have HBW := Lib.hid ((HB2.out.mono hBs).trans ((HO5.out.below (by simp; exact hsb) hB2s).trans (hB.mono hBW)))
          clear hW hB
          go_wp2_with fail
          refine HSX.out.mono ?_
          rintro e9 w9 ⟨⟨k9, rfl⟩, hR9, hB9⟩
          have HR9 := Lib.hid hR9
          have HB9 := Lib.hid (HBW.out.trans hB9)
          clear hR9 hB9
          go_wp2
          refine bodyPost_end (results_none rfl _ _ _) rfl ?_
          exact ⟨rfl, by have := HR9.out; simpa using this, HB9.out⟩
theorem rlie_any (w : World) (B q p le ll ce cl sb : Nat) (g : Geo.G) (v : Value) (st : St) (hr : Geo.right g = true) (h : RolIs w B q p le ll ce cl sb g v st) (c : Ch) (hq : ChQ c) (seq : Int) (hb : 0 ≤ c.r.e.block ∧ c.r.e.block < g.b) (hE : E64 (beOf seq c)) :
    Calls Try.prog 55 #[.pointer (some ⟨q, 0, none⟩), .int .i64 seq, .agg (chC c)] w fun e w' => e = .returned (.tuple #[]) ∧ RolIs w' B q p le ll ce cl sb g v (lie g st seq c) ∧ Below B w w' := by
  have hs : Crc.sum c.r.e.bytes < 4294967296 := Crc.sum_lt hq.2
  have hX : Tb.tabV.toList.toArray = Tb.tabV := by simp
  refine rlie_core w B q p le ll ce cl sb g v st h (chC c) (EC c.r.e) c.r.e.block c.r.e.mate c.r.zone c.r.off seq (Crc.sum c.r.e.bytes : Nat) c.single st.single.length c.r.e.block.toNat Tb.tabV (by omega) (by have := h.hn; omega) rfl rfl ?_ ?_ (size_ent hq.1) (by rw [Array.length_toList]; exact size_ent hq.1) (by rw [EC_size, EC_size, hq.1]; rfl) (EC_one _) (by rw [tab_len]; exact (zero_of_info Try.infoTab).2) ?_ (by omega) (setEs g st.es c.r.e.block (beOf seq c)) ?_
  · intro W b hh
    obtain ⟨-, -, -, c3, c4, c5, c6⟩ := ch_cells hq hh
    exact ⟨c3, c4, c5, c6⟩
  · intro W b hh
    obtain ⟨-, -, -, c3, -, c5⟩ := ent_cells hh
    exact ⟨c3, c5⟩
  · intro W b hh
    rw [hX]
    have := sum_any (some ⟨b, 6, none⟩) c.r.e.bytes 32 W (ent_bytes hh hq.2) (by rw [hq.1]; decide)
    rw [hq.1] at this
    exact this
  · intro W st' he hR
    have hM := hR.hm
    refine (bset_any W p le ll ce cl g st'.es hr hR.hok hM c.r.e.block (beOf seq c) hE).mono ?_
    rintro x w' ⟨rfl, h1, h2⟩
    refine ⟨⟨_, rfl⟩, ?_, h2.below (by have := hR.hB; simp; omega) hR.hB.2.2.2.2.2⟩
    rw [he] at h1
    exact hR.map h1 (by have := setEs_ok hR.hok hE c.r.e.block; rwa [he] at this) h2
end Go.Proofs.Ytoiephmngdecaaa
namespace Go.Rv
open Go.RowKit
theorem Only.of_setCells (g : Nat) : ∀ (vs : List Value) (o : Nat) (w : World), Only [g] w (w.setCells g o vs)
  | [], _, w => Only.refl _ _
  | v :: vs, o, w => ((Only.refl _ _).setCell (.inl (by simp)) _).trans (Only.of_setCells g vs (o + 1) (w.setCell ⟨g, o, none⟩ v))
/-- a row, behind a store into its middle -/
theorem heap_setCells_row (g : Nat) (t : TypeId) : ∀ (vs : List Value) (o : Nat) (cur : List Value) (w : World), w.heap[g]? = some (.cells cur.toArray t (0, 0)) → o + vs.length ≤ cur.length →
    (w.setCells g o vs).heap[g]? = some (.cells (splice cur o vs).toArray t (0, 0))
  | [], o, cur, w, h, _ => by
    show w.heap[g]? = _
    rw [h]
    simp [splice]
  | v :: vs, o, cur, w, h, hl => by
    have h1 := heap_setCell_same w g o cur.toArray t v h
    rw [List.setIfInBounds_toArray] at h1
    rw [List.length_cons] at hl
    have h2 := heap_setCells_row g t vs (o + 1) (cur.set o v) (w.setCell ⟨g, o, none⟩ v) h1 (by rw [List.length_set]; omega)
    show ((w.setCell ⟨g, o, none⟩ v).setCells g (o + 1) vs).heap[g]? = _
    rw [h2]
    congr 3
    unfold splice
    rw [List.take_set, List.drop_set_of_lt (by omega)]
    have h3 : (cur.take (o + 1)).set o v = cur.take o ++ [v] := by
      rw [List.take_succ_eq_append_getElem (by omega), List.set_append, if_neg (by rw [List.length_take]; omega), List.length_take, Nat.min_eq_left (show o ≤ cur.length by omega), Nat.sub_self]
      rfl
    rw [h3, List.length_cons, List.append_assoc, List.singleton_append, List.cons_append, show o + 1 + vs.length = o + (vs.length + 1) by omega]
theorem splice_right {α : Type} (T R cs : List α) (o n : Nat) (hn : T.length = n) : splice (T ++ R) (n + o) cs = T ++ splice R o cs := by
  subst hn
  unfold splice
  rw [List.take_append, List.take_of_length_le (by omega), Nat.add_sub_cancel_left, List.drop_append, List.drop_of_length_le (by omega), List.nil_append, List.append_assoc, show T.length + o + cs.length - T.length = o + cs.length by omega]
end Go.Rv
namespace Go.Proofs.Ytoiephmngdecaaa
open Go.RowKit Go.Rv Rl Frm
set_option linter.unusedVariables false
theorem tab_len' : Tb.tabV.toList.length = 256 := by rw [Array.length_toList]; exact tabV_size
theorem rolC_list (p : Nat) (f c : Int) (v : Value) (sb n : Nat) (a : Int) : (rolC p f c v sb n a).toList = Tb.tabV.toList ++ (rolT p f c v sb n a).toList := by
  unfold rolC
  rw [Array.toList_append]
theorem rolC_group (p : Nat) (f c f' c' : Int) (v v' : Value) (sb n : Nat) (a : Int) : (splice (rolC p f c v sb n a).toList 257 [.int .i64 f', .int .i64 c', v']).toArray = rolC p f' c' v' sb n a := by
  apply Array.toList_inj.1
  rw [rolC_list, rolC_list, show (257 : Nat) = 256 + 1 from rfl, splice_right _ _ _ 1 256 tab_len']
  rfl
theorem rolC_set (p : Nat) (f c : Int) (v : Value) (sb n : Nat) (a : Int) (j : Nat) (x : Value) : (rolC p f c v sb n a).setIfInBounds (256 + j) x = Tb.tabV ++ (rolT p f c v sb n a).setIfInBounds j x := by
  apply Array.toList_inj.1
  rw [Array.toList_setIfInBounds, rolC_list, Array.toList_append, Array.toList_setIfInBounds, List.set_append, if_neg (by rw [tab_len']; omega), tab_len', Nat.add_sub_cancel_left]
/-- another open group -/
theorem RolIs.group {w : World} {B q p le ll ce cl sb : Nat} {g : Geo.G} {v : Value} {st : St} (h : RolIs w B q p le ll ce cl sb g v st) (first count : Int) (v' : Value) (ol : List Ch) (hv : OwnM (w.setCells q 257 [.int .i64 first, .int .i64 count, v']) 104 41 chC ChQ B v' ol) :
    RolIs (w.setCells q 257 [.int .i64 first, .int .i64 count, v']) B q p le ll ce cl sb g v' { st with first := first, count := count, ol := ol } := by
  have hh := h.hq
  have h2 := heap_setCells_row q 99 [.int .i64 first, .int .i64 count, v'] 257 (rolC p st.first st.count v sb st.single.length st.applied).toList w (by rw [Array.toArray_toList]; exact hh) (by rw [rolC_list, List.length_append, tab_len']; simp [rolT])
  rw [rolC_group] at h2
  exact h.cells first count st.applied ol (Only.of_setCells q _ _ _) h2 hv
/-- the open group has another list -/
theorem RolIs.list {w : World} {B q p le ll ce cl sb : Nat} {g : Geo.G} {v : Value} {st : St} (h : RolIs w B q p le ll ce cl sb g v st) (v' : Value) (ol : List Ch) (hv : OwnM (w.setCell ⟨q, 259, none⟩ v') 104 41 chC ChQ B v' ol) : RolIs (w.setCell ⟨q, 259, none⟩ v') B q p le ll ce cl sb g v' { st with ol := ol } := by
  have h2 := heap_setCell_same w q 259 _ _ v' h.hq
  rw [show (259 : Nat) = 256 + 3 from rfl, rolC_set] at h2
  exact h.cells st.first st.count st.applied ol ((Only.refl _ _).setCell (.inl (by simp)) _) h2 hv
/-- one more that took effect -/
theorem RolIs.count {w : World} {B q p le ll ce cl sb : Nat} {g : Geo.G} {v : Value} {st : St} (h : RolIs w B q p le ll ce cl sb g v st) (a : Int) : RolIs (w.setCell ⟨q, 261, none⟩ (.int .i64 a)) B q p le ll ce cl sb g v { st with applied := a } := by
  obtain ⟨-, -, -, -, -, -, nv⟩ := h.ne
  have hO : Only [q] w (w.setCell ⟨q, 261, none⟩ (.int .i64 a)) := (Only.refl _ _).setCell (.inl (by simp)) _
  have h2 := heap_setCell_same w q 261 _ _ (.int .i64 a) h.hq
  rw [show (261 : Nat) = 256 + 5 from rfl, rolC_set] at h2
  exact h.cells st.first st.count a st.ol hO h2 (h.hv.only hO (fun k hk => by have := nv k hk; simp [this]))
end Go.Proofs.Ytoiephmngdecaaa
namespace Go.Proofs.Ytoiephmngdecaaa
open Go.RowKit Go.Rv Rl Frm
set_option linter.unusedVariables false
attribute [local go_sem] Oper.semAt_some
theorem Try.infoGrp : (Try.prog.info? 97).map (fun i => (i.zero, i.size)) = some (some (.agg #[.int .i64 0, .int .i64 0, .slice none 0 0]), 3) := by kernel_rfl
theorem built_grp0 : Try.prog.built 97 [] = some #[.int .i64 0, .int .i64 0, .slice none 0 0] := by kernel_rfl
theorem built_be0 : Try.prog.built 54 [] = some (BEC BE.zero) := by kernel_rfl
theorem rolC_size (p : Nat) (f c : Int) (v : Value) (sb n : Nat) (a : Int) : (rolC p f c v sb n a).size = 262 := by
  unfold rolC
  rw [Array.size_append, tabV_size]
  rfl
theorem RolIs.there {w : World} {B q p le ll ce cl sb : Nat} {g : Geo.G} {v : Value} {st : St} (h : RolIs w B q p le ll ce cl sb g v st) : w.there q 257 3 := by
  intro j hj
  have hs := rolC_size p st.first st.count v sb st.single.length st.applied
  refine ⟨?_, frozen_of_row _ _ _ _ _ h.hq⟩
  rw [cell_of_row _ _ _ _ _ _ h.hq, Array.getElem?_eq_getElem (by omega)]
  rfl
namespace Rl
/-- one block is nothing -/
def wipe (g : Geo.G) (st : St) (b : Int) : St := { st with es := setEs g st.es b BE.zero, single := st.single.set b.toNat 0 }
theorem trim_snoc (g : Geo.G) : ∀ (n : Nat) (b : Int) (st : St), trim g b (n + 1) st = wipe g (trim g b n st) (b + (n : Nat))
  | 0, b, st => by
    show { st with es := _, single := _ } = wipe g st _
    rw [show b + ((0 : Nat) : Int) = b by omega]
    rfl
  | n + 1, b, st => by
    have ih := trim_snoc g n (b + 1) { st with es := setEs g st.es b BE.zero, single := st.single.set b.toNat 0 }
    show trim g (b + 1) (n + 1) _ = _
    rw [ih, show b + 1 + (n : Int) = b + ((n + 1 : Nat) : Int) by omega]
    rfl
end Rl
theorem zeroE64 : E64 BE.zero := ⟨rfl, rfl, rfl, rfl, rfl, rfl⟩
set_option maxRecDepth 100000 in
set_option maxHeartbeats 16000000 in
theorem rother_any (w : World) (B q p le ll ce cl sb : Nat) (g : Geo.G) (v : Value) (st : St) (hr : Geo.right g = true) (h : RolIs w B q p le ll ce cl sb g v st) (c : Ch) (hq : ChQ c) (seq : Int) (hb : 0 ≤ c.r.e.block ∧ c.r.e.block < g.b) (hE : E64 (beOf seq c))
    (hm : 0 ≤ c.r.e.many ∧ c.r.e.block + c.r.e.many ≤ g.b) (hgb : g.b ≤ 256) (ha : -1000000 ≤ st.applied ∧ st.applied ≤ 1000000) :
    Calls Try.prog 32 #[.pointer (some ⟨q, 0, none⟩), .int .i64 seq, .agg (chC c)] w fun e w' => ∃ v', e = .returned (.tuple #[]) ∧ RolIs w' B q p le ll ce cl sb g v' (Rl.other g st seq c) ∧ Below B w w' := by
  have HLI := Lib.hid (fun (W : World) (v : Value) (st : St) hR => rlie_any W B q p le ll ce cl sb g v st hr hR c hq seq hb hE)
  have HBS := Lib.hid (fun (W : World) es hok hM (k : Int) => bset_any W p le ll ce cl g es hr hok hM k BE.zero zeroE64)
  have HBG := Lib.hid built_grp0
  have HBE := Lib.hid built_be0
  have HIG : Hid ((Try.prog.info? 97).map (·.size) = some (#[.int .i64 0, .int .i64 0, .slice none 0 0] : Array Value).size) := Lib.hid (zero_of_info Try.infoGrp).2
  have HCI := Lib.hid (size_ch hq)
  have hBs := h.hB.2.2.2.2.2
  obtain ⟨W1, hW1⟩ : ∃ W, w.alloc (.cells (chC c) 104) = W := ⟨_, rfl⟩
  have hb1 : Below w.heap.size w W1 := by rw [← hW1]; exact (Below.refl _ _).alloc (Nat.le_refl _) _
  have hc1 : W1.heap[w.heap.size]? = some (.cells (chC c) 104 (0, 0)) := by rw [← hW1]; exact heap_alloc_new w _
  have zc1 : w.heap.size < W1.heap.size := (Array.getElem?_eq_some_iff.1 hc1).1
  have hR1 := h.below hb1
  have hlt := (Array.getElem?_eq_some_iff.1 h.hq).1
  obtain ⟨W2, hW2⟩ : ∃ W, W1.setCells q 257 [.int .i64 0, .int .i64 0, .slice none 0 0] = W := ⟨_, rfl⟩
  have hR2 := hR1.group 0 0 (.slice none 0 0) [] (OwnM.nil _ _ _ _ _ _)
  have hO2 : Only [q] W1 W2 := by rw [← hW2]; exact Only.of_setCells q _ _ _
  rw [hW2] at hR2
  obtain ⟨W3, hW3⟩ : ∃ W, W2.setCell ⟨q, 261, none⟩ (.int .i64 (st.applied + 1)) = W := ⟨_, rfl⟩
  have hR3 := hR2.count (st.applied + 1)
  have hO3 : Only [q] W1 W3 := by rw [← hW3]; exact hO2.setCell (.inl (by simp)) _
  rw [hW3] at hR3
  have hB3 : Below B w W3 := (hb1.mono hBs).trans (hO3.below (by simp; exact h.hB.1) (by have := hb1.size; omega))
  have hc3 := hO3.get hc1 (by simp; omega)
  obtain ⟨k0, k3, k4, -, -, -, -⟩ := ch_cells hq hc3
  obtain ⟨-, -, -, -, -, a2⟩ := hR2.own
  have f2 : W2.frozen? ⟨q, 261, none⟩ = false := frozen_of_row _ _ _ _ _ hR2.hq
  have HW1 := Lib.hid hW1
  have HW2 := Lib.hid hW2
  have HW3 := Lib.hid hW3
  have HB3 := Lib.hid hB3
  have HC3 := Lib.hid hc3
  have HTH := Lib.hid hR1.there
  have HR3 := Lib.hid hR3
  have zc3 : w.heap.size < W3.heap.size := (Array.getElem?_eq_some_iff.1 hc3).1
  have HCC := Lib.hid (fun (W : World) (hh : W.heap[w.heap.size]? = some (.cells (chC c) 104 (0, 0))) => ch_cells hq hh)
  obtain ⟨st1, hst1⟩ : ∃ s, ({ shut st with applied := st.applied + 1 } : St) = s := ⟨_, rfl⟩
  have hR3' : RolIs W3 B q p le ll ce cl sb g (.slice none 0 0) st1 := by rw [← hst1]; exact hR3
  have HR := Lib.hid hR3'
  have HS1 : Hid (st1.single.length = g.b.toNat) := Lib.hid hR3'.hn
  have hBW3 := hR3'.hB.2.2.2.2.2
  have hother : Rl.other g st seq c = if c.r.e.kind = 3 then Rl.lie g st1 seq c else Rl.trim g c.r.e.block c.r.e.many.toNat st1 := by rw [← hst1]; rfl
  obtain ⟨res, hres⟩ : ∃ r, Rl.other g st seq c = r := ⟨_, rfl⟩
  rw [hres] at hother ⊢
  have HQB : Hid (B ≤ le ∧ B ≤ ll ∧ B ≤ sb) := Lib.hid ⟨h.hB.2.2.1, h.hB.2.2.2.1, h.hB.2.2.2.2.1⟩
  have HLT : Hid (le < w.heap.size ∧ ll < w.heap.size ∧ sb < w.heap.size) := Lib.hid ⟨h.hm.lt.2.1, h.hm.lt.2.2, (Array.getElem?_eq_some_iff.1 h.hs).1⟩
  have HSN : Hid (st.single.length = g.b.toNat) := Lib.hid h.hn
  clear h hb1 hc1 hR1 hR2 hO2 hR3 hO3 hB3 hc3 hW1 hW2 hW3 hR3' hst1 hres
  obtain ⟨X, hX⟩ : ∃ X, chC c = X := ⟨_, rfl⟩
  rw [hX] at HLI HCI HW1 HC3 HCC ⊢
  clear hX
  have hcase : ((c.r.e.kind == 3) = true ∧ res = Rl.lie g st1 seq c) ∨ ((c.r.e.kind == 3) = false ∧ res = Rl.trim g c.r.e.block c.r.e.many.toNat st1) := by
    by_cases h3 : c.r.e.kind = 3
    · exact .inl ⟨by simp [h3], by rw [hother, if_pos h3]⟩
    · exact .inr ⟨by simp [h3], by rw [hother, if_neg h3]⟩
  clear hother
  obtain ⟨kd, hkd⟩ : ∃ k, c.r.e.kind = k := ⟨_, rfl⟩
  obtain ⟨bl, hbl⟩ : ∃ k : Nat, c.r.e.block = k := ⟨c.r.e.block.toNat, by omega⟩
  obtain ⟨mn, hmn⟩ : ∃ k : Nat, c.r.e.many = k := ⟨c.r.e.many.toNat, by omega⟩
  rw [hkd] at k0 hcase
  rw [hbl] at k3 hcase hm
  rw [hmn] at k4 hcase hm
  simp only [hkd, hbl, hmn] at HCC
  simp only [Int.toNat_natCast] at hcase
  have hap := ha
  clear hkd hbl hmn hb
  go_enter Try.func32, Try.ntmps32
  go_upto_region 1 with (fail)
  rw [HW1.out]
  go_upto_region 2 with (first | (refine wpList_build_on (by rfl) 97 _ rfl #[] (by simp) _ HBG.out ?_) | (refine wpList_store_mid rfl 97 _ _ rfl q 257 #[.int .i64 0, .int .i64 0, .slice none 0 0] rfl rfl HTH.out HIG.out (by simp [Value.oneCell']) ?_))
  rw [HW2.out, put_none]
  go_upto_region 3 with (fail)
  rw [HW3.out]
  clear a2 f2
  rcases hcase with ⟨t1, rfl⟩ | ⟨t1, rfl⟩
  · have hL := HLI.out W3 _ _ HR.out
    have HL := Lib.hid hL
    clear hL
    go_wp2_with (refine wpList_load_row rfl 104 _ rfl w.heap.size rfl 104 _ _ _ HC3.out Try.underlying104 rfl HCI.out ?_)
    refine HL.out.mono ?_
    rintro e4 w4 ⟨rfl, hR4, hB4⟩
    have HR4 := Lib.hid hR4
    have HB4 := Lib.hid (HB3.out.trans hB4)
    clear hR4 hB4
    go_wp2
    refine bodyPost_ret (results_none rfl _ _ _) rfl ?_
    exact ⟨_, rfl, HR4.out, HB4.out⟩
  · have hmn256 : mn ≤ 256 := by omega
    have hbl256 : bl ≤ 256 := by omega
    go_wp2
    go_loopw [6] (fun u wr => ∃ k : Nat, k ≤ mn ∧ u = .int .i64 ((bl : Int) + (k : Nat)) ∧ RolIs wr B q p le ll ce cl sb g (.slice none 0 0) (Rl.trim g bl k st1) ∧ wr.heap[w.heap.size]? = some (.cells X 104 (0, 0)) ∧ Below B W3 wr) (fun u _ => mn - ((intOf u) - (bl : Int)).toNat)
    case atStart => exact ⟨0, Nat.zero_le _, by simp, HR.out, HC3.out, Below.refl _ _⟩
    case round =>
      obtain ⟨k, hk, rfl, hRk, hCk, hBk⟩ := hrel
      obtain ⟨-, d3, d4, -, -, -, -⟩ := HCC.out wr hCk
      have HRK := Lib.hid hRk
      have HCK := Lib.hid hCk
      have HBK := Lib.hid hBk
      have hlen : (Rl.trim g bl k st1).single.length = g.b.toNat := hRk.hn
      obtain ⟨a0, -, -, -, -, -⟩ := hRk.own
      clear hRk hCk hBk k0 k3 k4
      by_cases hlt : k < mn
      · have t9 : decide ((bl : Int) + (k : Nat) < (bl : Int) + (mn : Nat)) = true := decide_eq_true (by omega)
        have HS := Lib.hid (HBS.out wr _ HRK.out.hok HRK.out.hm ((bl : Int) + (k : Nat)))
        have hst : Rl.trim g bl (k + 1) st1 = Rl.wipe g (Rl.trim g bl k st1) ((bl : Int) + (k : Nat)) := Rl.trim_snoc g k bl st1
        have HST := Lib.hid hst
        have HLEN := Lib.hid hlen
        clear hst hlen
        obtain ⟨sk, hsk⟩ : ∃ s, Rl.trim g bl k st1 = s := ⟨_, rfl⟩
        rw [hsk] at HRK HS HST HLEN
        clear hsk
        go_wp2_with (refine wpList_build_on (by rfl) 54 _ rfl #[] (by simp) _ HBE.out ?_)
        refine HS.out.mono ?_
        rintro e5 w5 ⟨rfl, hM5, hO5⟩
        have hR5 := HRK.out.map hM5 (setEs_ok HRK.out.hok zeroE64 _) hO5
        have hj : bl + k < sk.single.length := by rw [HLEN.out]; omega
        obtain ⟨-, -, -, -, c5, -⟩ := hR5.own
        obtain ⟨x5, f5⟩ := hR5.one (j := bl + k) hj
        have hR6 := hR5.mark (bl + k) 0
        obtain ⟨W6, hW6⟩ : ∃ W, w5.setCell ⟨sb, bl + k, none⟩ (.int .i64 0) = W := ⟨_, rfl⟩
        have hO6 : Only [le, ll, sb] wr W6 := by rw [← hW6]; exact (hO5.mono (by simp)).setCell (.inl (by simp)) _
        rw [hW6] at hR6
        have hR7 : RolIs W6 B q p le ll ce cl sb g (.slice none 0 0) (Rl.trim g bl (k + 1) st1) := by
          rw [HST.out]
          unfold Rl.wipe
          rw [show ((bl : Int) + (k : Nat)).toNat = bl + k by omega]
          exact hR6
        have HR7 := Lib.hid hR7
        have HC7 := Lib.hid (hO6.get HCK.out (by have := HLT.out; simp only [List.mem_cons, List.mem_nil_iff, or_false]; omega))
        have HB7 := Lib.hid (HBK.out.trans (hO6.below (by have := HQB.out; simp only [List.mem_cons, List.mem_nil_iff, or_false]; rintro x (rfl | rfl | rfl) <;> omega) (by have := HBK.out.size; omega)))
        have HW6 := Lib.hid hW6
        have hln : sk.single.length ≤ 1000 := by rw [HLEN.out]; omega
        clear hM5 hO5 hR5 hR6 hR7 hO6 hW6 d3 d4 a0
        go_upto_region 7 with (fail)
        rw [HW6.out]
        clear c5 x5 f5
        go_wp2
        first | exact ⟨⟨k + 1, by omega, by go_num, HR7.out, HC7.out, HB7.out⟩, by simp [intOf]; omega⟩ | (go_roundw; exact ⟨k + 1, by omega, by go_num, HR7.out, HC7.out, HB7.out⟩; simp [intOf]; omega)
      · obtain rfl : k = mn := by omega
        have t9 : decide ((bl : Int) + (k : Nat) < (bl : Int) + (k : Nat)) = false := by simp
        clear t9
        go_wp2
        refine bodyPost_end (results_none rfl _ _ _) rfl ?_
        exact ⟨_, rfl, HRK.out, HB3.out.trans HBK.out⟩
end Go.Proofs.Ytoiephmngdecaaa
