/- Proved here: the contract of an entry's Right, at every entry; Plain laws: how many blocks lie in a zone, when an entry is set; the contract of the map's Set; the contract of the map's Set, at every block and entry; the one of New. -/
import Derived.Test.YtoiephmngdecaaaKah
namespace Go.Proofs.Ytoiephmngdecaaa
open Go.RowKit Go.Rv
set_option linter.unusedVariables false
def E64 (e : BE) : Prop := (Lit.int .i64 e.st).wf = true ∧ (Lit.int .i64 e.z).wf = true ∧ (Lit.int .i64 e.m).wf = true ∧ (Lit.int .i64 e.o).wf = true ∧ (Lit.int .i64 e.q).wf = true ∧ (Lit.int .i64 e.s).wf = true
def beLits (e : BE) : List Lit := [.int .i64 e.st, .int .i64 e.z, .int .i64 e.m, .int .i64 e.o, .int .i64 e.q, .int .i64 e.s]
theorem beLits_inj {a b : BE} (h : beLits a = beLits b) : a = b := by
  obtain ⟨a0, a1, a2, a3, a4, a5⟩ := a; obtain ⟨b0, b1, b2, b3, b4, b5⟩ := b; simp only [beLits, List.cons.injEq, Lit.int.injEq, true_and, and_true] at h; obtain ⟨rfl, rfl, rfl, rfl, rfl, rfl⟩ := h; rfl
theorem eq_be (a b : BE) (ha : E64 a) (hb : E64 b) (w : World) : (Op.equalIn 10000 54 (.agg (BEC a)) (.agg (BEC b))).run Try.prog w = .ok (decide (a = b)) w := by
  have k1 : Try.prog.cellsOf 3 = 1 := by kernel_rfl
  have k6 : Try.prog.cellsOf 54 = 6 := by kernel_rfl
  have i : ∀ n : Int, (Lit.int .i64 n).wf = true → Try.prog.keyLits 2 3 [.int .i64 n] = some [.int .i64 n] := by
    intro n hn; simp only [Program.keyLits, Try.underlying3, hn, and_self, if_true]
  have hl : ∀ e : BE, E64 e → Try.prog.keyLits 3 54 (BEC e).toList = some (beLits e) := by
    intro e hn; obtain ⟨n0, n1, n2, n3, n4, n5⟩ := hn; have hlen : (BEC e).toList.length = 6 := rfl; unfold Program.keyLits; simp only [Try.underlying54, k6, hlen]; rw [if_pos ⟨trivial, by decide +kernel⟩]; simp only [List.mapM_cons, List.mapM_nil, k1, BEC, List.drop, List.take, i _ n0, i _ n1, i _ n2, i _ n3, i _ n4, i _ n5]; simp [beLits]
  have hF : ∀ e : BE, (Value.agg (BEC e)).formed Try.prog 54 = true := by
    intro e; simp only [Value.formed, Try.underlying54, BEC_size]; kernel_rfl
  exact eq_deep (by kernel_rfl) (hF a) (hF b) (hl a ha) (hl b hb) _ (by rw [decide_eq_true_eq]; exact ⟨fun h => by rw [h], beLits_inj⟩) w
set_option maxRecDepth 100000 in
set_option maxHeartbeats 2000000 in
theorem bright_none (C D : Array Value) (e : BE) (b : Bool) (w : World) (hC : C = BEC e)
    (hcs : (e.st = 0 ∨ e.st = 2) ∧ (∀ W, (Op.equalIn 10000 54 (.agg (BEC e)) (.agg (BEC ⟨e.st, 0, 0, 0, 0, 0⟩))).run Try.prog W = .ok b W)) :
    Calls Try.prog 21 #[.agg C, .agg D] w fun x w' => x = .returned (.bool b) ∧ Below w.heap.size w w' := by
  subst hC; have hz := (zero_of_info Try.infoEnt).1; obtain ⟨W0, hW0, hB0, hE, hG, hz0⟩ := bright_setup (BEC e) D w; have k0 : W0.cell? ⟨w.heap.size, 0, none⟩ = some (.int .i64 e.st) := (cell_of_row _ _ _ _ _ _ hE).trans rfl; have HW0 := Lib.hid hW0; have HIE := Lib.hid (esize e); obtain ⟨hst, hq⟩ := hcs; have HQ := Lib.hid hq; clear hW0 hG hq; have HE := Lib.hid hE; rcases hst with h0 | h0
  · have t1 : (e.st == 0) = true := by simp [h0]
    clear h0; go_enter Try.func21, Try.ntmps21; go_upto_region 1 with (fail); rw [HW0.out]; go_wp2_with (first | (refine wpList_row_on (by rfl) 54 _ rfl w.heap.size rfl 54 _ _ _ HE.out Try.underlying54 rfl HIE.out ?_) | (refine wpList_eql_on (by rfl) 54 54 _ _ rfl (BEC e) (BEC ⟨e.st, 0, 0, 0, 0, 0⟩) rfl rfl (by kernel_rfl) b HQ.out ?_)); go_ret; exact ⟨rfl, hB0⟩
  · have t1 : (e.st == 0) = false := by simp [h0]
    have t2 : (e.st == 2) = true := by simp [h0]
    clear h0; go_enter Try.func21, Try.ntmps21; go_upto_region 1 with (fail); rw [HW0.out]; go_wp2_with (first | (refine wpList_row_on (by rfl) 54 _ rfl w.heap.size rfl 54 _ _ _ HE.out Try.underlying54 rfl HIE.out ?_) | (refine wpList_eql_on (by rfl) 54 54 _ _ rfl (BEC e) (BEC ⟨e.st, 0, 0, 0, 0, 0⟩) rfl rfl (by kernel_rfl) b HQ.out ?_)); go_ret; exact ⟨rfl, hB0⟩
set_option maxRecDepth 100000 in
set_option maxHeartbeats 2000000 in
theorem bright_other (e : BE) (D : Array Value) (w : World) (h0 : e.st ≠ 0) (h1 : e.st ≠ 1) (h2 : e.st ≠ 2) :
    Calls Try.prog 21 #[.agg (BEC e), .agg D] w fun x w' => x = .returned (.bool false) ∧ Below w.heap.size w w' := by
  obtain ⟨W0, hW0, hB0, hE, hG, hz0⟩ := bright_setup (BEC e) D w; have k0 : W0.cell? ⟨w.heap.size, 0, none⟩ = some (.int .i64 e.st) := (cell_of_row _ _ _ _ _ _ hE).trans rfl; have HW0 := Lib.hid hW0; have t0 : (e.st == 0) = false := by simpa using h0
  have t1 : (e.st == 1) = false := by simpa using h1
  have t2 : (e.st == 2) = false := by simpa using h2
  clear hW0 hG hE h0 h1 h2; generalize BEC e = C at *; go_enter Try.func21, Try.ntmps21; go_upto_region 1 with (fail); rw [HW0.out]; go_wp2; go_ret; exact ⟨rfl, hB0⟩
theorem bright_any (g : Geo.G) (e : BE) (w : World) (hr : Geo.right g = true) (hn : E64 e) :
    Calls Try.prog 21 #[.agg (BEC e), .agg (GC g)] w fun x w' => x = .returned (.bool (beRight g e)) ∧ Below w.heap.size w w' := by
  have hs := ((Geo.right_iff g).1 hr).1; unfold beRight; by_cases h0 : e.st = 0 ∨ e.st = 2
  · rw [if_pos h0]; exact bright_none (BEC e) (GC g) e _ w rfl ⟨h0, fun W => eq_be e ⟨e.st, 0, 0, 0, 0, 0⟩ hn ⟨hn.1, rfl, rfl, rfl, rfl, rfl⟩ W⟩
  · rw [if_neg h0]; by_cases h1 : e.st = 1
    · rw [if_pos h1]
      have hC : ∀ (W : World), W.heap[w.heap.size]? = some (.cells (BEC e) 54 (0, 0)) → W.cell? ⟨w.heap.size, 0, none⟩ = some (.int .i64 1) ∧ W.cell? ⟨w.heap.size, 1, none⟩ = some (.int .i64 e.z) ∧ W.cell? ⟨w.heap.size, 2, none⟩ = some (.int .i64 e.m) ∧ W.cell? ⟨w.heap.size, 3, none⟩ = some (.int .i64 e.o) ∧ W.cell? ⟨w.heap.size, 4, none⟩ = some (.int .i64 e.q) ∧ W.cell? ⟨w.heap.size, 5, none⟩ = some (.int .i64 e.s) := fun W hh => by
        have h2 := (cell_of_row _ _ _ _ _ _ hh).trans (show (BEC e)[0]? = some (.int .i64 1) by simp [BEC, h1]); exact ⟨h2, (cell_of_row _ _ _ _ _ _ hh).trans rfl, (cell_of_row _ _ _ _ _ _ hh).trans rfl, (cell_of_row _ _ _ _ _ _ hh).trans rfl, (cell_of_row _ _ _ _ _ _ hh).trans rfl, (cell_of_row _ _ _ _ _ _ hh).trans rfl⟩
      have H1 := fun (W : World) => gholds_any g e.z e.o W; have H2 := fun (W : World) => gholds_any g e.m e.o W; have D1 := fun (W : World) => gdomain_any g e.z W hs; have D2 := fun (W : World) => gdomain_any g e.m W hs; unfold beLive; cases c1 : holdsG g e.z e.o
      · rw [c1] at H1; exact bright_1 (BEC e) (GC g) e.z e.m e.o e.q e.s 0 0 w hC gsize H1
      rw [c1] at H1; cases c2 : holdsG g e.m e.o
      · rw [c2] at H2; exact bright_2 (BEC e) (GC g) e.z e.m e.o e.q e.s 0 0 w hC gsize H1 H2
      rw [c2] at H2; by_cases c3 : domOf g e.z = domOf g e.m
      · rw [show decide (domOf g e.z ≠ domOf g e.m) = false from decide_eq_false (fun h => h c3)]; rw [← c3] at D2; exact bright_3 (BEC e) (GC g) e.z e.m e.o e.q e.s _ 0 w hC gsize H1 H2 D1 D2
      rw [show decide (domOf g e.z ≠ domOf g e.m) = true from decide_eq_true c3]; have t3 : (domOf g e.z == domOf g e.m) = false := by simpa using c3
      cases c4 : decide (1 ≤ e.q)
      · exact bright_4 (BEC e) (GC g) e.z e.m e.o e.q e.s _ _ w hC gsize H1 H2 D1 D2 t3 c4
      cases c5 : decide (e.q ≤ 281474976710655)
      · exact bright_5 (BEC e) (GC g) e.z e.m e.o e.q e.s _ _ w hC gsize H1 H2 D1 D2 t3 c4 c5
      cases c6 : decide (0 ≤ e.s)
      · exact bright_6 (BEC e) (GC g) e.z e.m e.o e.q e.s _ _ w hC gsize H1 H2 D1 D2 t3 c4 c5 c6
      cases c7 : decide (e.s ≤ 4294967295)
      · exact bright_7 (BEC e) (GC g) e.z e.m e.o e.q e.s _ _ w hC gsize H1 H2 D1 D2 t3 c4 c5 c6 c7
      · exact bright_8 (BEC e) (GC g) e.z e.m e.o e.q e.s _ _ w hC gsize H1 H2 D1 D2 t3 c4 c5 c6 c7
    · rw [if_neg h1]; exact bright_other e (GC g) w (fun h => h0 (.inl h)) h1 (fun h => h0 (.inr h))
end Go.Proofs.Ytoiephmngdecaaa
namespace Go.Proofs.Ytoiephmngdecaaa
open Go.RowKit Go.Rv
set_option linter.unusedVariables false
/-- does an entry lie in a zone? -/
def hits (e : BE) (j : Int) : Bool := e.st == 1 && (e.z == j || e.m == j)
def liveN (es : List BE) (j : Int) : Nat := (es.filter fun e => hits e j).length
/-- how many lie in each of n zones -/
def liveL (n : Nat) (es : List BE) : List Int := (List.range n).map fun (j : Nat) => (liveN es j : Int)
theorem liveL_length (n : Nat) (es : List BE) : (liveL n es).length = n := by simp [liveL]
theorem liveL_at {n : Nat} {es : List BE} {j : Nat} (h : j < n) : (liveL n es)[j]? = some (liveN es j : Int) := by
  simp only [liveL, List.getElem?_map, List.getElem?_range h, Option.map_some]
theorem liveN_set : ∀ (es : List BE) (k : Nat) (old e : BE) (j : Int), es[k]? = some old → (liveN (es.set k e) j : Int) = liveN es j - (if hits old j then 1 else 0) + (if hits e j then 1 else 0)
  | [], k, old, e, j, h => by simp at h
  | x :: es, 0, old, e, j, h => by
    simp at h; subst h; simp only [List.set_cons_zero, liveN, List.filter_cons]; cases h1 : hits x j <;> cases h2 : hits e j <;> simp <;> omega
  | x :: es, k + 1, old, e, j, h => by
    have ih := liveN_set es k old e j (by simpa using h); simp only [List.set_cons_succ, liveN, List.filter_cons] at ih ⊢; cases h1 : hits x j <;> simp <;> omega
theorem liveN_le (es : List BE) (j : Int) : liveN es j ≤ es.length := List.length_filter_le _ _
/-- counted into two lists -/
def addE (lv : List Int) (e : BE) (b : Int) : List Int := if e.st = 1 then (lv.set e.z.toNat (lv.getD e.z.toNat 0 + b)).set e.m.toNat ((lv.set e.z.toNat (lv.getD e.z.toNat 0 + b)).getD e.m.toNat 0 + b) else lv
theorem addE_length (lv : List Int) (e : BE) (b : Int) : (addE lv e b).length = lv.length := by
  unfold addE; split <;> simp
/-- an entry whose zones, if it lives, are two of n -/
def ZOk (n : Nat) (e : BE) : Prop := e.st = 1 → (0 ≤ e.z ∧ e.z < n) ∧ (0 ≤ e.m ∧ e.m < n) ∧ e.z ≠ e.m
theorem addE_at {n : Nat} {lv : List Int} {e : BE} {b : Int} (hl : lv.length = n) (hz : ZOk n e) {j : Nat} (hj : j < n) : (addE lv e b).getD j 0 = lv.getD j 0 + if hits e j then b else 0 := by
  unfold addE; by_cases h1 : e.st = 1
  · obtain ⟨⟨hz1, hz2⟩, ⟨hm1, hm2⟩, hne⟩ := hz h1; rw [if_pos h1]; obtain ⟨z, hzz⟩ := Int.eq_ofNat_of_zero_le hz1; obtain ⟨m, hmm⟩ := Int.eq_ofNat_of_zero_le hm1; have hzm : z ≠ m := fun e => hne (by rw [hzz, hmm, e])
    have hh : hits e j = (z == j || m == j) := by
      simp only [hits, h1, hzz, hmm, beq_self_eq_true, Bool.true_and]; rw [Bool.eq_iff_iff]; simp; omega
    rw [hzz, hmm, hh]; simp only [Int.toNat_natCast]; have e1 : z < lv.length := by omega
    have e2 : m < lv.length := by omega
    have e3 : j < lv.length := by omega
    simp only [List.getD_eq_getElem?_getD, List.getElem?_set, List.length_set]; by_cases a1 : m = j
    · subst a1; have : z ≠ m := hzm; simp [this, e2]
    · by_cases a2 : z = j
      · subst a2; simp [a1, e1]
      · simp [a1, a2]
  · rw [if_neg h1]; have : hits e j = false := by simp [hits, h1]
    rw [this]; simp
/-- a block is set: the lists follow -/
theorem liveL_step {n : Nat} {es : List BE} {k : Nat} {old e : BE} (hk : es[k]? = some old) (ho : ZOk n old) (he : ZOk n e) : addE (addE (liveL n es) old (-1)) e 1 = liveL n (es.set k e) := by
  have hl1 : (addE (liveL n es) old (-1)).length = n := by rw [addE_length, liveL_length]
  apply List.ext_getElem?; intro j; by_cases hj : j < n
  · have e1 : j < (addE (addE (liveL n es) old (-1)) e 1).length := by rw [addE_length, hl1]; exact hj
    have h1 := addE_at (b := 1) hl1 he hj; have h2 := addE_at (b := -1) (liveL_length n es) ho hj; have h3 := liveN_set es k old e j hk; have h4 : (liveL n es).getD j 0 = (liveN es j : Int) := by rw [List.getD_eq_getElem?_getD, liveL_at hj]; rfl
    rw [liveL_at hj, List.getElem?_eq_getElem e1]; have h5 : (addE (addE (liveL n es) old (-1)) e 1).getD j 0 = (addE (addE (liveL n es) old (-1)) e 1)[j] := by rw [List.getD_eq_getElem?_getD, List.getElem?_eq_getElem e1]; rfl
    rw [← h5, h1, h2, h4, h3]; congr 1; split <;> split <;> omega
  · rw [List.getElem?_eq_none (by rw [addE_length, hl1]; omega), List.getElem?_eq_none (by rw [liveL_length]; omega)]
theorem zok_of_right {g : Geo.G} {e : BE} (hs : Geo.Small g) (h : beRight g e = true) : ZOk (g.d * g.z).toNat e := by
  intro h1; unfold beRight at h; rw [if_neg (by omega), if_pos h1] at h; unfold beLive holdsG at h; simp only [Bool.and_eq_true, decide_eq_true_eq, Geo.inB_iff] at h; obtain ⟨⟨-, ⟨a1, a2⟩, -⟩, ⟨-, ⟨b1, b2⟩, -⟩, hd, -⟩ := h; have hb := Geo.dz_bd hs; refine ⟨⟨a1, by omega⟩, ⟨b1, by omega⟩, fun e' => hd (by rw [e'])⟩
theorem zero_right (g : Geo.G) : beRight g BE.zero = true := by unfold beRight BE.zero; simp
/-- a map that may be: as many entries as there are blocks, each of them right; its counts are theirs -/
structure MapOk (g : Geo.G) (es : List BE) : Prop where
  len : (es.length : Int) = g.b
  ok : ∀ e ∈ es, beRight g e = true ∧ E64 e
theorem MapOk.set {g : Geo.G} {es : List BE} (h : MapOk g es) {e : BE} (he : beRight g e = true) (hn : E64 e) (k : Nat) : MapOk g (es.set k e) :=
  ⟨by rw [List.length_set]; exact h.len, fun x hx => by
    rcases List.mem_or_eq_of_mem_set hx with h1 | h1
    · exact h.ok x h1
    · rw [h1]; exact ⟨he, hn⟩⟩
end Go.Proofs.Ytoiephmngdecaaa
namespace Go.Proofs.Ytoiephmngdecaaa
open Go.RowKit Go.Rv
set_option linter.unusedVariables false
theorem flatE_set : ∀ (es : List BE) (k : Nat) (e : BE), k < es.length → flatE (es.set k e) = ((((((flatE es).set (k * 6) (.int .i64 e.st)).set (k * 6 + 1) (.int .i64 e.z)).set (k * 6 + 2) (.int .i64 e.m)).set (k * 6 + 3) (.int .i64 e.o)).set (k * 6 + 4) (.int .i64 e.q)).set (k * 6 + 5) (.int .i64 e.s)
  | [], k, e, h => by simp at h
  | x :: es, 0, e, h => by
    show (BEC e).toList ++ flatE es = _; simp only [flatE, List.flatMap_cons, BEC]; rfl
  | x :: es, k + 1, e, h => by
    have ih := flatE_set es k e (by simpa using h); have hx : (BEC x).toList = [.int .i64 x.st, .int .i64 x.z, .int .i64 x.m, .int .i64 x.o, .int .i64 x.q, .int .i64 x.s] := rfl; show (BEC x).toList ++ flatE (es.set k e) = ((((((((BEC x).toList ++ flatE es).set _ _).set _ _).set _ _).set _ _).set _ _).set _ _); rw [ih, hx, show (k + 1) * 6 = k * 6 + 6 by omega, show k * 6 + 6 + 1 = k * 6 + 1 + 6 by omega, show k * 6 + 6 + 2 = k * 6 + 2 + 6 by omega, show k * 6 + 6 + 3 = k * 6 + 3 + 6 by omega, show k * 6 + 6 + 4 = k * 6 + 4 + 6 by omega, show k * 6 + 6 + 5 = k * 6 + 5 + 6 by omega]; rfl
/-- the entry's six cells, stored -/
def putE (w : World) (le k : Nat) (e : BE) : World := (((((w.setCell ⟨le, k * 6, none⟩ (.int .i64 e.st)).setCell ⟨le, k * 6 + 1, none⟩ (.int .i64 e.z)).setCell ⟨le, k * 6 + 2, none⟩ (.int .i64 e.m)).setCell ⟨le, k * 6 + 3, none⟩ (.int .i64 e.o)).setCell ⟨le, k * 6 + 4, none⟩ (.int .i64 e.q)).setCell ⟨le, k * 6 + 5, none⟩ (.int .i64 e.s)
theorem putE_only (w : World) (le k : Nat) (e : BE) : Only [le] w (putE w le k e) :=
  ((((((Only.refl [le] w).setCell (.inl (by simp)) _).setCell (.inl (by simp)) _).setCell (.inl (by simp)) _).setCell (.inl (by simp)) _).setCell (.inl (by simp)) _).setCell (.inl (by simp)) _
theorem BmIs.putE {w : World} {p le ll ce cl : Nat} {g : Geo.G} {es : List BE} {lv : List Int} (h : BmIs w p le ll ce cl g es lv) {k : Nat} (hk : k < es.length) (e : BE) :
    BmIs (putE w le k e) p le ll ce cl g (es.set k e) lv := by
  obtain ⟨hn1, hn2, hn3⟩ := h.ne; have hO := putE_only w le k e; obtain ⟨L, hL, hL2⟩ := h.he; obtain ⟨V, hV, hV2⟩ := h.hl; have hlen : (es.set k e).length = es.length := List.length_set; refine ⟨by rw [hlen]; exact hO.get h.hp (by simpa using hn1), ?_, ⟨V, hO.get hV (by simpa using Ne.symm hn3), hV2⟩, by rw [hlen]; exact h.h1, h.h2⟩; have s1 := heap_setCell_same w le (k * 6) _ _ (.int .i64 e.st) hL; have s2 := heap_setCell_same _ le (k * 6 + 1) _ _ (.int .i64 e.z) s1; have s3 := heap_setCell_same _ le (k * 6 + 2) _ _ (.int .i64 e.m) s2; have s4 := heap_setCell_same _ le (k * 6 + 3) _ _ (.int .i64 e.o) s3; have s5 := heap_setCell_same _ le (k * 6 + 4) _ _ (.int .i64 e.q) s4; have s6 := heap_setCell_same _ le (k * 6 + 5) _ _ (.int .i64 e.s) s5; refine ⟨_, s6, ?_⟩; rw [hlen, flatE_set es k e hk]; simp only [Array.toList_setIfInBounds, List.take_set, hL2]
theorem BmIs.ent_free {w : World} {p le ll ce cl : Nat} {g : Geo.G} {es : List BE} {lv : List Int} (h : BmIs w p le ll ce cl g es lv) (j : Nat) : w.frozen? ⟨le, j, none⟩ = false := by
  obtain ⟨L, hL, -⟩ := h.he; exact frozen_of_row _ _ _ _ _ hL
set_option maxRecDepth 100000 in
set_option maxHeartbeats 2000000 in
theorem bset_out (w : World) (p le ll ce cl : Nat) (g : Geo.G) (es : List BE) (lv : List Int) (h : BmIs w p le ll ce cl g es lv) (k : Int) (e : BE) (hk : k < 0 ∨ (es.length : Int) ≤ k) :
    Calls Try.prog 25 #[.pointer (some ⟨p, 0, none⟩), .int .i64 k, .agg (BEC e)] w fun x w' => x = .returned (.int .i64 13) ∧ Below w.heap.size w w' := by
  have hz := (zero_of_info Try.infoEnt).1; have hal := (Below.refl w.heap.size w).alloc (Nat.le_refl _) (.cells (BEC e) 54); have HG := Lib.hid (bget_out _ p le ll ce cl g es lv (h.below hal) k hk); have HIE := Lib.hid (fun e => esize e); have HON := Lib.hid (fun e => BEC_one e); clear h hk; generalize BEC e = C at *; go_enter Try.func25, Try.ntmps25; go_wp2_with fail; refine HG.out.mono ?_; rintro x w1 ⟨rfl, hB1⟩; have hB2 := hal.trans (hB1.mono hal.size); have hB3 := hB2.alloc hB2.size (.cells (BEC BE.zero) 54); clear hal hB1; go_wp2_with (refine wpList_store_row rfl 54 _ _ rfl w1.heap.size (BEC BE.zero) rfl rfl 54 (BEC BE.zero) (heap_alloc_new w1 _) (HIE.out _) rfl (HON.out _) ?_; rw [World.setRow_alloc_new]); go_ret; exact ⟨rfl, hB3⟩
set_option maxRecDepth 100000 in
set_option maxHeartbeats 4000000 in
theorem bset_bad (w : World) (p le ll ce cl : Nat) (g : Geo.G) (es : List BE) (lv : List Int) (h : BmIs w p le ll ce cl g es lv) (k : Nat) (e old : BE) (hk : es[k]? = some old) (hn : es.length ≤ 100000) (hrt : ∀ W, Calls Try.prog 21 #[.agg (BEC e), .agg (GC g)] W fun x w' => x = .returned (.bool false) ∧ Below W.heap.size W w') :
    Calls Try.prog 25 #[.pointer (some ⟨p, 0, none⟩), .int .i64 (k : Nat), .agg (BEC e)] w fun x w' => x = .returned (.int .i64 10) ∧ Below w.heap.size w w' := by
  have hz := (zero_of_info Try.infoEnt).1; have hal := (Below.refl w.heap.size w).alloc (Nat.le_refl _) (.cells (BEC e) 54); have hnew := heap_alloc_new w (.cells (BEC e) 54); obtain ⟨W0, hW0⟩ : ∃ W0, w.alloc (.cells (BEC e) 54) = W0 := ⟨_, rfl⟩; rw [hW0] at hal hnew; have HG := Lib.hid (bget_in _ p le ll ce cl g es lv (h.below hal) k old hk hn); have HIE := Lib.hid (fun e => esize e); have HON := Lib.hid (fun e => BEC_one e); have HW0 := Lib.hid hW0; have HRT := Lib.hid hrt; have HB := Lib.hid h; have hkl0 : k < es.length := (List.getElem?_eq_some_iff.1 hk).1; have hce := h.h1; have HKO := Lib.hid hk; have zW := (Array.getElem?_eq_some_iff.1 hnew).1; clear hW0 hrt h; go_enter Try.func25, Try.ntmps25; go_upto_region 1 with (fail); rw [HW0.out]; go_wp2_with fail; refine HG.out.mono ?_; rintro x w1 ⟨rfl, hB1⟩; have hB2 := hal.trans (hB1.mono hal.size); obtain ⟨W2, hW2⟩ : ∃ W2, w1.alloc (.cells (BEC old) 54) = W2 := ⟨_, rfl⟩; have hbb : Below w1.heap.size w1 W2 := by rw [← hW2]; exact (Below.refl w1.heap.size w1).alloc (Nat.le_refl _) _
  have hO2 : Below w.heap.size w W2 := hB2.trans (hbb.mono hB2.size); have hE2 := (hbb.block w.heap.size (by have := hB1.size; omega)).trans ((hB1.block w.heap.size zW).trans hnew); have hD2 : W2.heap[w1.heap.size]? = some (.cells (BEC old) 54 (0, 0)) := by rw [← hW2]; exact heap_alloc_new w1 _
  have HW2 := Lib.hid hW2; have HE2 := Lib.hid hE2; have HD2 := Lib.hid hD2; have z2 := (Array.getElem?_eq_some_iff.1 hD2).1; have z1 := hB1.size; clear hal hnew hB1 hW2 hE2 hD2 hbb hB2 HG hk; generalize hC : BEC e = C at *; have HC := Lib.hid hC; clear hC; go_upto_region 2 with (refine wpList_store_row rfl 54 _ _ rfl w1.heap.size (BEC old) rfl rfl 54 (BEC BE.zero) (heap_alloc_new w1 _) (HIE.out _) rfl (HON.out _) ?_; rw [World.setRow_alloc_new]); rw [HW2.out]; clear HW2; go_wp2; have HIC : Hid ((Try.prog.info? 54).map (·.size) = some C.size) := Lib.hid (by rw [← HC.out]; exact HIE.out _); have HRC := HRT; refine wp_region_conf2 7 [Fact.eq ?rax0, Fact.eq ?rax1, Fact.eq ?rax2, Fact.eq ?rax3, Fact.eq (.agg (GC g)), Fact.eq ?rax5, Fact.eq ?rax6] ?raA (by kernel_rfl) (by kernel_rfl) ?rahA ?raho ?rahend
  case rahA =>
    intro vv; simp only [putRules, Nat.reduceAdd]; rfl
  case raho =>
    refine ⟨?_, ?_, ?_, ?_, ?_, ?_, ?_, trivial⟩
    · intro vv W K hB hd HK; simp only [confRules] at HK; clear hd; have hT := (hB.block w.heap.size (by omega)).trans HE2.out; go_wp2_with (refine wpList_row_on (by rfl) 54 _ rfl w.heap.size rfl 54 _ _ _ hT Try.underlying54 rfl HIC.out ?_); refine HK.out _ _ (Below.refl _ _) ?_; rfl
    · intro vv W K hB hd HK; simp only [confRules] at HK; clear hd; go_wp2; refine HK.out _ _ (Below.refl _ _) ?_; rfl
    · intro vv W K hB hd HK; simp only [confRules] at hd HK; have h1 := hd; clear hd; simp only [h1] at HK ⊢; clear h1; go_wp2; refine HK.out _ _ (Below.refl _ _) ?_; rfl
    · intro vv W K hB hd HK; simp only [confRules] at hd HK; have h2 := hd; clear hd; simp only [h2] at HK ⊢; clear h2; go_wp2; refine HK.out _ _ (Below.refl _ _) ?_; rfl
    · intro vv W K hB hd HK; simp only [confRules] at hd HK; have h3 := hd; clear hd; simp only [h3] at HK ⊢; clear h3; have hbA := HB.out.below (hO2.trans (hB.mono hO2.size)); obtain ⟨c0, c1, c2, c3, c4, c5⟩ := hbA.geo; clear hbA; go_wp2; refine HK.out _ _ (Below.refl _ _) ?_; rfl
    · intro vv W K hB hd HK; simp only [confRules] at hd HK; obtain ⟨h0, h4⟩ := hd; simp only [h0, h4] at HK ⊢; clear h0 h4; go_wp2_with (refine (HRC.out _).mono ?_; rintro e w9 ⟨rfl, hB9⟩); refine HK.out _ _ hB9 ?_; rfl
    · intro vv W K hB hd HK; simp only [confRules] at hd HK; have h5 := hd; clear hd; simp only [h5] at HK ⊢; clear h5; go_wp2; refine HK.out _ _ (Below.refl _ _) ?_; rfl
  case rahend =>
    intro vv W hB hf; have e6 := hf 6 (by decide); simp only [endRules] at e6; simp only [e6, dropRules]; clear hf e6; go_wp2; go_ret; exact ⟨rfl, hO2.trans (hB.mono hO2.size)⟩
set_option maxRecDepth 100000 in
set_option maxHeartbeats 4000000 in
theorem bset_ok (w : World) (p le ll ce cl : Nat) (g : Geo.G) (es : List BE) (lv : List Int) (h : BmIs w p le ll ce cl g es lv) (k : Nat) (e old : BE) (hk : es[k]? = some old) (hn : es.length ≤ 100000) (lv1 lv2 : List Int) (hrt : ∀ W, Calls Try.prog 21 #[.agg (BEC e), .agg (GC g)] W fun x w' => x = .returned (.bool true) ∧ Below W.heap.size W w')
    (hc1 : ∀ W, BmIs W p le ll ce cl g es lv → Calls Try.prog 48 #[.pointer (some ⟨p, 0, none⟩), .agg (BEC old), .int .i64 (-1)] W fun x w' => (∃ v, x = .returned v) ∧ BmIs w' p le ll ce cl g es lv1 ∧ Only [ll] W w')
    (hc2 : ∀ W, BmIs W p le ll ce cl g es lv1 → Calls Try.prog 48 #[.pointer (some ⟨p, 0, none⟩), .agg (BEC e), .int .i64 1] W fun x w' => (∃ v, x = .returned v) ∧ BmIs w' p le ll ce cl g es lv2 ∧ Only [ll] W w') :
    Calls Try.prog 25 #[.pointer (some ⟨p, 0, none⟩), .int .i64 (k : Nat), .agg (BEC e)] w fun x w' => x = .returned (.int .i64 0) ∧ BmIs w' p le ll ce cl g (es.set k e) lv2 ∧ Only [le, ll] w w' := by
  have hz := (zero_of_info Try.infoEnt).1; have hal := (Below.refl w.heap.size w).alloc (Nat.le_refl _) (.cells (BEC e) 54); have hnew := heap_alloc_new w (.cells (BEC e) 54); obtain ⟨W0, hW0⟩ : ∃ W0, w.alloc (.cells (BEC e) 54) = W0 := ⟨_, rfl⟩; rw [hW0] at hal hnew; have HG := Lib.hid (bget_in _ p le ll ce cl g es lv (h.below hal) k old hk hn); have HIE := Lib.hid (fun e => esize e); have HON := Lib.hid (fun e => BEC_one e); have HW0 := Lib.hid hW0; have HRT := Lib.hid hrt; have HB := Lib.hid h; have hkl0 : k < es.length := (List.getElem?_eq_some_iff.1 hk).1; have hce := h.h1; have HKO := Lib.hid hk; have zW := (Array.getElem?_eq_some_iff.1 hnew).1; clear hW0 hrt h; go_enter Try.func25, Try.ntmps25; go_upto_region 1 with (fail); rw [HW0.out]; go_wp2_with fail; refine HG.out.mono ?_; rintro x w1 ⟨rfl, hB1⟩; have hB2 := hal.trans (hB1.mono hal.size); obtain ⟨W2, hW2⟩ : ∃ W2, w1.alloc (.cells (BEC old) 54) = W2 := ⟨_, rfl⟩; have hbb : Below w1.heap.size w1 W2 := by rw [← hW2]; exact (Below.refl w1.heap.size w1).alloc (Nat.le_refl _) _
  have hO2 : Below w.heap.size w W2 := hB2.trans (hbb.mono hB2.size); have hE2 := (hbb.block w.heap.size (by have := hB1.size; omega)).trans ((hB1.block w.heap.size zW).trans hnew); have hD2 : W2.heap[w1.heap.size]? = some (.cells (BEC old) 54 (0, 0)) := by rw [← hW2]; exact heap_alloc_new w1 _
  have HW2 := Lib.hid hW2; have HE2 := Lib.hid hE2; have HD2 := Lib.hid hD2; have z2 := (Array.getElem?_eq_some_iff.1 hD2).1; have z1 := hB1.size; clear hal hnew hB1 hW2 hE2 hD2 hbb hB2 HG hk; generalize hC : BEC e = C at *; have HC := Lib.hid hC; clear hC; go_upto_region 2 with (refine wpList_store_row rfl 54 _ _ rfl w1.heap.size (BEC old) rfl rfl 54 (BEC BE.zero) (heap_alloc_new w1 _) (HIE.out _) rfl (HON.out _) ?_; rw [World.setRow_alloc_new]); rw [HW2.out]; clear HW2; go_wp2; have HIC : Hid ((Try.prog.info? 54).map (·.size) = some C.size) := Lib.hid (by rw [← HC.out]; exact HIE.out _); have HRC := HRT; refine wp_region_conf2 7 [Fact.eq ?rax0, Fact.eq ?rax1, Fact.eq ?rax2, Fact.eq ?rax3, Fact.eq (.agg (GC g)), Fact.eq ?rax5, Fact.eq ?rax6] ?raA (by kernel_rfl) (by kernel_rfl) ?rahA ?raho ?rahend
  case rahA =>
    intro vv; simp only [putRules, Nat.reduceAdd]; rfl
  case raho =>
    refine ⟨?_, ?_, ?_, ?_, ?_, ?_, ?_, trivial⟩
    · intro vv W K hB hd HK; simp only [confRules] at HK; clear hd; have hT := (hB.block w.heap.size (by omega)).trans HE2.out; go_wp2_with (refine wpList_row_on (by rfl) 54 _ rfl w.heap.size rfl 54 _ _ _ hT Try.underlying54 rfl HIC.out ?_); refine HK.out _ _ (Below.refl _ _) ?_; rfl
    · intro vv W K hB hd HK; simp only [confRules] at HK; clear hd; go_wp2; refine HK.out _ _ (Below.refl _ _) ?_; rfl
    · intro vv W K hB hd HK; simp only [confRules] at hd HK; have h1 := hd; clear hd; simp only [h1] at HK ⊢; clear h1; go_wp2; refine HK.out _ _ (Below.refl _ _) ?_; rfl
    · intro vv W K hB hd HK; simp only [confRules] at hd HK; have h2 := hd; clear hd; simp only [h2] at HK ⊢; clear h2; go_wp2; refine HK.out _ _ (Below.refl _ _) ?_; rfl
    · intro vv W K hB hd HK; simp only [confRules] at hd HK; have h3 := hd; clear hd; simp only [h3] at HK ⊢; clear h3; have hbA := HB.out.below (hO2.trans (hB.mono hO2.size)); obtain ⟨c0, c1, c2, c3, c4, c5⟩ := hbA.geo; clear hbA; go_wp2; refine HK.out _ _ (Below.refl _ _) ?_; rfl
    · intro vv W K hB hd HK; simp only [confRules] at hd HK; obtain ⟨h0, h4⟩ := hd; simp only [h0, h4] at HK ⊢; clear h0 h4; go_wp2_with (refine (HRC.out _).mono ?_; rintro e w9 ⟨rfl, hB9⟩); refine HK.out _ _ hB9 ?_; rfl
    · intro vv W K hB hd HK; simp only [confRules] at hd HK; have h5 := hd; clear hd; simp only [h5] at HK ⊢; clear h5; go_wp2; refine HK.out _ _ (Below.refl _ _) ?_; rfl
  case rahend =>
    intro vv W hB hf; have e6 := hf 6 (by decide); simp only [endRules] at e6; simp only [e6, dropRules]; clear hf e6; have hb4 := HB.out.below (hO2.trans (hB.mono hO2.size)); have hOa : Only [le, ll] w W := Only.of_below (hO2.trans (hB.mono hO2.size)); have hD4 := (hB.block w1.heap.size z2).trans HD2.out; have hE4 := (hB.block w.heap.size (by omega)).trans HE2.out; obtain ⟨hl1, hl2, hl3⟩ := HB.out.lt; have HC1 := Lib.hid (hc1 W hb4); have HC2 := Lib.hid hc2; have zW4 := hB.size; clear hc1 hc2 hb4 hB hO2; go_wp2_with (refine wpList_row_on (by rfl) 54 _ rfl w1.heap.size rfl 54 _ _ _ hD4 Try.underlying54 rfl (HIE.out _) ?_); refine HC1.out.mono ?_; rintro x w5 ⟨⟨v5, rfl⟩, hb5, hO5⟩; have hE5 := hO5.get hE4 (by simp; omega); have HC3 := Lib.hid (HC2.out w5 hb5); have hOb := hOa.trans (hO5.mono (T := [le, ll]) (by simp)); have z5 := hO5.size; clear hb5 hO5 hOa HC1 HC2 hE4 hD4; go_wp2_with (refine wpList_row_on (by rfl) 54 _ rfl w.heap.size rfl 54 _ _ _ hE5 Try.underlying54 rfl HIC.out ?_); refine HC3.out.mono ?_; rintro x w6 ⟨⟨v6, rfl⟩, hb6, hO6⟩; have hE6 := hO6.get hE5 (by simp; omega); have hOc := hOb.trans (hO6.mono (T := [le, ll]) (by simp)); have z6 := hO6.size; have HB6 := Lib.hid hb6; have HE6 := Lib.hid hE6; clear hb6 hO6 hE6 hE5 hOb; go_wp2; have hkl : k < es.length := hkl0; refine wp_region_conf2 7 [Fact.eq ?rbx0, Fact.eq ?rbx1, Fact.eq ?rbx2, Fact.eq ?rbx3, Fact.eq ?rbx4, Fact.eq ?rbx5, Fact.eq ?rbx6] ?rbA (by kernel_rfl) (by kernel_rfl) ?rbhA ?rbho ?rbhend
    case rbhA =>
      intro vv; simp only [putRules, Nat.reduceAdd]; rfl
    case rbho =>
      refine ⟨?_, ?_, ?_, ?_, ?_, ?_, ?_, trivial⟩
      · intro vv W K hB hd HK; simp only [confRules] at HK; clear hd; go_wp2; refine HK.out _ _ (Below.refl _ _) ?_; rfl
      · intro vv W K hB hd HK; simp only [confRules] at hd HK; have h0 := hd; clear hd; simp only [h0] at HK ⊢; clear h0; go_wp2; refine HK.out _ _ (Below.refl _ _) ?_; rfl
      · intro vv W K hB hd HK; simp only [confRules] at hd HK; have h1 := hd; clear hd; simp only [h1] at HK ⊢; clear h1; go_wp2; refine HK.out _ _ (Below.refl _ _) ?_; rfl
      · intro vv W K hB hd HK; simp only [confRules] at hd HK; have h2 := hd; clear hd; simp only [h2] at HK ⊢; clear h2; have hbA := HB6.out.below hB; obtain ⟨c6, c7⟩ := hbA.cells; clear hbA; go_wp2; refine HK.out _ _ (Below.refl _ _) ?_; rfl
      · intro vv W K hB hd HK; simp only [confRules] at HK; clear hd; go_wp2; refine HK.out _ _ (Below.refl _ _) ?_; rfl
      · intro vv W K hB hd HK; simp only [confRules] at HK; clear hd; have hT := (hB.block w.heap.size (by omega)).trans HE6.out; go_wp2_with (refine wpList_row_on (by rfl) 54 _ rfl w.heap.size rfl 54 _ _ _ hT Try.underlying54 rfl HIC.out ?_); refine HK.out _ _ (Below.refl _ _) ?_; rfl
      · intro vv W K hB hd HK; simp only [confRules] at hd HK; obtain ⟨h3, h4, h0, h1, h2, _, _, h5⟩ := hd; simp only [h3, h4, h0, h1, h2, h5] at HK ⊢; clear h3 h4 h0 h1 h2 h5; go_wp2; refine HK.out _ _ (Below.refl _ _) ?_; rfl
    case rbhend =>
      intro vv W hB hf; have e5 := hf 5 (by decide); have e6 := hf 6 (by decide); simp only [endRules] at e5 e6; simp only [e5, e6, dropRules]; clear hf e5 e6; have hb8 := HB6.out.below hB; obtain ⟨e0, e1, e2, e3, e4, e5⟩ := hb8.ent HKO.out; have hfz := hb8.ent_free; have hpe := hb8.putE hkl0 e; have hOd := (hOc.trans (Only.of_below hB)).trans ((putE_only W le k e).mono (T := [le, ll]) (by simp)); obtain ⟨f0, f1, f2, f3, f4, f5⟩ : W.frozen? ⟨le, k * 6, none⟩ = false ∧ W.frozen? ⟨le, k * 6 + 1, none⟩ = false ∧ W.frozen? ⟨le, k * 6 + 2, none⟩ = false ∧ W.frozen? ⟨le, k * 6 + 3, none⟩ = false ∧ W.frozen? ⟨le, k * 6 + 4, none⟩ = false ∧ W.frozen? ⟨le, k * 6 + 5, none⟩ = false := ⟨hfz _, hfz _, hfz _, hfz _, hfz _, hfz _⟩; have HPE := Lib.hid hpe; have HOD := Lib.hid hOd; rw [← HC.out]; clear hb8 hfz hpe hOd; unfold BEC; go_wp2; go_ret; exact ⟨rfl, HPE.out, HOD.out⟩
end Go.Proofs.Ytoiephmngdecaaa
namespace Go.Proofs.Ytoiephmngdecaaa
open Go.RowKit Go.Rv
set_option linter.unusedVariables false
theorem bcnt_any (w : World) (p le ll ce cl : Nat) (g : Geo.G) (es : List BE) (lv : List Int) (h : BmIs w p le ll ce cl g es lv) (e : BE) (b : Int) (hz : ZOk lv.length e) (hb : -1 ≤ b ∧ b ≤ 1) (hv : ∀ x ∈ lv, -99999 ≤ x ∧ x ≤ 99999) (hn : lv.length ≤ 100000) :
    Calls Try.prog 48 #[.pointer (some ⟨p, 0, none⟩), .agg (BEC e), .int .i64 b] w fun x w' => (∃ v, x = .returned v) ∧ BmIs w' p le ll ce cl g es (addE lv e b) ∧ Only [ll] w w' := by
  by_cases h1 : e.st = 1
  · obtain ⟨⟨hz1, hz2⟩, ⟨hm1, hm2⟩, hne⟩ := hz h1; obtain ⟨st, z, m, o, q, s⟩ := e; simp only at h1 hz1 hz2 hm1 hm2; subst h1; obtain ⟨z, rfl⟩ := Int.eq_ofNat_of_zero_le hz1; obtain ⟨m, rfl⟩ := Int.eq_ofNat_of_zero_le hm1; have hzl : z < lv.length := by omega
    have hml : m < lv.length := by omega
    have ex : lv[z]? = some lv[z] := List.getElem?_eq_getElem hzl; have hx := hv lv[z] (List.getElem_mem hzl); have hml' : m < (lv.set z (lv[z] + b)).length := by rw [List.length_set]; exact hml
    have ey : (lv.set z (lv[z] + b))[m]? = some (lv.set z (lv[z] + b))[m] := List.getElem?_eq_getElem hml'
    have hy : -100000 ≤ (lv.set z (lv[z] + b))[m] ∧ (lv.set z (lv[z] + b))[m] ≤ 100000 := by
      rw [List.getElem_set]; split
      · omega
      · have := hv lv[m] (List.getElem_mem hml); omega
    have ha : addE lv ⟨1, (z : Nat), (m : Nat), o, q, s⟩ b = (lv.set z (lv[z] + b)).set m ((lv.set z (lv[z] + b))[m] + b) := by
      unfold addE; rw [if_pos rfl]; simp only [Int.toNat_natCast]; rw [show lv.getD z 0 = lv[z] by rw [List.getD_eq_getElem?_getD, ex]; rfl, show (lv.set z (lv[z] + b)).getD m 0 = (lv.set z (lv[z] + b))[m] by rw [List.getD_eq_getElem?_getD, ey]; rfl]
    rw [ha]; exact bcnt_yes w p le ll ce cl g es lv h z m o q s b _ _ ex ey hb ⟨by omega, by omega⟩ hy hn
  · have ha : addE lv e b = lv := if_neg h1; rw [ha]; refine (bcnt_no w p e b (by simpa using h1)).mono ?_; rintro x w' ⟨hx, hB⟩; exact ⟨hx, h.below hB, Only.of_below hB⟩
/-- what Set answers, and what it leaves -/
def setErr (g : Geo.G) (es : List BE) (k : Int) (e : BE) : Int := if k < 0 ∨ (es.length : Int) ≤ k then 13 else if beRight g e = true then 0 else 10
def setEs (g : Geo.G) (es : List BE) (k : Int) (e : BE) : List BE := if k < 0 ∨ (es.length : Int) ≤ k then es else if beRight g e = true then es.set k.toNat e else es
def nz (g : Geo.G) : Nat := (g.d * g.z).toNat
theorem setEs_ok {g : Geo.G} {es : List BE} (h : MapOk g es) {e : BE} (hn : E64 e) (k : Int) : MapOk g (setEs g es k e) := by
  unfold setEs; split
  · exact h
  · split
    · exact h.set (by assumption) hn _
    · exact h
theorem setEs_length (g : Geo.G) (es : List BE) (k : Int) (e : BE) : (setEs g es k e).length = es.length := by
  unfold setEs; split
  · rfl
  · split
    · simp
    · rfl
theorem bset_any (w : World) (p le ll ce cl : Nat) (g : Geo.G) (es : List BE) (hr : Geo.right g = true) (hM : MapOk g es) (h : BmIs w p le ll ce cl g es (liveL (nz g) es)) (k : Int) (e : BE) (hn : E64 e) :
    Calls Try.prog 25 #[.pointer (some ⟨p, 0, none⟩), .int .i64 k, .agg (BEC e)] w fun x w' => x = .returned (.int .i64 (setErr g es k e)) ∧ BmIs w' p le ll ce cl g (setEs g es k e) (liveL (nz g) (setEs g es k e)) ∧ Only [le, ll] w w' := by
  have hs := ((Geo.right_iff g).1 hr).1; have hes : es.length ≤ 256 := by have h1 := hM.len; have h2 := hs.2.2.2.1.2; omega
  have hnz : nz g ≤ 512 := by have := (Geo.dz_bd hs).2; unfold nz; omega
  unfold setErr setEs; by_cases hk : k < 0 ∨ (es.length : Int) ≤ k
  · rw [if_pos hk, if_pos hk]; refine (bset_out w p le ll ce cl g es _ h k e hk).mono ?_; rintro x w' ⟨hx, hB⟩; exact ⟨hx, h.below hB, Only.of_below hB⟩
  · rw [if_neg hk, if_neg hk]; obtain ⟨j, rfl⟩ : ∃ j : Nat, k = j := ⟨k.toNat, by omega⟩; have hj : j < es.length := by omega
    have hold : es[j]? = some es[j] := List.getElem?_eq_getElem hj; have hR := fun (W : World) => bright_any g e W hr hn; cases hb : beRight g e
    · rw [hb] at hR; simp only [Bool.false_eq_true, if_false]; refine (bset_bad w p le ll ce cl g es _ h j e _ hold (by omega) hR).mono ?_; rintro x w' ⟨hx, hB⟩; exact ⟨hx, h.below hB, Only.of_below hB⟩
    · rw [hb] at hR; simp only [if_true, Int.toNat_natCast]; have ho : ZOk (nz g) es[j] := zok_of_right hs (hM.ok _ (List.getElem_mem hj)).1; have he : ZOk (nz g) e := zok_of_right hs hb; have hst := liveL_step hold ho he
      have hlv : ∀ x ∈ liveL (nz g) es, 0 ≤ x ∧ x ≤ 256 := fun x hx => by
        simp only [liveL, List.mem_map, List.mem_range] at hx; obtain ⟨a, ha, rfl⟩ := hx; have := liveN_le es a; omega
      have hlv1 : ∀ x ∈ addE (liveL (nz g) es) es[j] (-1), -99999 ≤ x ∧ x ≤ 99999 := fun x hx => by
        obtain ⟨i, hi, rfl⟩ := List.getElem_of_mem hx; have hi' : i < nz g := by rw [addE_length, liveL_length] at hi; exact hi
        have h1 := addE_at (b := -1) (liveL_length (nz g) es) ho hi'; rw [List.getD_eq_getElem?_getD, List.getElem?_eq_getElem hi] at h1; simp only [Option.getD_some] at h1; have h2 : (liveL (nz g) es).getD i 0 = (liveN es i : Int) := by rw [List.getD_eq_getElem?_getD, liveL_at hi']; rfl
        have h3 := liveN_le es i; rw [h1, h2]; split <;> omega
      refine (bset_ok w p le ll ce cl g es _ h j e _ hold (by omega) (addE (liveL (nz g) es) es[j] (-1)) (liveL (nz g) (es.set j e)) hR (fun W hW => ?_) (fun W hW => ?_))
      · exact bcnt_any W p le ll ce cl g es _ hW es[j] (-1) (by rw [liveL_length]; exact ho) (by omega) (fun x hx => by have := hlv x hx; omega) (by rw [liveL_length]; omega)
      · have := bcnt_any W p le ll ce cl g es _ hW e 1 (by rw [addE_length, liveL_length]; exact he) (by omega) hlv1 (by rw [addE_length, liveL_length]; omega)
        rwa [hst] at this
end Go.Proofs.Ytoiephmngdecaaa
