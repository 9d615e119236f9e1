/- Proved here: the contract of an entry's Right, at every entry. -/
import Derived.Test.YteggijkcdlboeaaBmRight
namespace Go.Proofs.Yteggijkcdlboeaa
open Go.RowKit Go.Rv
set_option linter.unusedVariables false
def E64 (e : BE) : Prop := (Lit.int .i64 e.st).wf = true ∧ (Lit.int .i64 e.z).wf = true ∧ (Lit.int .i64 e.m).wf = true ∧ (Lit.int .i64 e.o).wf = true ∧ (Lit.int .i64 e.q).wf = true ∧ (Lit.int .i64 e.s).wf = true
def beLits (e : BE) : List Lit := [.int .i64 e.st, .int .i64 e.z, .int .i64 e.m, .int .i64 e.o, .int .i64 e.q, .int .i64 e.s]
theorem beLits_inj {a b : BE} (h : beLits a = beLits b) : a = b := by
  obtain ⟨a0, a1, a2, a3, a4, a5⟩ := a
  obtain ⟨b0, b1, b2, b3, b4, b5⟩ := b
  simp only [beLits, List.cons.injEq, Lit.int.injEq, true_and, and_true] at h
  obtain ⟨rfl, rfl, rfl, rfl, rfl, rfl⟩ := h
  rfl
theorem eq_be (a b : BE) (ha : E64 a) (hb : E64 b) (w : World) : (Op.equalIn 10000 41 (.agg (BEC a)) (.agg (BEC b))).run Try.prog w = .ok (decide (a = b)) w := by
  have k1 : Try.prog.cellsOf 3 = 1 := by kernel_rfl
  have k6 : Try.prog.cellsOf 41 = 6 := by kernel_rfl
  have i : ∀ n : Int, (Lit.int .i64 n).wf = true → Try.prog.keyLits 2 3 [.int .i64 n] = some [.int .i64 n] := by
    intro n hn
    simp only [Program.keyLits, Try.underlying3, hn, and_self, if_true]
  have hl : ∀ e : BE, E64 e → Try.prog.keyLits 3 41 (BEC e).toList = some (beLits e) := by
    intro e hn
    obtain ⟨n0, n1, n2, n3, n4, n5⟩ := hn
    have hlen : (BEC e).toList.length = 6 := rfl
    unfold Program.keyLits
    simp only [Try.underlying41, k6, hlen]
    rw [if_pos ⟨trivial, by decide +kernel⟩]
    simp only [List.mapM_cons, List.mapM_nil, k1, BEC, List.drop, List.take, i _ n0, i _ n1, i _ n2, i _ n3, i _ n4, i _ n5]
    simp [beLits]
  have hF : ∀ e : BE, (Value.agg (BEC e)).formed Try.prog 41 = true := by
    intro e
    simp only [Value.formed, Try.underlying41, BEC_size]
    kernel_rfl
  exact eq_deep (by kernel_rfl) (hF a) (hF b) (hl a ha) (hl b hb) _ (by rw [decide_eq_true_eq]; exact ⟨fun h => by rw [h], beLits_inj⟩) w
set_option maxRecDepth 100000 in
set_option maxHeartbeats 2000000 in
theorem bright_none (C D : Array Value) (e : BE) (b : Bool) (w : World) (hC : C = BEC e)
    (hcs : (e.st = 0 ∨ e.st = 2) ∧ (∀ W, (Op.equalIn 10000 41 (.agg (BEC e)) (.agg (BEC ⟨e.st, 0, 0, 0, 0, 0⟩))).run Try.prog W = .ok b W)) :
    Calls Try.prog 33 #[.agg C, .agg D] w fun x w' => x = .returned (.bool b) ∧ Below w.heap.size w w' := by
  subst hC
  have hz := (zero_of_info Try.infoEnt).1
  obtain ⟨W0, hW0, hB0, hE, hG, hz0⟩ := bright_setup (BEC e) D w
  have k0 : W0.cell? ⟨w.heap.size, 0, none⟩ = some (.int .i64 e.st) := (cell_of_row _ _ _ _ _ _ hE).trans rfl
  have HW0 := Lib.hid hW0
  have HIE := Lib.hid (esize e)
  obtain ⟨hst, hq⟩ := hcs
  have HQ := Lib.hid hq
  clear hW0 hG hq
  have HE := Lib.hid hE
  rcases hst with h0 | h0
  · have t1 : (e.st == 0) = true := by simp [h0]
    clear h0
    go_enter Try.func33, Try.ntmps33
    go_upto_region 1 with (fail)
    rw [HW0.out]
    go_wp2_with (first | (refine wpList_row_on (by rfl) 41 _ rfl w.heap.size rfl 41 _ _ _ HE.out Try.underlying41 rfl HIE.out ?_) | (refine wpList_eql_on (by rfl) 41 41 _ _ rfl (BEC e) (BEC ⟨e.st, 0, 0, 0, 0, 0⟩) rfl rfl (by kernel_rfl) b HQ.out ?_))
    go_ret
    exact ⟨rfl, hB0⟩
  · have t1 : (e.st == 0) = false := by simp [h0]
    have t2 : (e.st == 2) = true := by simp [h0]
    clear h0
    go_enter Try.func33, Try.ntmps33
    go_upto_region 1 with (fail)
    rw [HW0.out]
    go_wp2_with (first | (refine wpList_row_on (by rfl) 41 _ rfl w.heap.size rfl 41 _ _ _ HE.out Try.underlying41 rfl HIE.out ?_) | (refine wpList_eql_on (by rfl) 41 41 _ _ rfl (BEC e) (BEC ⟨e.st, 0, 0, 0, 0, 0⟩) rfl rfl (by kernel_rfl) b HQ.out ?_))
    go_ret
    exact ⟨rfl, hB0⟩
set_option maxRecDepth 100000 in
set_option maxHeartbeats 2000000 in
theorem bright_other (e : BE) (D : Array Value) (w : World) (h0 : e.st ≠ 0) (h1 : e.st ≠ 1) (h2 : e.st ≠ 2) :
    Calls Try.prog 33 #[.agg (BEC e), .agg D] w fun x w' => x = .returned (.bool false) ∧ Below w.heap.size w w' := by
  obtain ⟨W0, hW0, hB0, hE, hG, hz0⟩ := bright_setup (BEC e) D w
  have k0 : W0.cell? ⟨w.heap.size, 0, none⟩ = some (.int .i64 e.st) := (cell_of_row _ _ _ _ _ _ hE).trans rfl
  have HW0 := Lib.hid hW0
  have t0 : (e.st == 0) = false := by simpa using h0
  have t1 : (e.st == 1) = false := by simpa using h1
  have t2 : (e.st == 2) = false := by simpa using h2
  clear hW0 hG hE h0 h1 h2
  generalize BEC e = C at *
  go_enter Try.func33, Try.ntmps33
  go_upto_region 1 with (fail)
  rw [HW0.out]
  go_wp2
  go_ret
  exact ⟨rfl, hB0⟩
theorem bright_any (g : Geo.G) (e : BE) (w : World) (hr : Geo.right g = true) (hn : E64 e) :
    Calls Try.prog 33 #[.agg (BEC e), .agg (GC g)] w fun x w' => x = .returned (.bool (beRight g e)) ∧ Below w.heap.size w w' := by
  have hs := ((Geo.right_iff g).1 hr).1
  unfold beRight
  by_cases h0 : e.st = 0 ∨ e.st = 2
  · rw [if_pos h0]
    exact bright_none (BEC e) (GC g) e _ w rfl ⟨h0, fun W => eq_be e ⟨e.st, 0, 0, 0, 0, 0⟩ hn ⟨hn.1, rfl, rfl, rfl, rfl, rfl⟩ W⟩
  · rw [if_neg h0]
    by_cases h1 : e.st = 1
    · rw [if_pos h1]
      have hC : ∀ (W : World), W.heap[w.heap.size]? = some (.cells (BEC e) 41 (0, 0)) → W.cell? ⟨w.heap.size, 0, none⟩ = some (.int .i64 1) ∧ W.cell? ⟨w.heap.size, 1, none⟩ = some (.int .i64 e.z) ∧ W.cell? ⟨w.heap.size, 2, none⟩ = some (.int .i64 e.m) ∧ W.cell? ⟨w.heap.size, 3, none⟩ = some (.int .i64 e.o) ∧ W.cell? ⟨w.heap.size, 4, none⟩ = some (.int .i64 e.q) ∧ W.cell? ⟨w.heap.size, 5, none⟩ = some (.int .i64 e.s) := fun W hh => by
        have h2 := (cell_of_row _ _ _ _ _ _ hh).trans (show (BEC e)[0]? = some (.int .i64 1) by simp [BEC, h1])
        exact ⟨h2, (cell_of_row _ _ _ _ _ _ hh).trans rfl, (cell_of_row _ _ _ _ _ _ hh).trans rfl, (cell_of_row _ _ _ _ _ _ hh).trans rfl, (cell_of_row _ _ _ _ _ _ hh).trans rfl, (cell_of_row _ _ _ _ _ _ hh).trans rfl⟩
      have H1 := fun (W : World) => gholds_any g e.z e.o W
      have H2 := fun (W : World) => gholds_any g e.m e.o W
      have D1 := fun (W : World) => gdomain_any g e.z W hs
      have D2 := fun (W : World) => gdomain_any g e.m W hs
      unfold beLive
      cases c1 : holdsG g e.z e.o
      · rw [c1] at H1
        exact bright_1 (BEC e) (GC g) e.z e.m e.o e.q e.s 0 0 w hC gsize H1
      rw [c1] at H1
      cases c2 : holdsG g e.m e.o
      · rw [c2] at H2
        exact bright_2 (BEC e) (GC g) e.z e.m e.o e.q e.s 0 0 w hC gsize H1 H2
      rw [c2] at H2
      by_cases c3 : domOf g e.z = domOf g e.m
      · rw [show decide (domOf g e.z ≠ domOf g e.m) = false from decide_eq_false (fun h => h c3)]
        rw [← c3] at D2
        exact bright_3 (BEC e) (GC g) e.z e.m e.o e.q e.s _ 0 w hC gsize H1 H2 D1 D2
      rw [show decide (domOf g e.z ≠ domOf g e.m) = true from decide_eq_true c3]
      have t3 : (domOf g e.z == domOf g e.m) = false := by simpa using c3
      cases c4 : decide (1 ≤ e.q)
      · exact bright_4 (BEC e) (GC g) e.z e.m e.o e.q e.s _ _ w hC gsize H1 H2 D1 D2 t3 c4
      cases c5 : decide (e.q ≤ 281474976710655)
      · exact bright_5 (BEC e) (GC g) e.z e.m e.o e.q e.s _ _ w hC gsize H1 H2 D1 D2 t3 c4 c5
      cases c6 : decide (0 ≤ e.s)
      · exact bright_6 (BEC e) (GC g) e.z e.m e.o e.q e.s _ _ w hC gsize H1 H2 D1 D2 t3 c4 c5 c6
      cases c7 : decide (e.s ≤ 4294967295)
      · exact bright_7 (BEC e) (GC g) e.z e.m e.o e.q e.s _ _ w hC gsize H1 H2 D1 D2 t3 c4 c5 c6 c7
      · exact bright_8 (BEC e) (GC g) e.z e.m e.o e.q e.s _ _ w hC gsize H1 H2 D1 D2 t3 c4 c5 c6 c7
    · rw [if_neg h1]
      exact bright_other e (GC g) w (fun h => h0 (.inl h)) h1 (fun h => h0 (.inr h))
end Go.Proofs.Yteggijkcdlboeaa
