/- Proved here: snap's Right; A law over any program: a region that draws its order, of which two operations' values are told together (that what the one has made is not what the other has); small laws on what Run makes: the roller, the result. -/
import Derived.Test.YtoiephmngdecaaaKag
import Derived.Test.YtoiephmngdecaaaKak
import Derived.Test.YtoiephmngdecaaaKal
import Derived.Test.YtoiephmngdecaaaKao
import Derived.Test.YtoiephmngdecaaaKap
import Derived.Test.YtoiephmngdecaaaKar
namespace Sn
open Go.Proofs.Ytoiephmngdecaaa
/-- may the numbers be? -/
def nums (gen epoch next : Int) : Bool := Geo.inB gen 1 281474976710655 && (Geo.inB epoch 1 4294967295 && Geo.inB next 1 281474976710655)
def right (gen epoch next : Int) (es : List BE) : Bool := nums gen epoch next && es.all fun e => decide (e.q < next)
end Sn
namespace Go.Proofs.Ytoiephmngdecaaa
open Go.RowKit Go.Rv Go.Shelf
set_option linter.unusedVariables false
attribute [local go_sem] Oper.semAt_some
set_option maxRecDepth 100000 in
theorem swithin_any (n m : Int) (w : World) :
    Calls Try.prog 49 #[.int .i64 n, .int .i64 m] w fun e w' => e = .returned (.bool (Geo.inB n 1 m)) ∧ w = w' := by
  go_enter Try.func49, Try.ntmps49; unfold Geo.inB; by_cases h1 : 1 ≤ n
  · have t1 : decide (1 ≤ n) = true := decide_eq_true h1; rw [t1]; go_wp2; go_ret; exact ⟨by simp, rfl⟩
  · have t1 : decide (1 ≤ n) = false := decide_eq_false h1; rw [t1]; go_wp2; go_ret; exact ⟨by simp, rfl⟩
set_option maxRecDepth 100000 in
set_option maxHeartbeats 4000000 in
theorem sright_no (w : World) (gen epoch next : Int) (p : Nat) (b1 b2 b3 : Bool) (h1 : Geo.inB gen 1 281474976710655 = b1) (h2 : Geo.inB epoch 1 4294967295 = b2) (h3 : Geo.inB next 1 281474976710655 = b3) (hc : b1 = false ∨ (b1 = true ∧ b2 = false) ∨ (b1 = true ∧ b2 = true ∧ b3 = false)) :
    Calls Try.prog 26 #[.agg (SnC gen epoch next p)] w fun e w' => e = .returned (.bool false) ∧ Below w.heap.size w w' := by
  have HW1 : Hid (∀ W, Calls Try.prog 49 #[.int .i64 gen, .int .i64 281474976710655] W fun e w' => e = .returned (.bool b1) ∧ W = w') := Lib.hid (fun W => by have := swithin_any gen 281474976710655 W; rwa [h1] at this); have HW2 : Hid (∀ W, Calls Try.prog 49 #[.int .i64 epoch, .int .i64 4294967295] W fun e w' => e = .returned (.bool b2) ∧ W = w') := Lib.hid (fun W => by have := swithin_any epoch 4294967295 W; rwa [h2] at this); have HW3 : Hid (∀ W, Calls Try.prog 49 #[.int .i64 next, .int .i64 281474976710655] W fun e w' => e = .returned (.bool b3) ∧ W = w') := Lib.hid (fun W => by have := swithin_any next 281474976710655 W; rwa [h3] at this); have HSC := Lib.hid (fun (W : World) hh => sn_cells (w := W) (b := w.heap.size) (gen := gen) (epoch := epoch) (next := next) (p := p) (t := 29) hh); clear h1 h2 h3; generalize hC : SnC gen epoch next p = C at *; clear hC; have hB0 : Below w.heap.size w ((w.alloc (.cells C 29)).alloc (.cells #[.bool false] 4)) := ((Below.refl _ _).alloc (Nat.le_refl _) _).alloc (by simp) _; obtain ⟨W0, hW0⟩ : ∃ W0, (w.alloc (.cells C 29)).alloc (.cells #[.bool false] 4) = W0 := ⟨_, rfl⟩; have hS0 : W0.heap[w.heap.size]? = some (.cells C 29 (0, 0)) := by rw [← hW0]; exact heap_alloc2_old w _ _
  have hO0 : W0.heap[w.heap.size + 1]? = some (.cells #[.bool false] 4 (0, 0)) := by rw [← hW0]; exact heap_alloc2_new w _ _
  rw [hW0] at hB0; have HW0 := Lib.hid hW0; have HB0 := Lib.hid hB0; have HO0 := Lib.hid hO0; obtain ⟨c0, c1, c2, c3⟩ := HSC.out _ hS0; have hc1 := cell_of_one hO0; have hf1 := free_of_one hO0; clear hW0 hB0 hO0 hS0; go_enter Try.func26, Try.ntmps26; go_upto_region 1 with (fail); rw [HW0.out]
  have hfin : ∀ W', W' = W0.setCell ⟨w.heap.size + 1, 0, none⟩ (.bool false) → W'.cell? ⟨w.heap.size + 1, 0, none⟩ = some (.bool false) ∧ Below w.heap.size w W' := by
    rintro W' rfl; have h2 : Only [w.heap.size + 1] W0 (W0.setCell ⟨w.heap.size + 1, 0, none⟩ (.bool false)) := (Only.refl _ _).setCell (.inl (by simp)) _; exact ⟨cell_of_one (one_setCell HO0.out), HB0.out.trans (h2.below (by simp) HB0.out.size)⟩
  have HFIN := Lib.hid hfin; clear hfin; rcases hc with rfl | ⟨rfl, rfl⟩ | ⟨rfl, rfl, rfl⟩
  · go_wp2_with fail; refine (HW1.out _).mono ?_; rintro e1 w1 ⟨rfl, rfl⟩; go_wp2; obtain ⟨hc', hB'⟩ := HFIN.out _ rfl; refine bodyPost_ret (v := .bool false) (by simp [results, Try.results26, go_sem, hc']) rfl ?_; exact ⟨rfl, hB'⟩
  · go_wp2_with fail; refine (HW1.out _).mono ?_; rintro e1 w1 ⟨rfl, rfl⟩; go_wp2_with fail; refine (HW2.out _).mono ?_; rintro e2 w2 ⟨rfl, rfl⟩; go_wp2; obtain ⟨hc', hB'⟩ := HFIN.out _ rfl; refine bodyPost_ret (v := .bool false) (by simp [results, Try.results26, go_sem, hc']) rfl ?_; exact ⟨rfl, hB'⟩
  · go_wp2_with fail; refine (HW1.out _).mono ?_; rintro e1 w1 ⟨rfl, rfl⟩; go_wp2_with fail; refine (HW2.out _).mono ?_; rintro e2 w2 ⟨rfl, rfl⟩; go_wp2_with fail; refine (HW3.out _).mono ?_; rintro e3 w3 ⟨rfl, rfl⟩; go_wp2; obtain ⟨hc', hB'⟩ := HFIN.out _ rfl; refine bodyPost_ret (v := .bool false) (by simp [results, Try.results26, go_sem, hc']) rfl ?_; exact ⟨rfl, hB'⟩
theorem pre_all {next : Int} {pre : List (BE × Nat)} {x : BE × Nat} (h : ∀ y ∈ pre, y.1.q < next) (hx : x.1.q < next) : ∀ y ∈ pre ++ [x], y.1.q < next := by
  intro y hy; rcases List.mem_append.1 hy with hy | hy
  · exact h y hy
  · obtain rfl : y = x := by simpa using hy
    exact hx
set_option maxRecDepth 100000 in
set_option maxHeartbeats 8000000 in
theorem sright_in (w : World) (p le ll ce cl : Nat) (g : Geo.G) (es : List BE) (lv : List Int) (h : BmIs w p le ll ce cl g es lv) (hn : es.length ≤ 100000) (gen epoch next : Int) (hnum : Sn.nums gen epoch next = true) :
    Calls Try.prog 26 #[.agg (SnC gen epoch next p)] w fun e w' => e = .returned (.bool (es.all fun e => decide (e.q < next))) ∧ Below w.heap.size w w' := by
  simp only [Sn.nums, Bool.and_eq_true] at hnum; obtain ⟨h1, h2, h3⟩ := hnum; have HW1 : Hid (∀ W, Calls Try.prog 49 #[.int .i64 gen, .int .i64 281474976710655] W fun e w' => e = .returned (.bool true) ∧ W = w') := Lib.hid (fun W => by have := swithin_any gen 281474976710655 W; rwa [h1] at this); have HW2 : Hid (∀ W, Calls Try.prog 49 #[.int .i64 epoch, .int .i64 4294967295] W fun e w' => e = .returned (.bool true) ∧ W = w') := Lib.hid (fun W => by have := swithin_any epoch 4294967295 W; rwa [h2] at this); have HW3 : Hid (∀ W, Calls Try.prog 49 #[.int .i64 next, .int .i64 281474976710655] W fun e w' => e = .returned (.bool true) ∧ W = w') := Lib.hid (fun W => by have := swithin_any next 281474976710655 W; rwa [h3] at this); have HBM := Lib.hid h; have HIE := Lib.hid (fun e => esize e); have HON := Lib.hid (fun e => BEC_one e); have hz := (zero_of_info Try.infoEnt).1; have HSZ : Hid (∀ e : BE, (BEC BE.zero).size = (BEC e).size) := Lib.hid (fun e => by rw [BEC_size, BEC_size]); have HSC := Lib.hid (fun (W : World) hh => sn_cells (w := W) (b := w.heap.size) (gen := gen) (epoch := epoch) (next := next) (p := p) (t := 29) hh); clear h1 h2 h3 h; obtain ⟨C, hC⟩ : ∃ C, SnC gen epoch next p = C := ⟨_, rfl⟩; rw [hC] at HSC ⊢; clear hC; have hB0 : Below w.heap.size w ((w.alloc (.cells C 29)).alloc (.cells #[.bool false] 4)) := ((Below.refl _ _).alloc (Nat.le_refl _) _).alloc (by simp) _; obtain ⟨W0, hW0⟩ : ∃ W0, (w.alloc (.cells C 29)).alloc (.cells #[.bool false] 4) = W0 := ⟨_, rfl⟩; have hS0 : W0.heap[w.heap.size]? = some (.cells C 29 (0, 0)) := by rw [← hW0]; exact heap_alloc2_old w _ _
  have hO0 : W0.heap[w.heap.size + 1]? = some (.cells #[.bool false] 4 (0, 0)) := by rw [← hW0]; exact heap_alloc2_new w _ _
  have z0 : w.heap.size + 1 < W0.heap.size := (Array.getElem?_eq_some_iff.1 hO0).1; rw [hW0] at hB0; have HW0 := Lib.hid hW0; obtain ⟨c0, c1, c2, c3⟩ := HSC.out _ hS0; have hm0 := HBM.out.below hB0; have HAL := Lib.hid (ball_any W0 p _ _ _ hm0.cells.1); obtain ⟨W1, hW1⟩ : ∃ W1, W0.alloc (.cells #[.slice (some ⟨le, 0, none⟩) es.length ce] 115) = W1 := ⟨_, rfl⟩; have hb1 : Below W0.heap.size W0 W1 := by rw [← hW1]; exact (Below.refl _ _).alloc (Nat.le_refl _) _
  have hsl : W1.heap[W0.heap.size]? = some (.cells #[.slice (some ⟨le, 0, none⟩) es.length ce] 115 (0, 0)) := by rw [← hW1]; exact heap_alloc_new W0 _
  have hB1 : Below w.heap.size w W1 := hB0.trans (hb1.mono hB0.size); have k0 := (hb1.block w.heap.size (by omega)).trans hS0; have k1 := (hb1.block (w.heap.size + 1) z0).trans hO0; have hm1 := HBM.out.below hB1; have hlt := hm1.lt; have hlw := HBM.out.lt; have HS := Lib.hid (eall1_stops 7 (by omega) W0.heap.size le (some ⟨le, 0, none⟩) ce es W1 (cell_of_one hsl) hm1.rows (fun x e => by cases e; rfl) hlt.2.1 hn); have z1 : W0.heap.size < W1.heap.size := (Array.getElem?_eq_some_iff.1 hsl).1; have HW1' := Lib.hid hW1; have HB1 := Lib.hid hB1; have HK0 := Lib.hid k0; have HK1 := Lib.hid k1; clear hW0 hW1 hB0 hS0 hO0 hm0 hb1 hsl hm1 hlt hB1; refine calls_of_marks Try.func26 rfl ?_; simp only [Try.ntmps26, List.size_toArray, List.length_cons, List.length_nil, Nat.reduceAdd, Nat.reduceSub, Array.replicate_succ, Array.replicate_zero, List.push_toArray, List.append_toArray, List.nil_append, List.cons_append]; go_upto_region 1 with (fail); rw [HW0.out]; go_wp2_with fail; refine (HW1.out _).mono ?_; rintro e1 w1 ⟨rfl, rfl⟩; go_wp2_with fail; refine (HW2.out _).mono ?_; rintro e2 w2 ⟨rfl, rfl⟩; go_wp2_with fail; refine (HW3.out _).mono ?_; rintro e3 w3 ⟨rfl, rfl⟩; go_wp2_with fail; refine HAL.out.mono ?_; rintro e4 w4 ⟨rfl, rfl⟩; rw [HW1'.out]; clear c0 c1 c2 c3; go_wp2; refine (wpIn_wide (n := 8)).1 (wpIn_rangeT2 (encs := ieV) rfl (by omega) (gf := 57) (lb := #[.pointer (some ⟨W0.heap.size, 0, none⟩)]) rfl trivial (enters_of Try.func57 (by kernel_rfl) rfl)
    HS.out (Below.refl _ _) (fun _ => rfl)
    [w.heap.size + 1] (by simp; omega) (by simp)
    (fun pre W => (∀ y ∈ pre, y.1.q < next) ∧ W.heap[w.heap.size]? = some (.cells C 29 (0, 0)) ∧ W.heap[w.heap.size + 1]? = some (.cells #[.bool false] 4 (0, 0)) ∧ Only [w.heap.size + 1] W1 W)
    (fun cx pre W => (cx = Code.ret ∧ ∃ e ∈ es, ¬ e.q < next) ∧ W.heap[w.heap.size + 1]? = some (.cells #[.bool false] 4 (0, 0)) ∧ Only [w.heap.size + 1] W1 W)
    (AbT.and (AbT.pure _ _ (fun (pre : List (BE × Nat)) => ∀ y ∈ pre, y.1.q < next)) (AbT.and (AbT.row (fun _ => C) (by simp)) (AbT.and (AbT.row (fun _ => #[.bool false]) (by simp)) (AbT.only (Nat.le_refl _) (by simp)))))
    (fun cx => AbT.and (AbT.pure _ _ (fun (pre : List (BE × Nat)) => cx = Code.ret ∧ ∃ e ∈ es, ¬ e.q < next)) (AbT.and (AbT.row (fun _ => #[.bool false]) (by simp)) (AbT.only (Nat.le_refl _) (by simp)))) ⟨by simp, HK0.out, HK1.out, Only.refl _ _⟩
    ?fr (fun x Be W' => W'.heap[Be]? = some (.cells (BEC x.1) 54 (0, 0))) (fun x Be => AbT.row (fun _ => BEC x.1) (by simp)) ?assign ?body ?done ?stop)
  case assign =>
    intro rr pre x W2 K _ hI hK; have HK2 := Lib.hid hK; clear hK; unfold ieV; gi_wp2_with (refine wpListIn_store_row (by rfl) 54 _ _ rfl W2.heap.size (BEC x.1) rfl rfl 54 (BEC BE.zero) (heap_alloc_new W2 _) (HIE.out _) (HSZ.out _) (HON.out _) ?_; rw [World.setRow_alloc_new]); obtain ⟨Be, hBe⟩ : ∃ Be, W2.heap.size = Be := ⟨_, rfl⟩; have hn := heap_alloc_new W2 (.cells (BEC x.1) 54); rw [hBe] at hn ⊢; exact HK2.out Be _ ((Only.refl _ _).alloc _) hn
  case body =>
    rintro rr pre x Be W2 _ hr ⟨ha, hS, hO, hO2⟩ hE hlen hsp; obtain ⟨e1, e2, e3, e4⟩ := zip_next hsp; have hmem := List.mem_of_getElem? e2; have cq : W2.cell? ⟨Be, 4, none⟩ = some (.int .i64 x.1.q) := (cell_of_row _ _ _ _ _ _ hE).trans rfl; obtain ⟨s0, s1, s2, s3⟩ := HSC.out _ hS; have hc := cell_of_one hO; have hf := free_of_one hO; have HA := Lib.hid ha; have HS2 := Lib.hid hS; have HO := Lib.hid hO; have HO2 := Lib.hid hO2; have HME := Lib.hid hmem; clear ha hS hO hO2 hE hlen hsp e1 e2 e3 e4 hmem; by_cases hq : x.1.q < next
    · have t1 : decide (next ≤ x.1.q) = false := decide_eq_false (by omega); have HA2 := Lib.hid (pre_all HA.out hq); clear hq; gi_wp2; exact ⟨Only.refl _ _, fun a b h => HA2.out (a, b) h, HS2.out, HO.out, HO2.out⟩
    · have t1 : decide (next ≤ x.1.q) = true := decide_eq_true (by omega); have HQ := Lib.hid hq; clear hq; gi_wp2; exact ⟨(Only.refl _ _).setCell (.inl (by simp)) _, ⟨rfl, _, HME.out, HQ.out⟩, one_setCell HO.out, HO2.out.setCell (.inl (by simp)) _⟩
  case done =>
    rintro D ys W2 hD rfl ⟨ha, hS, hO, hO2⟩ hKD
    have hall : (es.all fun e => decide (e.q < next)) = true := List.all_eq_true.2 (fun e he => by
      obtain ⟨k, hk, rfl⟩ := List.getElem_of_mem he; exact decide_eq_true (ha (es[k], k) (List.mem_zipIdx_iff_getElem?.2 (List.getElem?_eq_getElem hk))))
    have hc := cell_of_one hO; have hf := free_of_one hO; have HALL := Lib.hid hall; have HO := Lib.hid hO; have HB2 : Hid (Below w.heap.size w W2) := Lib.hid (HB1.out.trans (hO2.below (B := w.heap.size) (by simp) HB1.out.size)); have HKD := Lib.hid hKD; have hDz : W0.heap.size < D := by omega
    clear ha hS hO hO2 hKD hall; go_wp2; refine leave_marks (v := .bool true) [D] _ (by simp) ?_ ?_
    · intro E hE; obtain rfl : E = D := by simpa using hE
      exact ((Only.refl [w.heap.size + 1] _).setCell (.inl (by simp)) _).get HKD.out (by simp; omega)
    · intro W' hO'; have hr' := hO'.get (one_setCell HO.out) (by simp; omega); have hc' := cell_of_one hr'; have h2 : Only [w.heap.size + 1] W2 (W2.setCell ⟨w.heap.size + 1, 0, none⟩ (.bool true)) := (Only.refl _ _).setCell (.inl (by simp)) _; have h3 := HB2.out.trans (h2.below (B := w.heap.size) (by simp) HB2.out.size); exact ⟨by simp [results, Try.results26, go_sem, hc'], by rw [HALL.out], h3.trans (hO'.below (by simp; omega) h3.size)⟩
  case stop =>
    rintro D cx pre W2 hD hsp ⟨⟨rfl, hex⟩, hO, hO2⟩ hKD; refine wpIn_wide.2 ?_; obtain ⟨e, he, hq⟩ := hex
    have hall : (es.all fun e => decide (e.q < next)) = false := by
      rw [List.all_eq_false]; exact ⟨e, he, by simpa using hq⟩
    have HALL := Lib.hid hall; have HO := Lib.hid hO; have HB2 : Hid (Below w.heap.size w W2) := Lib.hid (HB1.out.trans (hO2.below (B := w.heap.size) (by simp) HB1.out.size)); have HKD := Lib.hid hKD; have hDz : W0.heap.size < D := by omega
    clear hO hO2 hKD hall he hq; go_wp2; refine leave_marks (v := .bool false) [D] _ (by simp) (by simpa using HKD.out) ?_; intro W' hO'; have hr' := hO'.get HO.out (by simp; omega); have hc' := cell_of_one hr'; exact ⟨by simp [results, Try.results26, go_sem, hc'], by rw [HALL.out], HB2.out.trans (hO'.below (by simp; omega) HB2.out.size)⟩
theorem sright_any (w : World) (p le ll ce cl : Nat) (g : Geo.G) (es : List BE) (lv : List Int) (h : BmIs w p le ll ce cl g es lv) (hn : es.length ≤ 100000) (gen epoch next : Int) :
    Calls Try.prog 26 #[.agg (SnC gen epoch next p)] w fun e w' => e = .returned (.bool (Sn.right gen epoch next es)) ∧ Below w.heap.size w w' := by
  unfold Sn.right; cases hnum : Sn.nums gen epoch next
  · simp only [Bool.false_and]; refine sright_no w gen epoch next p _ _ _ rfl rfl rfl ?_; unfold Sn.nums at hnum; cases h1 : Geo.inB gen 1 281474976710655
    · exact .inl rfl
    · cases h2 : Geo.inB epoch 1 4294967295
      · exact .inr (.inl ⟨rfl, rfl⟩)
      · rw [h1, h2] at hnum; exact .inr (.inr ⟨rfl, rfl, by simpa using hnum⟩)
  · simp only [Bool.true_and]; exact sright_in w p le ll ce cl g es lv h hn gen epoch next hnum
end Go.Proofs.Ytoiephmngdecaaa
namespace Go.Rv
open Go.RowKit
set_option linter.unusedVariables false
def Obl12 (P : Program) (ops : Array Oper) (Q : Exit → Act → World → Prop) (A : (Nat → Value) → Act) (w0 : World) (Φ : List Fact) (i1 i2 : Nat) (D : Value → Value → World → Prop) (i : Nat) (o : Oper) : Prop :=
  cond (i == i1) (∀ (v : Nat → Value) (w : World) (K : Act → World → Prop), Below w0.heap.size w0 w → Deps Φ v w o.after.toList →
      Hid (∀ u w', Below w.heap.size w w' → (Φ.getD i Fact.any).p u w' → (∀ u2, (Φ.getD i2 Fact.any).p u2 w → D u u2 w') → K ((A v).put o.dst u) w') → wpList P ops (Exit.then K Q) [o] (A v) w)
    (cond (i == i2) (∀ (v : Nat → Value) (w : World) (K : Act → World → Prop), Below w0.heap.size w0 w → Deps Φ v w o.after.toList →
      Hid (∀ u w', Below w.heap.size w w' → (Φ.getD i Fact.any).p u w' → (∀ u1, (Φ.getD i1 Fact.any).p u1 w → D u1 u w') → K ((A v).put o.dst u) w') → wpList P ops (Exit.then K Q) [o] (A v) w)
      (Obl2 P ops Q A w0 Φ i o))
def Obls12 (P : Program) (ops : Array Oper) (Q : Exit → Act → World → Prop) (A : (Nat → Value) → Act) (w0 : World) (Φ : List Fact) (i1 i2 : Nat) (D : Value → Value → World → Prop) : Nat → List Oper → Prop
  | _, [] => True
  | i, o :: r => Obl12 P ops Q A w0 Φ i1 i2 D i o ∧ Obls12 P ops Q A w0 Φ i1 i2 D (i + 1) r
theorem Obls12.at {P : Program} {ops : Array Oper} {Q : Exit → Act → World → Prop} {A : (Nat → Value) → Act} {w0 : World} {Φ : List Fact} {i1 i2 : Nat} {D : Value → Value → World → Prop} : ∀ {k : Nat} {l : List Oper}, Obls12 P ops Q A w0 Φ i1 i2 D k l → ∀ {i : Nat} {o : Oper}, l[i]? = some o → Obl12 P ops Q A w0 Φ i1 i2 D (k + i) o
  | _, [], _, _, _, h => by simp at h
  | k, _ :: r, h, 0, _, ho => by simp at ho; subst ho; exact h.1
  | k, _ :: r, h, i + 1, _, ho => by
    have := Obls12.at h.2 (i := i) (by simpa using ho)
    rwa [show k + 1 + i = k + (i + 1) by omega] at this
theorem wp_region_conf12 {P : Program} {ops : Array Oper} {Q : Exit → Act → World → Prop} {a0 : Act} {w0 : World} {id : Nat} (n : Nat) (Φ : List Fact) (i1 i2 : Nat) (D : Value → Value → World → Prop) (A : (Nat → Value) → Act) (hm : P.follows .mixedOrders = true) (hok : confOk ops n = true)
    (hi : (decide (i1 < n) && decide (i2 < n) && !(i1 == i2)) = true) (hA : ∀ v, putAll v 0 (ops.toList.take n) a0 = A v) (hD : ∀ u1 u2 w w', D u1 u2 w → Below w.heap.size w w' → D u1 u2 w') (ho : Obls12 P ops Q A w0 Φ i1 i2 D 0 (ops.toList.take n))
    (hend : ∀ v w, Below w0.heap.size w0 w → (∀ j, j < n → (Φ.getD j Fact.any).p (v j) w) → D (v i1) (v i2) w → wpList P ops Q (ops.toList.drop n) (A v) w) : (Code.region id ops true).wp P Q a0 w0 := by
  simp only [Bool.and_eq_true, decide_eq_true_eq, Bool.not_eq_true', beq_eq_false_iff_ne] at hi; obtain ⟨⟨h1n, h2n⟩, h12⟩ := hi; refine wp_region_conf3 n (fun L v w => (∀ j, j < n → L.getD j false = true → (Φ.getD j Fact.any).p (v j) w) ∧ Below w0.heap.size w0 w ∧ (L.getD i1 false = true → L.getD i2 false = true → D (v i1) (v i2) w)) A hm hok hA ?_ ?_ ?_
  · intro i o hin hoi L v w K hui hdep ⟨hv, hB0, hDD⟩ HK
    have hilt : i < L.size := by
      rcases Nat.lt_or_ge i L.size with h | h
      · exact h
      · simp [Array.getElem?_eq_none h] at hui
    have hit : (L.setIfInBounds i true).getD i false = true := by simp [hilt]
    have hdv : ∀ l : List Edge, (∀ e ∈ l, e ∈ o.after) → Deps Φ v w l := by
      intro l
      induction l with
      | nil => intro _; exact trivial
      | cons e r ihl =>
        intro hl; refine ⟨fun hb => hv e.on ?_ (hdep e (hl e (by simp)) hb), ihl fun x hx => hl x (by simp [hx])⟩
        have hbk : edgesBack 0 ops.toList = true := by
          simp only [confOk, Bool.and_eq_true] at hok; exact hok.1.1.1.1.2
        have := edgesBack_spec hbk (i := i) (o := o) (by simpa using hoi) e (hl e (by simp)) hb; omega
    have hdv := hdv o.after.toList (fun e he => by simpa using he); have ob := ho.at (i := i) (o := o) (by simp [hin, hoi]); rw [Nat.zero_add] at ob
    have hfacts : ∀ u w', Below w.heap.size w w' → (Φ.getD i Fact.any).p u w' → ∀ j, j < n → (L.setIfInBounds i true).getD j false = true → (Φ.getD j Fact.any).p (upd v i u j) w' := by
      intro u w' hB hu j hj hl; by_cases hji : j = i
      · subst hji; rw [show upd v j u j = u by simp [upd]]; exact hu
      · rw [show upd v i u j = v j by simp [upd, hji]]; rw [getD_set_ne false (Ne.symm hji)] at hl; exact (Φ.getD j Fact.any).st _ _ _ (hv j hj hl) hB
    have hBB : ∀ w', Below w.heap.size w w' → Below w0.heap.size w0 w' := fun w' hB => hB0.trans (hB.mono hB0.size); unfold Obl12 at ob; cases hc1 : i == i1
    · have hn1 : i ≠ i1 := by simpa using hc1
      rw [hc1] at ob; cases hc2 : i == i2
      · have hn2 : i ≠ i2 := by simpa using hc2
        rw [hc2] at ob; refine ob v w K hB0 hdv (Lib.hid fun u w' hB hu => HK.out u w' ⟨hfacts u w' hB hu, hBB w' hB, fun a b => ?_⟩); rw [getD_set_ne false hn1] at a; rw [getD_set_ne false hn2] at b; rw [show upd v i u i1 = v i1 by simp [upd, Ne.symm hn1], show upd v i u i2 = v i2 by simp [upd, Ne.symm hn2]]; exact hD _ _ _ _ (hDD a b) hB
      · have he : i = i2 := by simpa using hc2
        subst he; rw [hc2] at ob; refine ob v w K hB0 hdv (Lib.hid fun u w' hB hu hd => HK.out u w' ⟨hfacts u w' hB hu, hBB w' hB, fun a _ => ?_⟩); rw [getD_set_ne false hn1] at a; rw [show upd v i u i1 = v i1 by simp [upd, Ne.symm hn1], show upd v i u i = u by simp [upd]]; exact hd _ (hv i1 h1n a)
    · have he : i = i1 := by simpa using hc1
      subst he; rw [hc1] at ob; refine ob v w K hB0 hdv (Lib.hid fun u w' hB hu hd => HK.out u w' ⟨hfacts u w' hB hu, hBB w' hB, fun _ b => ?_⟩); rw [getD_set_ne false h12] at b; rw [show upd v i u i = u by simp [upd], show upd v i u i2 = v i2 by simp [upd, Ne.symm h12]]; exact hd _ (hv i2 h2n b)
  · intro v; exact ⟨fun j hj hl => (by rw [getD_replicate_false] at hl; cases hl), (Below.refl _ _).drew, fun h => (by rw [getD_replicate_false] at h; cases h)⟩
  · intro v w ⟨hv, hB, hDD⟩
    have hall : ∀ j, j < n → (headListed n (ops.size - n)).getD j false = true := fun j hj => by
      simp only [headListed]; rw [Array.getD_eq_getD_getElem?, List.getElem?_toArray, List.getElem?_append_left (by simpa using hj)]; simp [hj]
    exact hend v w hB (fun j hj => hv j hj (hall j hj)) (hDD (hall i1 h1n) (hall i2 h2n))
end Go.Rv
namespace Go.Proofs.Ytoiephmngdecaaa
open Go.RowKit Go.Rv Rl Frm
set_option linter.unusedVariables false
/-- the cells of a result -/
def resC (p : Nat) (next applied : Int) (v u : Value) : Array Value := #[.pointer (some ⟨p, 0, none⟩), .int .i64 next, .int .i64 applied, v, u]
def ResZ : Array Value := #[.pointer none, .int .i64 0, .int .i64 0, .slice none 0 0, .slice none 0 0]
theorem Try.infoRes : (Try.prog.info? 35).map (fun i => (i.zero, i.size)) = some (some (.agg ResZ), 5) := by kernel_rfl
theorem ressize (p : Nat) (next applied : Int) (v u : Value) : (Try.prog.info? 35).map (·.size) = some (resC p next applied v u).size := (zero_of_info Try.infoRes).2
theorem built_resz : Try.prog.built 35 [] = some ResZ := by kernel_rfl
theorem built_res (p : Nat) (next applied : Int) (a b : Option Addr) (n m c d : Nat) : Try.prog.built 35 [(0, .pointer (some ⟨p, 0, none⟩)), (1, .int .i64 next), (2, .int .i64 applied), (3, .slice a n c), (4, .slice b m d)] = some (resC p next applied (.slice a n c) (.slice b m d)) := by kernel_rfl
theorem built_rol (p sb n : Nat) : Try.prog.built 99 [(0, .agg Tb.tabV), (1, .pointer (some ⟨p, 0, none⟩)), (3, .slice (some ⟨sb, 0, none⟩) n n)] = some (rolC p 0 0 (.slice none 0 0) sb n 0) := by kernel_rfl
theorem mk_sing (n : Nat) (hn : n ≤ 1000) (w : World) : (Instr.makeSlice 33 (.int .i64 (n : Nat)) (.int .i64 (n : Nat))).run Try.prog w = .ok (.slice (some ⟨w.heap.size, 0, none⟩) n n) (w.alloc (.cells (sgC (List.replicate n 0)) 3)) := by
  have h := mk_live n hn w
  rwa [show madeCells #[.int .i64 0] n = sgC (List.replicate n 0) by
    apply Array.toList_inj.1; rw [made_ints]; unfold sgC; simp] at h
theorem gfield_bR (g : Geo.G) (w : World) : (Instr.field 23 (.agg (GC g)) 3).run Try.prog w = .ok (.int .i64 g.b) w := by kernel_rfl
/-- a copy of the map -/
def CpQ (B : Nat) (g : Geo.G) (es : List BE) (u : Value) (w : World) : Prop := ∃ p le ll ce cl, u = .pointer (some ⟨p, 0, none⟩) ∧ BmIs w p le ll ce cl g es (liveL (nz g) es) ∧ B ≤ p ∧ B ≤ le ∧ B ≤ ll
theorem CpQ.st (B : Nat) (g : Geo.G) (es : List BE) : ∀ u w w', CpQ B g es u w → Below w.heap.size w w' → CpQ B g es u w' := fun u w w' ⟨p, le, ll, ce, cl, e, h, r⟩ hB => ⟨p, le, ll, ce, cl, e, h.below hB, r⟩
/-- a row of zeros -/
def SlQ (B n : Nat) (u : Value) (w : World) : Prop := ∃ sb, u = .slice (some ⟨sb, 0, none⟩) n n ∧ B ≤ sb ∧ w.heap[sb]? = some (.cells (sgC (List.replicate n 0)) 3 (0, 0))
theorem SlQ.st (B n : Nat) : ∀ u w w', SlQ B n u w → Below w.heap.size w w' → SlQ B n u w' := fun u w w' ⟨sb, e, hb, h⟩ hB => ⟨sb, e, hb, (hB.block sb (Array.getElem?_eq_some_iff.1 h).1).trans h⟩
/-- both, apart -/
def DQ (B : Nat) (g : Geo.G) (es : List BE) (n : Nat) (u v : Value) (w : World) : Prop := ∃ p le ll ce cl sb, u = .pointer (some ⟨p, 0, none⟩) ∧ v = .slice (some ⟨sb, 0, none⟩) n n ∧ BmIs w p le ll ce cl g es (liveL (nz g) es) ∧ (B ≤ p ∧ B ≤ le ∧ B ≤ ll ∧ B ≤ sb) ∧ w.heap[sb]? = some (.cells (sgC (List.replicate n 0)) 3 (0, 0)) ∧ sb ≠ ll
theorem DQ.st (B : Nat) (g : Geo.G) (es : List BE) (n : Nat) : ∀ u v w w', DQ B g es n u v w → Below w.heap.size w w' → DQ B g es n u v w' := fun u v w w' ⟨p, le, ll, ce, cl, sb, e, e', h, r, hs, hne⟩ hB => ⟨p, le, ll, ce, cl, sb, e, e', h.below hB, r, (hB.block sb (Array.getElem?_eq_some_iff.1 hs).1).trans hs, hne⟩
theorem bm_ll_lt {w : World} {p le ll ce cl : Nat} {g : Geo.G} {es : List BE} {lv : List Int} (h : BmIs w p le ll ce cl g es lv) : ll < w.heap.size := by
  obtain ⟨V, hV, -⟩ := h.hl; exact (Array.getElem?_eq_some_iff.1 hV).1
/-- singles, as what the call made -/
def OwQ (B : Nat) (l : List Int) (u : Value) (w : World) : Prop := ∃ a c, u = .slice a l.length c ∧ OwnM w 3 1 iC (fun _ => True) B (.slice a l.length c) l
theorem OwQ.st (B : Nat) (l : List Int) : ∀ u w w', OwQ B l u w → Below w.heap.size w w' → OwQ B l u w' := fun u w w' ⟨a, c, e, h⟩ hB => ⟨a, c, e, h.below hB⟩
theorem runRules : (∀ B g es u w, (Fact.of (CpQ B g es) (CpQ.st B g es)).p u w = (∃ p le ll ce cl, u = .pointer (some ⟨p, 0, none⟩) ∧ BmIs w p le ll ce cl g es (liveL (nz g) es) ∧ B ≤ p ∧ B ≤ le ∧ B ≤ ll)) ∧ (∀ B n u w, (Fact.of (SlQ B n) (SlQ.st B n)).p u w = (∃ sb, u = .slice (some ⟨sb, 0, none⟩) n n ∧ B ≤ sb ∧ w.heap[sb]? = some (.cells (sgC (List.replicate n 0)) 3 (0, 0)))) ∧ (∀ B l u w, (Fact.of (OwQ B l) (OwQ.st B l)).p u w = (∃ a c, u = .slice a l.length c ∧ OwnM w 3 1 iC (fun _ => True) B (.slice a l.length c) l)) :=
  ⟨fun _ _ _ _ _ => rfl, fun _ _ _ _ => rfl, fun _ _ _ _ => rfl⟩
theorem only_set1 (w : World) (g : Nat) (X : Array Value) : Only [g] w (w.setRow g X) := ⟨rfl, rfl, rfl, by simp [World.setRow], fun i hi hn => setRow_other w g i X (by simp at hn; omega)⟩
namespace Rl
def st0 (g : Geo.G) (es : List BE) : St := ⟨es, List.replicate g.b.toNat 0, 0, 0, 0, []⟩
theorem st0_ok (g : Geo.G) (es : List BE) : StOk g (st0 g es) 0 := ⟨⟨Int.le_refl _, Int.le_refl _⟩, ⟨by simp [st0], by simp [st0]⟩, Nat.le_refl _, by simp [st0]⟩
/-- where Run ends -/
def runSt (g : Geo.G) (es : List BE) (next : Int) (R : List (Int × Rec)) : St := after g R next (st0 g es) (runLen R next)
/-- the zones that Run tells -/
def zonesOf (R : List (Int × Rec)) : List Int := Lib.compact (sortedI (zones R))
end Rl
/-- what Run gives -/
def RunPost (w : World) (g : Geo.G) (es : List BE) (next : Int) (R : List (Int × Rec)) (e : Ending) (w' : World) : Prop :=
  ∃ p le ll ce cl av cv au cu, e = .returned (.tuple #[.agg (resC p (next + (runLen R next : Nat)) (runSt g es next R).applied (.slice av (Rl.singles (runSt g es next R).single 0).length cv) (.slice au (zonesOf R).length cu)), .int .i64 0]) ∧
    BmIs w' p le ll ce cl g (runSt g es next R).es (liveL (nz g) (runSt g es next R).es) ∧ MapOk g (runSt g es next R).es ∧ OwnM w' 3 1 iC (fun _ => True) w.heap.size (.slice av (Rl.singles (runSt g es next R).single 0).length cv) (Rl.singles (runSt g es next R).single 0) ∧ OwnM w' 3 1 iC (fun _ => True) w.heap.size (.slice au (zonesOf R).length cu) (zonesOf R) ∧ (w.heap.size ≤ p ∧ w.heap.size ≤ le ∧ w.heap.size ≤ ll) ∧ Below w.heap.size w w'
theorem RolIs.start {w : World} {B p le ll ce cl sb : Nat} {g : Geo.G} {es : List BE} (hm : BmIs w p le ll ce cl g es (liveL (nz g) es)) (hs : w.heap[sb]? = some (.cells (sgC (List.replicate g.b.toNat 0)) 3 (0, 0))) (hB : B ≤ p ∧ B ≤ le ∧ B ≤ ll ∧ B ≤ sb) (hBw : B ≤ w.heap.size) (hok : MapOk g es) (hne : sb ≠ ll) (X : Array Value) (hX : rolC p 0 0 (.slice none 0 0) sb g.b.toNat 0 = X) :
    RolIs (w.alloc (.cells X 99)) B w.heap.size p le ll ce cl sb g (.slice none 0 0) (st0 g es) := by
  have hb := (Below.refl w.heap.size w).alloc (Nat.le_refl _) (.cells X 99); refine ⟨?_, OwnM.nil _ _ _ _ _ _, hm.below hb, (hb.block sb (Array.getElem?_eq_some_iff.1 hs).1).trans hs, ⟨hBw, hB.1, hB.2.1, hB.2.2.1, hB.2.2.2, by simp; omega⟩, hok, by simp [st0], hne⟩; rw [heap_alloc_new, ← hX]; simp [st0]
end Go.Proofs.Ytoiephmngdecaaa
