/- Proved here: blocks are nothing (the document's none); plain: the document's way through a list, number by number, is the roller's. -/
import Derived.LoopTactic
import Derived.Test.YtoiephmngdecaaaKas
import Derived.Test.YtoiephmngdecaaaKbc
namespace Go.Proofs.Ytoiephmngdecaaa
open Go.RowKit Go.Rv Rl Frm
set_option linter.unusedVariables false
attribute [local go_sem] Oper.semAt_some
namespace Rl
/-- some of a list are z -/
def nonI {α : Type} (z : α) (b m : Int) : Nat → List α → List α
  | _, [] => []
  | i, x :: r => (if b ≤ (i : Nat) ∧ (i : Nat) < b + m then z else x) :: nonI z b m (i + 1) r
theorem nonI_length {α : Type} (z : α) (b m : Int) : ∀ (l : List α) (i : Nat), (nonI z b m i l).length = l.length
  | [], _ => rfl
  | x :: r, i => by simp [nonI, nonI_length z b m r (i + 1)]
theorem nonI_snoc {α : Type} (z : α) (b m : Int) (x : α) : ∀ (l : List α) (i : Nat), nonI z b m i (l ++ [x]) = nonI z b m i l ++ [if b ≤ ((i + l.length : Nat) : Int) ∧ ((i + l.length : Nat) : Int) < b + m then z else x]
  | [], i => by simp [nonI]
  | y :: r, i => by
    have ih := nonI_snoc z b m x r (i + 1); simp only [List.cons_append, nonI, ih, List.length_cons]; rw [show i + 1 + r.length = i + (r.length + 1) by omega]
theorem nonI_take {α : Type} (z : α) (b m : Int) {l : List α} {k : Nat} {x : α} (h : l[k]? = some x) : nonI z b m 0 (l.take (k + 1)) = nonI z b m 0 (l.take k) ++ [if b ≤ (k : Int) ∧ (k : Int) < b + m then z else x] := by
  rw [List.take_add_one, h]; have hk := (List.getElem?_eq_some_iff.1 h).1; simp only [Option.toList_some]; rw [nonI_snoc, List.length_take, Nat.min_eq_left (by omega), Nat.zero_add]
end Rl
theorem OwnM.apart {α β : Type} {w : World} {e e' : TypeId} {n n' : Nat} {X : α → Array Value} {Q : α → Prop} {X' : β → Array Value} {Q' : β → Prop} {base base' : Nat} {v u : Value} {xs : List α} {ys : List β} (h : OwnM w e n X Q base v xs) (h' : OwnM w e' n' X' Q' base' u ys) (hne : e ≠ e') : u.ownBlock = none ∨ u.ownBlock ≠ v.ownBlock := by
  cases hu : u.ownBlock with
  | none => exact .inl rfl
  | some k =>
    right; intro hv; obtain ⟨-, C, hC⟩ := h.base_le hv.symm; obtain ⟨-, D, hD⟩ := h'.base_le hu; rw [hC] at hD; simp only [Option.some.injEq, Obj.cells.injEq] at hD; exact hne hD.2.1
theorem wpList_slice1re {w : World} {ops : Array Oper} {rest : List Oper} {o : Oper} {a : Act} {Q : Exit → Act → World → Prop} (hg : o.guard = none) (x : Operand) (ho : o.op = .buildSlice 30 1 #[(0, x)]) (f : BE) (hx : a.eval x = .agg (BEC f))
    (h : wpList Try.prog ops Q rest (a.put o.dst (.slice (some ⟨w.heap.size, 0, none⟩) 1 1)) (w.alloc (.cells (BEC f) 55))) : wpList Try.prog ops Q (o :: rest) a w := by
  have hi := Try.infoReZ
  cases hie : Try.prog.info? 55 with
  | none => rw [hie] at hi; cases hi
  | some ie =>
    rw [hie, Option.map_some, Option.some.injEq, Prod.mk.injEq] at hi; obtain ⟨hz, hs⟩ := hi; refine wpList_buildSlice hg 30 55 1 #[(0, x)] ho (BEC f) ie (.agg (BEC BE.zero)) Try.underlying30 hie hz (by rw [hs]; decide) (by rw [hs]; decide) ?_ h; rw [hs]; have h1 := filled_re f _ rfl; simp only [List.map_toArray, List.map_cons, List.map_nil, hx]; exact h1
set_option maxRecDepth 100000 in
set_option maxHeartbeats 64000000 in
theorem rrnone_any (w : World) (aL : Option Addr) (es : List BE) (cL : Nat) (next ap : Int) (aS : Option Addr) (sg : List Int) (cS : Nat) (block many : Int)
    (hL : RowOf w 6 BEC (fun _ => True) aL es) (hS : RowOf w 1 iC (fun _ => True) aS sg) (hlen : es.length ≤ 256) (hsg : sg.length = es.length) (hbk : 0 ≤ block ∧ block ≤ 1000) (hmk : 0 ≤ many ∧ many ≤ 1000) :
    Calls Try.prog 35 #[.agg (rrC (.slice aL es.length cL) next ap (.slice aS sg.length cS)), .int .i64 block, .int .i64 many] w (RPost w.heap.size w (nonI BE.zero block many 0 es) (nonI 0 block many 0 sg) next ap) := by
  have HIR := Try.infoRE3; obtain ⟨n, hn⟩ : ∃ n, es.length = n := ⟨_, rfl⟩; have hn2 : sg.length = n := by omega
  rw [hn, hn2]; rw [hn] at hlen; have HN := Lib.hid (And.intro hn hn2); obtain ⟨CR, hCR⟩ : ∃ C, rrC (.slice aL n cL) next ap (.slice aS n cS) = C := ⟨_, rfl⟩; have HCR := Lib.hid hCR; rw [hCR]; obtain ⟨W0, hW0⟩ : ∃ W, (w.alloc (.cells CR 45)).alloc (.cells RRZ 45) = W := ⟨_, rfl⟩; have hb0 : Below w.heap.size w W0 := by rw [← hW0]; exact ((Below.refl _ _).alloc (Nat.le_refl _) _).alloc (by simp) _
  obtain ⟨h3, h6⟩ : W0.heap[w.heap.size]? = some (.cells CR 45 (0, 0)) ∧ W0.heap[w.heap.size + 1]? = some (.cells RRZ 45 (0, 0)) := by
    rw [← hW0]; exact ⟨(alloc_old _ _ (by simp)).trans (alloc_new _ _ rfl), alloc_new _ _ (by simp)⟩
  have hzr := (zero_of_info Try.infoRR).1; have HW0 := Lib.hid hW0; have HB0 := Lib.hid hb0; have HL0 := Lib.hid (hL.below hb0); have HS0 := Lib.hid (hS.below hb0); have HBZ : Hid (Try.prog.built 55 [] = some (BEC BE.zero)) := Lib.hid (by kernel_rfl); have HIE : Hid ((Try.prog.info? 55).map (·.size) = some 6) := Lib.hid (zero_of_info Try.infoReZ).2; clear hL hS hn hn2 hCR hW0 hb0 hsg; go_enter Try.func35, Try.ntmps35; go_upto_region 1 with (fail); rw [HW0.out]; obtain ⟨b6, q6⟩ : ∃ b, w.heap.size + 1 = b := ⟨_, rfl⟩; have zb : w.heap.size < b6 ∧ b6 < W0.heap.size := by have := (Array.getElem?_eq_some_iff.1 h6).1; omega
  rw [q6] at h6 ⊢; have H3 := Lib.hid h3; have H6 := Lib.hid h6
  have HCC : Hid (∀ (W : World) (b : Nat), W.heap[b]? = some (.cells CR 45 (0, 0)) → W.cell? ⟨b, 0, none⟩ = some (.slice aL n cL) ∧ W.cell? ⟨b, 3, none⟩ = some (.slice aS n cS)) := Lib.hid (fun W b h => by
    rw [← HCR.out] at h; exact ⟨(rr_cells h).1, (rr_cells h).2.2.2⟩)
  clear h3 h6 q6; have HK3 : Hid (∀ W, Below W0.heap.size W0 W → W.cell? ⟨w.heap.size, 0, none⟩ = some (.slice aL n cL) ∧ W.cell? ⟨w.heap.size, 3, none⟩ = some (.slice aS n cS)) := Lib.hid (fun W hW => HCC.out W _ ((hW.block w.heap.size (by omega)).trans H3.out)); go_upto_region 4 with (fail); go_loopw [7, 8, 9] (fun x y u wr => ∃ (k : Nat) (v1 v2 : Value), k ≤ n ∧ u = .int .i64 k ∧ v1 = x ∧ v2 = y ∧ OwnM wr 55 6 BEC (fun _ => True) W0.heap.size v1 (nonI BE.zero block many 0 (es.take k)) ∧ OwnM wr 3 1 iC (fun _ => True) W0.heap.size v2 (nonI 0 block many 0 (sg.take k)) ∧ Below W0.heap.size W0 wr) (fun _ _ u _ => n - (intOf u).toNat)
  case atStart => exact ⟨0, _, _, Nat.zero_le _, rfl, rfl, rfl, OwnM.nil _ _ _ _ _ _, OwnM.nil _ _ _ _ _ _, Below.refl _ _⟩
  case round =>
    obtain ⟨k, v1, v2, hk, rfl, rfl, rfl, ho1, ho2, hBr⟩ := hrel; have zr := hBr.size; have HBR := Lib.hid hBr; have HO1 := Lib.hid ho1; have HO2 := Lib.hid ho2; have hc := (HK3.out wr hBr).1; clear hBr ho1 ho2; by_cases hlt : k < n
    · obtain ⟨x, hx⟩ : ∃ x, es[k]? = some x := ⟨_, List.getElem?_eq_getElem (by rw [HN.out.1]; exact hlt)⟩; obtain ⟨y, hy⟩ : ∃ y, sg[k]? = some y := ⟨_, List.getElem?_eq_getElem (by rw [HN.out.2]; exact hlt)⟩; obtain ⟨lb, lo, rfl, -, -, -⟩ := HL0.out.at hx; obtain ⟨sb, so, rfl, -, -, -⟩ := HS0.out.at hy; have HXR : Hid (∀ W, Below W0.heap.size W0 W → W.rangeAt lb (lo + k * 6) (BEC x).toList) := Lib.hid (fun W hW => Rl2.rowOf_range (HL0.out.below hW) kinR.size hx)
      have HYC : Hid (∀ W, Below W0.heap.size W0 W → W.cell? ⟨sb, so + k, none⟩ = some (.int .i64 y)) := Lib.hid (fun W hW => by
        obtain ⟨b', o', e', -, hc', -⟩ := (HS0.out.below hW).at hy; cases e'; have h1 := hc' 0 (by omega); rw [Nat.mul_one, Nat.add_zero] at h1; exact h1)
      have HST1 := Lib.hid (nonI_take BE.zero block many hx); have HST2 := Lib.hid (nonI_take (0 : Int) block many hy); obtain ⟨xs1, hxs1⟩ : ∃ l, nonI BE.zero block many 0 (es.take k) = l := ⟨_, rfl⟩; obtain ⟨xs2, hxs2⟩ : ∃ l, nonI (0 : Int) block many 0 (sg.take k) = l := ⟨_, rfl⟩; have HL1 : Hid (xs1.length = k ∧ xs2.length = k) := Lib.hid (by rw [← hxs1, ← hxs2, nonI_length, nonI_length, List.length_take, List.length_take, HN.out.1, HN.out.2]; omega); rw [hxs1] at HO1 HST1; rw [hxs2] at HO2 HST2; clear hx hy hxs1 hxs2; have step : ∀ (z : BE) (zi : Int) (v1' v2' : Value) (W1 W2 : World), True := fun _ _ _ _ _ _ => trivial
      clear step
      have hcase : (decide (block ≤ (k : Int)) = false ∧ ¬ (block ≤ (k : Int) ∧ (k : Int) < block + many)) ∨ (decide (block ≤ (k : Int)) = true ∧ decide ((k : Int) < block + many) = false ∧ ¬ (block ≤ (k : Int) ∧ (k : Int) < block + many)) ∨ (decide (block ≤ (k : Int)) = true ∧ decide ((k : Int) < block + many) = true ∧ (block ≤ (k : Int) ∧ (k : Int) < block + many)) := by
        by_cases h1 : block ≤ (k : Int)
        · by_cases h2 : (k : Int) < block + many
          · exact .inr (.inr ⟨decide_eq_true h1, decide_eq_true h2, h1, h2⟩)
          · exact .inr (.inl ⟨decide_eq_true h1, decide_eq_false h2, fun h => h2 h.2⟩)
        · exact .inl ⟨decide_eq_false h1, fun h => h1 h.1⟩
      rcases hcase with ⟨t1, hno⟩ | ⟨t1, t2, hno⟩ | ⟨t1, t2, hyes⟩
      · rw [if_neg hno] at HST1 HST2; clear hno; go_upto_region 9 with (fail); clear hc; obtain ⟨W1, hW1⟩ : ∃ W, wr.alloc (.cells (BEC x) 55) = W := ⟨_, rfl⟩; have hb1 : Below wr.heap.size wr W1 := by rw [← hW1]; exact (Below.refl _ _).alloc (Nat.le_refl _) _
        have HR1 : Hid (RowOf W1 6 BEC (fun _ => True) (some ⟨wr.heap.size, 0, none⟩) [x]) := Lib.hid (by rw [← hW1]; exact one_rowOf (t := 55) (fr := (0, 0)) (heap_alloc_new wr _) trivial); have HP1 := Lib.hid (HO1.out.below hb1); have HP2 := Lib.hid (HO2.out.below hb1); have hbb1 := HBR.out.trans (hb1.mono zr); have HBB1 := Lib.hid hbb1; have zs1 := hbb1.size; have HW1 := Lib.hid hW1; have HAP := Lib.hid (OwnM.apart HP1.out HP2.out (by decide)); have c0 := (HK3.out wr HBR.out).1; clear hW1 hb1 hbb1; go_upto_region 10 with (first | (refine wpList_load_mid rfl 55 _ rfl lb (lo + k * 6) rfl (BEC x).toList _ (HXR.out _ HBR.out) Try.underlying55 rfl HIE.out ?_) | (refine wpList_slice1re rfl (.tmp 39) rfl x rfl ?_; rw [HW1.out]) | (at_builtin; refine wpList_appendM rfl (.tmp 34) (.tmp 40) 30 rfl 55 6 BEC (fun _ => True) kinR (by decide) (.agg (BEC BE.zero)) 48 Try.underlying30 HIR rfl W0.heap.size _ xs1 rfl HP1.out (some ⟨wr.heap.size, 0, none⟩) 1 [x] (by rfl) HR1.out (by simp) (by have := HL1.out.1; unfold maxLen; simp; omega) (by have := HL1.out.1; simp; omega) zs1 ?_; intro v11 w11 hv11 hg11 _; have HV11 := Lib.hid hv11; have HU11 := Lib.hid (HP2.out.kept hg11 HAP.out); have HB11 := Lib.hid (HBB1.out.trans (HP1.out.grown hg11 zs1)); clear hv11 hg11)); clear c0; have z11 := HB11.out.size; have HR2 := Lib.hid (add_one_int w11 3 (y : Int)); have hb2 := (Below.refl w11.heap.size w11).alloc (Nat.le_refl _) (.cells #[.int .i64 (y : Int)] 3); have HQ1 := Lib.hid (HV11.out.below hb2); have HQ2 := Lib.hid (HU11.out.below hb2); have HBB2 := Lib.hid (HB11.out.trans (hb2.mono z11)); have HAQ := Lib.hid (OwnM.apart HQ2.out HQ1.out (by decide)); have zs2 := HBB2.out.size; have c3 := (HK3.out w11 HB11.out).2; have cy := HYC.out w11 HB11.out; clear hb2; go_wp2_with (at_builtin; refine wpList_appendM rfl (.tmp 42) (.tmp 48) 33 rfl 3 1 iC (fun _ => True) kinI (by decide) (.int .i64 0) 8 Try.underlying33 Try.infoInt3 rfl W0.heap.size _ xs2 rfl HQ2.out (some ⟨w11.heap.size, 0, none⟩) 1 [y] (by rfl) HR2.out (by simp) (by have := HL1.out.2; unfold maxLen; simp; omega) (by have := HL1.out.2; simp; omega) zs2 ?_; intro v12 w12 hv12 hg12 _; have HV12 := Lib.hid hv12; have HU12 := Lib.hid (HQ1.out.kept hg12 HAQ.out); have HB12 := Lib.hid (HBB2.out.trans (HQ2.out.grown hg12 zs2)); clear hv12 hg12); have hv1 := HU12.out; have hv2 := HV12.out; rw [← HST1.out] at hv1; rw [← HST2.out] at hv2
        first | exact ⟨⟨k + 1, _, _, by omega, by go_num, rfl, rfl, hv1, hv2, HB12.out⟩, by simp [intOf]; omega⟩ | (refine ⟨⟨_, _, _, ⟨k + 1, by omega, ?_, hv1, hv2, HB12.out⟩, rfl, rfl, rfl⟩, by simp [intOf]; omega⟩; go_num)
      · rw [if_neg hno] at HST1 HST2; clear hno; go_upto_region 9 with (fail); clear hc; obtain ⟨W1, hW1⟩ : ∃ W, wr.alloc (.cells (BEC x) 55) = W := ⟨_, rfl⟩; have hb1 : Below wr.heap.size wr W1 := by rw [← hW1]; exact (Below.refl _ _).alloc (Nat.le_refl _) _
        have HR1 : Hid (RowOf W1 6 BEC (fun _ => True) (some ⟨wr.heap.size, 0, none⟩) [x]) := Lib.hid (by rw [← hW1]; exact one_rowOf (t := 55) (fr := (0, 0)) (heap_alloc_new wr _) trivial); have HP1 := Lib.hid (HO1.out.below hb1); have HP2 := Lib.hid (HO2.out.below hb1); have hbb1 := HBR.out.trans (hb1.mono zr); have HBB1 := Lib.hid hbb1; have zs1 := hbb1.size; have HW1 := Lib.hid hW1; have HAP := Lib.hid (OwnM.apart HP1.out HP2.out (by decide)); have c0 := (HK3.out wr HBR.out).1; clear hW1 hb1 hbb1; go_upto_region 10 with (first | (refine wpList_load_mid rfl 55 _ rfl lb (lo + k * 6) rfl (BEC x).toList _ (HXR.out _ HBR.out) Try.underlying55 rfl HIE.out ?_) | (refine wpList_slice1re rfl (.tmp 39) rfl x rfl ?_; rw [HW1.out]) | (at_builtin; refine wpList_appendM rfl (.tmp 34) (.tmp 40) 30 rfl 55 6 BEC (fun _ => True) kinR (by decide) (.agg (BEC BE.zero)) 48 Try.underlying30 HIR rfl W0.heap.size _ xs1 rfl HP1.out (some ⟨wr.heap.size, 0, none⟩) 1 [x] (by rfl) HR1.out (by simp) (by have := HL1.out.1; unfold maxLen; simp; omega) (by have := HL1.out.1; simp; omega) zs1 ?_; intro v11 w11 hv11 hg11 _; have HV11 := Lib.hid hv11; have HU11 := Lib.hid (HP2.out.kept hg11 HAP.out); have HB11 := Lib.hid (HBB1.out.trans (HP1.out.grown hg11 zs1)); clear hv11 hg11)); clear c0; have z11 := HB11.out.size; have HR2 := Lib.hid (add_one_int w11 3 (y : Int)); have hb2 := (Below.refl w11.heap.size w11).alloc (Nat.le_refl _) (.cells #[.int .i64 (y : Int)] 3); have HQ1 := Lib.hid (HV11.out.below hb2); have HQ2 := Lib.hid (HU11.out.below hb2); have HBB2 := Lib.hid (HB11.out.trans (hb2.mono z11)); have HAQ := Lib.hid (OwnM.apart HQ2.out HQ1.out (by decide)); have zs2 := HBB2.out.size; have c3 := (HK3.out w11 HB11.out).2; have cy := HYC.out w11 HB11.out; clear hb2; go_wp2_with (at_builtin; refine wpList_appendM rfl (.tmp 42) (.tmp 48) 33 rfl 3 1 iC (fun _ => True) kinI (by decide) (.int .i64 0) 8 Try.underlying33 Try.infoInt3 rfl W0.heap.size _ xs2 rfl HQ2.out (some ⟨w11.heap.size, 0, none⟩) 1 [y] (by rfl) HR2.out (by simp) (by have := HL1.out.2; unfold maxLen; simp; omega) (by have := HL1.out.2; simp; omega) zs2 ?_; intro v12 w12 hv12 hg12 _; have HV12 := Lib.hid hv12; have HU12 := Lib.hid (HQ1.out.kept hg12 HAQ.out); have HB12 := Lib.hid (HBB2.out.trans (HQ2.out.grown hg12 zs2)); clear hv12 hg12); have hv1 := HU12.out; have hv2 := HV12.out; rw [← HST1.out] at hv1; rw [← HST2.out] at hv2
        first | exact ⟨⟨k + 1, _, _, by omega, by go_num, rfl, rfl, hv1, hv2, HB12.out⟩, by simp [intOf]; omega⟩ | (refine ⟨⟨_, _, _, ⟨k + 1, by omega, ?_, hv1, hv2, HB12.out⟩, rfl, rfl, rfl⟩, by simp [intOf]; omega⟩; go_num)
      · rw [if_pos hyes] at HST1 HST2; clear hyes; go_upto_region 7 with (fail); clear hc; obtain ⟨W1, hW1⟩ : ∃ W, wr.alloc (.cells (BEC BE.zero) 55) = W := ⟨_, rfl⟩; have hb1 : Below wr.heap.size wr W1 := by rw [← hW1]; exact (Below.refl _ _).alloc (Nat.le_refl _) _
        have HR1 : Hid (RowOf W1 6 BEC (fun _ => True) (some ⟨wr.heap.size, 0, none⟩) [BE.zero]) := Lib.hid (by rw [← hW1]; exact one_rowOf (t := 55) (fr := (0, 0)) (heap_alloc_new wr _) trivial); have HP1 := Lib.hid (HO1.out.below hb1); have HP2 := Lib.hid (HO2.out.below hb1); have hbb1 := HBR.out.trans (hb1.mono zr); have HBB1 := Lib.hid hbb1; have zs1 := hbb1.size; have HW1 := Lib.hid hW1; have HAP := Lib.hid (OwnM.apart HP1.out HP2.out (by decide)); clear hW1 hb1 hbb1; go_upto_region 8 with (first | (refine wpList_build_on (by rfl) 55 _ rfl #[] (by simp) _ HBZ.out ?_) | (refine wpList_slice1re rfl (.tmp 28) rfl BE.zero rfl ?_; rw [HW1.out]) | (at_builtin; refine wpList_appendM rfl (.tmp 27) (.tmp 29) 30 rfl 55 6 BEC (fun _ => True) kinR (by decide) (.agg (BEC BE.zero)) 48 Try.underlying30 HIR rfl W0.heap.size _ xs1 rfl HP1.out (some ⟨wr.heap.size, 0, none⟩) 1 [BE.zero] (by rfl) HR1.out (by simp) (by have := HL1.out.1; unfold maxLen; simp; omega) (by have := HL1.out.1; simp; omega) zs1 ?_; intro v11 w11 hv11 hg11 _; have HV11 := Lib.hid hv11; have HU11 := Lib.hid (HP2.out.kept hg11 HAP.out); have HB11 := Lib.hid (HBB1.out.trans (HP1.out.grown hg11 zs1)); clear hv11 hg11)); have z11 := HB11.out.size; have HR2 := Lib.hid (add_one_int w11 3 (0 : Int)); have hb2 := (Below.refl w11.heap.size w11).alloc (Nat.le_refl _) (.cells #[.int .i64 (0 : Int)] 3); have HQ1 := Lib.hid (HV11.out.below hb2); have HQ2 := Lib.hid (HU11.out.below hb2); have HBB2 := Lib.hid (HB11.out.trans (hb2.mono z11)); have HAQ := Lib.hid (OwnM.apart HQ2.out HQ1.out (by decide)); have zs2 := HBB2.out.size; clear hb2; go_wp2_with (at_builtin; refine wpList_appendM rfl (.tmp 31) (.tmp 32) 33 rfl 3 1 iC (fun _ => True) kinI (by decide) (.int .i64 0) 8 Try.underlying33 Try.infoInt3 rfl W0.heap.size _ xs2 rfl HQ2.out (some ⟨w11.heap.size, 0, none⟩) 1 [0] (by rfl) HR2.out (by simp) (by have := HL1.out.2; unfold maxLen; simp; omega) (by have := HL1.out.2; simp; omega) zs2 ?_; intro v12 w12 hv12 hg12 _; have HV12 := Lib.hid hv12; have HU12 := Lib.hid (HQ1.out.kept hg12 HAQ.out); have HB12 := Lib.hid (HBB2.out.trans (HQ2.out.grown hg12 zs2)); clear hv12 hg12); have hv1 := HU12.out; have hv2 := HV12.out; rw [← HST1.out] at hv1; rw [← HST2.out] at hv2
        first | exact ⟨⟨k + 1, _, _, by omega, by go_num, rfl, rfl, hv1, hv2, HB12.out⟩, by simp [intOf]; omega⟩ | (refine ⟨⟨_, _, _, ⟨k + 1, by omega, ?_, hv1, hv2, HB12.out⟩, rfl, rfl, rfl⟩, by simp [intOf]; omega⟩; go_num)
    · have hkn : k = n := by omega
      have hv1 := HO1.out; have hv2 := HO2.out; rw [hkn, List.take_of_length_le (by rw [HN.out.1]; exact Nat.le_refl _)] at hv1; rw [hkn, List.take_of_length_le (by rw [HN.out.2]; exact Nat.le_refl _)] at hv2; obtain ⟨xs1, hxs1⟩ : ∃ l, nonI BE.zero block many 0 es = l := ⟨_, rfl⟩; obtain ⟨xs2, hxs2⟩ : ∃ l, nonI (0 : Int) block many 0 sg = l := ⟨_, rfl⟩; rw [hxs1] at hv1; rw [hxs2] at hv2; obtain ⟨a1, e1, rfl, -, -, -, -, hblk1⟩ := hv1.shape kinR; obtain ⟨a2, e2, rfl, -, -, -, -, hblk2⟩ := hv2.shape kinI; obtain ⟨m1, hm1⟩ : ∃ m, xs1.length = m := ⟨_, rfl⟩; obtain ⟨m2, hm2⟩ : ∃ m, xs2.length = m := ⟨_, rfl⟩; rw [hm1] at hv1 hblk1 ⊢; rw [hm2] at hv2 hblk2 ⊢; rw [hkn]; have h37 := (HBR.out.block w.heap.size (by omega)).trans H3.out; rw [← HCR.out] at h37; have h67 := (HBR.out.block b6 (by omega)).trans H6.out; have hX := rr_setL h37 (.slice a1 m1 e1); have hoX : Only [w.heap.size, b6] wr (wr.setCell ⟨w.heap.size, 0, none⟩ (.slice a1 m1 e1)) := (Only.refl _ _).setCell (.inl (by simp)) _; have hY := rr_setS hX (.slice a2 m2 e2); have hoY := hoX.setCell (p := ⟨w.heap.size, 3, none⟩) (.inl (by simp)) (.slice a2 m2 e2); have hYb : ((wr.setCell ⟨w.heap.size, 0, none⟩ (.slice a1 m1 e1)).setCell ⟨w.heap.size, 3, none⟩ (.slice a2 m2 e2)).heap[b6]? = some (.cells RRZ 45 (0, 0)) := (((Only.refl [w.heap.size] wr).setCell (p := ⟨w.heap.size, 0, none⟩) (.inl (by simp)) (.slice a1 m1 e1)).setCell (p := ⟨w.heap.size, 3, none⟩) (.inl (by simp)) (.slice a2 m2 e2)).get h67 (by simp; omega); have hZ := setRow_heap _ _ _ (rrC (.slice a1 m1 e1) next ap (.slice a2 m2 e2)) _ _ hYb; have hoZ := hoY.trans ((only_set1 ((wr.setCell ⟨w.heap.size, 0, none⟩ (.slice a1 m1 e1)).setCell ⟨w.heap.size, 3, none⟩ (.slice a2 m2 e2)) b6 (rrC (.slice a1 m1 e1) next ap (.slice a2 m2 e2))).mono (T := [w.heap.size, b6]) (by simp))
      have hend1 := (hv1.only hoZ (fun j hj => by
        cases a1 with
        | none => simp [Value.ownBlock] at hj
        | some ad =>
          simp [Value.ownBlock] at hj; have := (hblk1 ad rfl).1; simp; omega)).mono (base' := w.heap.size) (by omega)
      have hend2 := (hv2.only hoZ (fun j hj => by
        cases a2 with
        | none => simp [Value.ownBlock] at hj
        | some ad =>
          simp [Value.ownBlock] at hj; have := (hblk2 ad rfl).1; simp; omega)).mono (base' := w.heap.size) (by omega)
      have hbelow := (HB0.out.trans (HBR.out.mono (by omega))).trans (hoZ.below (by simp; omega) (by omega)); have q1 := (rr_cells h37).1; have q2 : wr.frozen? ⟨w.heap.size, 0, none⟩ = false := frozen_of_row _ _ _ _ _ h37; have q3 := (rr_cells hX).2.2.2; have q4 : (wr.setCell ⟨w.heap.size, 0, none⟩ (.slice a1 m1 e1)).frozen? ⟨w.heap.size, 3, none⟩ = false := frozen_of_row _ _ _ _ _ hX; obtain ⟨X, eX⟩ : ∃ X, wr.setCell ⟨w.heap.size, 0, none⟩ (.slice a1 m1 e1) = X := ⟨_, rfl⟩; rw [eX] at q3 q4 hX hY hYb hZ hend1 hend2 hbelow; obtain ⟨Y, eY⟩ : ∃ Y, X.setCell ⟨w.heap.size, 3, none⟩ (.slice a2 m2 e2) = Y := ⟨_, rfl⟩; rw [eY] at hY hYb hZ hend1 hend2 hbelow; obtain ⟨Z, eZ⟩ : ∃ Z, Y.setRow b6 (rrC (.slice a1 m1 e1) next ap (.slice a2 m2 e2)) = Z := ⟨_, rfl⟩; rw [eZ] at hZ hend1 hend2 hbelow; have HE1 := Lib.hid eX; have HE2 := Lib.hid eY; have HE3 := Lib.hid eZ; have HY := Lib.hid hY; have HYB := Lib.hid hYb; have HZ := Lib.hid hZ; have HEND := Lib.hid (And.intro hend1 (And.intro hend2 hbelow)); have HXS := Lib.hid (And.intro hxs1 hxs2); clear eX eY eZ hX hY hYb hZ hoX hoY hoZ hend1 hend2 hbelow h37 h67 hv1 hv2 hblk1 hblk2 hm1 hm2 hxs1 hxs2; go_upto_region 12 with (fail); rw [HE1.out]; go_upto_region 13 with (fail); rw [HE2.out]; clear q1 q2 q3 q4 hc; go_wp2_with (first | (refine wpList_load_row rfl 45 _ rfl w.heap.size rfl 45 _ _ _ HY.out Try.underlying45 rfl (rr_size _ _ _ _) ?_) | (refine wpList_store_row rfl 45 _ _ rfl b6 _ rfl rfl 45 RRZ HYB.out (rr_size _ _ _ _) rfl (rr_one _ _ _ _ _ _ _ _) ?_; rw [HE3.out])); refine bodyPost_ret (res_row rfl _ _ b6 45 _ _ _ rfl HZ.out Try.underlying45 rfl (rr_size _ _ _ _)) rfl ?_; exact ⟨_, _, rfl, by rw [HXS.out.1]; exact HEND.out.1, by rw [HXS.out.2]; exact HEND.out.2.1, HEND.out.2.2⟩
end Go.Proofs.Ytoiephmngdecaaa
namespace Go.Proofs.Ytoiephmngdecaaa
open Go.RowKit Go.Rv Rl Frm
set_option linter.unusedVariables false
namespace Rl
/-- a choice that stands -/
structure ChOk (g : Geo.G) (s : Int) (c : Ch) : Prop where
  ok : RecOk g c.r
  be : beRight g (beOf s c) = true
  kd : c.r.e.kind = 1 ∨ c.r.e.kind = 2 ∨ c.r.e.kind = 3
  ct : 1 ≤ c.r.e.count ∧ c.r.e.count ≤ 4
theorem recE_facts {g : Geo.G} {epoch : Int} {f : Fnd} {e : En.E} (hf : FndQ f) (h : recE g epoch f = some e) (hs : 1 ≤ f.fr.seq) (b : Bool) : ChOk g f.fr.seq ⟨⟨e, f.zone, f.off⟩, b⟩ := by
  have hok := recE_ok hf.2.2.1 h; unfold recE at h; split at h
  · rename_i hh; obtain ⟨h1, -, -, -, h5⟩ := hh; simp only [Option.some.injEq] at h; have hr := readE_ok hf.2.2.1 h1
    have hsq : f.fr.seq ≤ 281474976710655 := by
      rcases readE_cases f.fr hf.2.2.1 with ⟨-, h2⟩ | ⟨-, -, h2⟩ | ⟨-, -, -, h2⟩ | ⟨-, -, -, -, h2⟩ | ⟨-, h2, -⟩
      all_goals first | (rw [h2] at h1; cases h1; done) | skip
      unfold rightF at h2; simp only [decide_eq_true_eq] at h2; omega
    rw [h] at hr h5; unfold Rl.lies at h5; simp only [Bool.and_eq_true, decide_eq_true_eq] at h5; obtain ⟨h6, h7, h8, -⟩ := h5; have hsum := Crc.sum_lt hok.q.2
    have hk : (e.kind = 1 ∨ e.kind = 2 ∨ e.kind = 3) ∧ (1 ≤ e.count ∧ e.count ≤ 4) := by
      unfold En.right at hr; simp only [Bool.and_eq_true] at hr; obtain ⟨-, -, -, hr⟩ := hr; unfold En.counts at hr; split at hr
      · rename_i hk; simp only [Bool.and_eq_true, En.inB_iff, beq_iff_eq] at hr hk; omega
      · split at hr
        · rename_i hk; simp only [Bool.and_eq_true, En.inB_iff, beq_iff_eq] at hr hk; omega
        · simp only [Bool.and_eq_true, beq_iff_eq] at hr; omega
    refine ⟨hok, ?_, hk.1, hk.2⟩; unfold beRight beOf; simp only; rw [if_neg (by omega), if_pos trivial]; unfold beLive; simp only; rw [h6, h7, decide_eq_true h8, decide_eq_true hs, decide_eq_true hsq]
    have hs2 : (0 : Int) ≤ ((Crc.sum e.bytes : Nat) : Int) ∧ ((Crc.sum e.bytes : Nat) : Int) ≤ 4294967295 := by
      have : Crc.sum e.bytes < 4294967296 := hsum; omega
    rw [decide_eq_true hs2.1, decide_eq_true hs2.2]; rfl
  · cases h
theorem nonI_at {α : Type} (z : α) (b m : Int) : ∀ (l : List α) (i j : Nat), (nonI z b m i l)[j]? = (l[j]?).map fun x => if b ≤ ((i + j : Nat) : Int) ∧ ((i + j : Nat) : Int) < b + m then z else x
  | [], i, j => by simp [nonI]
  | x :: r, i, 0 => by simp [nonI]
  | x :: r, i, j + 1 => by
    have ih := nonI_at z b m r (i + 1) j; simp only [nonI, List.getElem?_cons_succ, ih]; rw [show i + 1 + j = i + (j + 1) by omega]
theorem nonI_zero {α : Type} (z : α) (b : Int) (l : List α) : nonI z b 0 0 l = l := by
  apply List.ext_getElem?; intro j; rw [nonI_at]
  cases l[j]? with
  | none => rfl
  | some x => simp only [Option.map_some]; rw [if_neg (by omega)]
theorem nonI_succ {α : Type} (z : α) (b : Nat) (n : Nat) (l : List α) (hb : b < l.length) : nonI z ((b + 1 : Nat) : Int) (n : Nat) 0 (l.set b z) = nonI z (b : Nat) ((n + 1 : Nat) : Int) 0 l := by
  apply List.ext_getElem?; intro j; rw [nonI_at, nonI_at, Nat.zero_add]; by_cases hj : b = j
  · subst hj; rw [List.getElem?_set_self hb, List.getElem?_eq_getElem hb]; simp only [Option.map_some]; rw [if_neg (by omega), if_pos (by omega)]
  · rw [List.getElem?_set_ne hj]
    cases l[j]? with
    | none => rfl
    | some x =>
      simp only [Option.map_some]; by_cases h1 : ((b + 1 : Nat) : Int) ≤ (j : Nat) ∧ ((j : Nat) : Int) < ((b + 1 : Nat) : Int) + (n : Nat)
      · rw [if_pos h1, if_pos (by omega)]
      · rw [if_neg h1, if_neg (by omega)]
theorem setEs_zero (g : Geo.G) (es : List BE) (b : Nat) (hb : b < es.length) : setEs g es (b : Nat) BE.zero = es.set b BE.zero := by
  unfold setEs; rw [if_neg (by omega), if_pos (by unfold beRight BE.zero; simp)]; rfl
theorem trim_is (g : Geo.G) : ∀ (n b : Nat) (st : St), b + n ≤ st.es.length → st.single.length = st.es.length →
    (trim g (b : Nat) n st).es = nonI BE.zero (b : Nat) (n : Nat) 0 st.es ∧ (trim g (b : Nat) n st).single = nonI 0 (b : Nat) (n : Nat) 0 st.single ∧ (trim g (b : Nat) n st).applied = st.applied ∧ (trim g (b : Nat) n st).first = st.first ∧ (trim g (b : Nat) n st).count = st.count ∧ (trim g (b : Nat) n st).ol = st.ol
  | 0, b, st, _, _ => by
    rw [show ((0 : Nat) : Int) = 0 from rfl, nonI_zero, nonI_zero]; exact ⟨rfl, rfl, rfl, rfl, rfl, rfl⟩
  | n + 1, b, st, h, hl => by
    have hz := setEs_zero g st.es b (by omega); have ih := trim_is g n (b + 1) { st with es := setEs g st.es (b : Nat) BE.zero, single := st.single.set b 0 } (by simp only [hz, List.length_set]; omega) (by simp only [hz, List.length_set]; exact hl); unfold trim; rw [show ((b : Nat) : Int) + 1 = ((b + 1 : Nat) : Int) by omega, show ((b : Nat) : Int).toNat = b by omega]; obtain ⟨h1, h2, h3, h4, h5, h6⟩ := ih; refine ⟨h1.trans ?_, h2.trans ?_, h3, h4, h5, h6⟩
    · simp only [hz]; exact nonI_succ _ _ _ _ (by omega)
    · exact nonI_succ _ _ _ _ (by omega)
theorem lie_es {g : Geo.G} {st : St} {s : Int} {c : Ch} (h : ChOk g s c) (hl : (st.es.length : Int) = g.b) : (lie g st s c).es = st.es.set c.r.e.block.toNat (beOf s c) := by
  have hb := h.ok.b; show setEs g st.es c.r.e.block (beOf s c) = _; unfold setEs; rw [if_neg (by omega), if_pos h.be]
/-- the list's record of a number, and what it must be for a group that begins with fr -/
def cAt (g : Geo.G) (epoch : Int) (l : List Fnd) (q : Int) : Ch := choose (atS g epoch q l)
def GoodAt (g : Geo.G) (epoch : Int) (l : List Fnd) (fr q : Int) : Prop := atS g epoch q l ≠ [] ∧ (cAt g epoch l q).r.e.kind = 1 ∧ (cAt g epoch l q).r.e.first = fr ∧ (cAt g epoch l q).r.e.count = (cAt g epoch l fr).r.e.count
def AllGood (g : Geo.G) (epoch : Int) (l : List Fnd) (fr s : Int) : Prop := ∀ q, fr ≤ q → q ≤ s → GoodAt g epoch l fr q
/-- where the document's group begins, and the roller's open group -/
def FromOk (g : Geo.G) (epoch : Int) (l : List Fnd) (st : St) (s : Int) (fr : Int) : Prop :=
  (fr = -1 ∧ st.ol = [] ∧ st.first = 0 ∧ st.count = 0) ∨
  (0 ≤ fr ∧ st.first = fr ∧ fr + (st.ol.length : Nat) = s ∧ ((st.ol.length : Nat) : Int) < st.count ∧ st.count = (cAt g epoch l fr).r.e.count ∧ ∀ i : Nat, i < st.ol.length → st.ol[i]? = some (cAt g epoch l (fr + (i : Nat))) ∧ GoodAt g epoch l fr (fr + (i : Nat)))
theorem lieAll_same (g : Geo.G) (first : Int) : ∀ (l : List Ch) (i : Nat) (a b : St), a.es = b.es → a.single = b.single → (lieAll g first l i a).es = (lieAll g first l i b).es ∧ (lieAll g first l i a).single = (lieAll g first l i b).single
  | [], i, a, b, h1, h2 => ⟨h1, h2⟩
  | c :: r, i, a, b, h1, h2 => by
    unfold lieAll; refine lieAll_same g first r (i + 1) _ _ ?_ ?_
    · show setEs g a.es _ _ = setEs g b.es _ _; rw [h1]
    · show a.single.set _ _ = b.single.set _ _; rw [h2]
/-- a Data -/
theorem data_step {g : Geo.G} {epoch : Int} {l : List Fnd} {st : St} {s fr : Int} (hF : FromOk g epoch l st s fr) (hs : 0 ≤ s) (hne : atS g epoch s l ≠ []) (hk : (cAt g epoch l s).r.e.kind = 1) (hc : 1 ≤ (cAt g epoch l s).r.e.count) (fr1 : Int) (hfr : fr1 = if (cAt g epoch l s).r.e.first = s then s else fr) :
    (fr1 = -1 ∧ FromOk g epoch l (data g st s (cAt g epoch l s)) (s + 1) (-1) ∧ (data g st s (cAt g epoch l s)).es = st.es ∧ (data g st s (cAt g epoch l s)).single = st.single ∧ (data g st s (cAt g epoch l s)).applied = st.applied) ∨
    (0 ≤ fr1 ∧ ¬ AllGood g epoch l fr1 s ∧ FromOk g epoch l (data g st s (cAt g epoch l s)) (s + 1) (-1) ∧ (data g st s (cAt g epoch l s)).es = st.es ∧ (data g st s (cAt g epoch l s)).single = st.single ∧ (data g st s (cAt g epoch l s)).applied = st.applied) ∨
    (0 ≤ fr1 ∧ fr1 ≤ s ∧ AllGood g epoch l fr1 s ∧ s ≠ fr1 + (cAt g epoch l s).r.e.count - 1 ∧ FromOk g epoch l (data g st s (cAt g epoch l s)) (s + 1) fr1 ∧ (data g st s (cAt g epoch l s)).es = st.es ∧ (data g st s (cAt g epoch l s)).single = st.single ∧ (data g st s (cAt g epoch l s)).applied = st.applied) ∨
    (0 ≤ fr1 ∧ fr1 ≤ s ∧ AllGood g epoch l fr1 s ∧ s = fr1 + (cAt g epoch l s).r.e.count - 1 ∧ FromOk g epoch l (data g st s (cAt g epoch l s)) (s + 1) (-1) ∧ (data g st s (cAt g epoch l s)).applied = st.applied + 1 ∧
      ∃ L : List Ch, fr1 + (L.length : Nat) = s + 1 ∧ (∀ i : Nat, i < L.length → L[i]? = some (cAt g epoch l (fr1 + (i : Nat)))) ∧ (data g st s (cAt g epoch l s)).es = (lieAll g fr1 L 0 st).es ∧ (data g st s (cAt g epoch l s)).single = (lieAll g fr1 L 0 st).single) := by
  obtain ⟨c, hcc⟩ : ∃ c, cAt g epoch l s = c := ⟨_, rfl⟩; rw [hcc] at hk hc hfr ⊢; have hshut : ∀ st' : St, FromOk g epoch l (shut st') (s + 1) (-1) := fun st' => .inl ⟨rfl, rfl, rfl, rfl⟩
  by_cases hf : c.r.e.first = s
  · rw [if_pos hf] at hfr; subst hfr
    have hgood : AllGood g epoch l fr1 fr1 := fun q h1 h2 => by
      have hq : q = fr1 := by omega
      subst hq; exact ⟨hne, by rw [hcc]; exact hk, by rw [hcc]; exact hf, rfl⟩
    have hop : opened st fr1 c.r.e = { st with first := fr1, count := c.r.e.count, ol := [] } := by unfold opened; rw [if_pos hf]
    have hgo : goesOn { st with first := fr1, count := c.r.e.count, ol := [] } fr1 c.r.e = true := by
      unfold goesOn; simp [hf]
    unfold data; simp only [hop]; rw [if_neg (by rw [hgo]; simp)]; by_cases hc1 : ((0 + 1 : Nat) : Int) < c.r.e.count
    · right; right; left; rw [if_pos (by simpa using hc1)]; refine ⟨hs, Int.le_refl _, hgood, by omega, .inr ⟨hs, rfl, by simp, by simpa using hc1, by rw [hcc], fun i hi => ?_⟩, rfl, rfl, rfl⟩
      simp at hi; subst hi; refine ⟨by simp [hcc], ?_⟩; have := hgood fr1 (Int.le_refl _) (Int.le_refl _); simpa using this
    · right; right; right; rw [if_neg (by simpa using hc1)]; refine ⟨hs, Int.le_refl _, hgood, by omega, .inl ⟨rfl, rfl, rfl, rfl⟩, rfl, [c], by simp, fun i hi => ?_, ?_, ?_⟩
      · simp at hi; subst hi; simp [hcc]
      · exact (lieAll_same g fr1 [c] 0 _ st rfl rfl).1
      · exact (lieAll_same g fr1 [c] 0 _ st rfl rfl).2
  · rw [if_neg hf] at hfr; subst hfr; have hop : opened st s c.r.e = st := by unfold opened; rw [if_neg hf]
    rcases hF with ⟨rfl, h1, h2, h3⟩ | ⟨h0, h1, h2, h3, h4, h5⟩
    · left
      have hgo : goesOn st s c.r.e = false := by
        unfold goesOn; rw [h3, decide_eq_false (show ¬ c.r.e.count = 0 by omega)]; simp
      unfold data; simp only [hop]; rw [if_pos hgo]; exact ⟨trivial, hshut st, rfl, rfl, rfl⟩
    · have hsl : s = fr1 + (st.ol.length : Nat) := h2.symm; by_cases hg2 : c.r.e.first = fr1 ∧ c.r.e.count = st.count
      · have hgo : goesOn st s c.r.e = true := by
          unfold goesOn; rw [h1, decide_eq_true hg2.1, decide_eq_true hg2.2, decide_eq_true hsl]; rfl
        have hgs : GoodAt g epoch l fr1 s := ⟨hne, by rw [hcc]; exact hk, by rw [hcc]; exact hg2.1, by rw [hcc, hg2.2, h4]⟩
        have hgood : AllGood g epoch l fr1 s := fun q q1 q2 => by
          by_cases hq : q = s
          · rw [hq]; exact hgs
          · have := (h5 (q - fr1).toNat (by omega)).2
            rwa [show fr1 + ((q - fr1).toNat : Nat) = q by omega] at this
        unfold data; simp only [hop]; rw [if_neg (by rw [hgo]; simp)]; by_cases hc1 : ((st.ol.length + 1 : Nat) : Int) < c.r.e.count
        · right; right; left; rw [if_pos hc1]; refine ⟨h0, by omega, hgood, by omega, .inr ⟨h0, h1, by simp; omega, by simp; rw [hg2.2] at hc1; omega, h4, fun i hi => ?_⟩, rfl, rfl, rfl⟩
          simp at hi; by_cases hi2 : i < st.ol.length
          · rw [List.getElem?_append_left hi2]; exact h5 i hi2
          · have hie : i = st.ol.length := by omega
            subst hie; rw [List.getElem?_append_right (Nat.le_refl _), Nat.sub_self, ← hsl, hcc]; exact ⟨rfl, hgs⟩
        · right; right; right; rw [if_neg hc1]; refine ⟨h0, by omega, hgood, by omega, .inl ⟨rfl, rfl, rfl, rfl⟩, rfl, st.ol ++ [c], by simp; omega, fun i hi => ?_, ?_, ?_⟩
          · simp at hi; by_cases hi2 : i < st.ol.length
            · rw [List.getElem?_append_left hi2]; exact (h5 i hi2).1
            · have hie : i = st.ol.length := by omega
              subst hie; rw [List.getElem?_append_right (Nat.le_refl _), Nat.sub_self, ← hsl, hcc]; rfl
          · rw [← h1]; rfl
          · rw [← h1]; rfl
      · have hgo : goesOn st s c.r.e = false := by
          unfold goesOn; rw [h1]; by_cases a1 : c.r.e.first = fr1
          · rw [decide_eq_false (fun h => hg2 ⟨a1, h⟩)]; simp
          · rw [decide_eq_false a1]; rfl
        right; left; unfold data; simp only [hop]; rw [if_pos hgo]; refine ⟨h0, fun hall => hg2 ?_, hshut st, rfl, rfl, rfl⟩
        have := hall s (by omega) (Int.le_refl _); unfold GoodAt at this; rw [hcc] at this; exact ⟨this.2.2.1, by rw [this.2.2.2, h4]⟩
end Rl
end Go.Proofs.Ytoiephmngdecaaa
