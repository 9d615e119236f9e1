/- Proved here: the walk of the law on frames of entries. -/
import Derived.Test.YtfcadbeamojdpaaEnEq
import Derived.Test.YtfcadbeamojdpaaEnAnchor
import Derived.Test.YtfcadbeamojdpaaRfRight
import Derived.Deep.MidRow
import Derived.Lib.SlBuf
import Derived.IntWalk
namespace Go.Rv
open Go.RowKit
theorem heap_setCells_ne (g i : Nat) (h : i ≠ g) : ∀ (vs : List Value) (o : Nat) (w : World), (w.setCells g o vs).heap[i]? = w.heap[i]?
  | [], _, _ => rfl
  | v :: vs, o, w => (heap_setCells_ne g i h vs (o + 1) (w.setCell ⟨g, o, none⟩ v)).trans (Below.heap_setCell w ⟨g, o, none⟩ v i h)
/-- a row, behind a store into its middle -/
theorem heap_setCells_row (g : Nat) (t : TypeId) : ∀ (vs : List Value) (o : Nat) (cur : List Value) (w : World), w.heap[g]? = some (.cells cur.toArray t (0, 0)) → o + vs.length ≤ cur.length →
    (w.setCells g o vs).heap[g]? = some (.cells (splice cur o vs).toArray t (0, 0))
  | [], o, cur, w, h, _ => by
    show w.heap[g]? = _
    rw [h]
    simp [splice]
  | v :: vs, o, cur, w, h, hl => by
    have h1 := heap_setCell_same w g o cur.toArray t v h
    rw [List.setIfInBounds_toArray] at h1
    rw [List.length_cons] at hl
    have h2 := heap_setCells_row g t vs (o + 1) (cur.set o v) (w.setCell ⟨g, o, none⟩ v) h1 (by rw [List.length_set]; omega)
    show ((w.setCell ⟨g, o, none⟩ v).setCells g (o + 1) vs).heap[g]? = _
    rw [h2]
    congr 3
    unfold splice
    rw [List.take_set, List.drop_set_of_lt (by omega)]
    have h3 : (cur.take (o + 1)).set o v = cur.take o ++ [v] := by
      rw [List.take_succ_eq_append_getElem (by omega), List.set_append, if_neg (by rw [List.length_take]; omega), List.length_take, Nat.min_eq_left (show o ≤ cur.length by omega), Nat.sub_self]
      rfl
    rw [h3, List.length_cons, List.append_assoc, List.singleton_append, List.cons_append, show o + 1 + vs.length = o + (vs.length + 1) by omega]
end Go.Rv
namespace Go.Proofs.Ytfcadbeamojdpaa
open Go.RowKit Go.Rv Frm
set_option linter.unusedVariables false
theorem lits_rfx (f : Fr) (hb : Body f.body) (hn : Num64 f) : Try.prog.keyLits 3 40 (FC f).toList = some (frLits f) := by
  obtain ⟨n0, n1, n2, n3, n4⟩ := hn
  have k1 : Try.prog.cellsOf 3 = 1 := by kernel_rfl
  have k44 : Try.prog.cellsOf 22 = 44 := by kernel_rfl
  have k49 : Try.prog.cellsOf 40 = 49 := by kernel_rfl
  have hlen : (FC f).toList.length = 49 := by rw [Array.length_toList, FC_size, hb.1]
  have c0 : ((FC f).toList.drop 0).take 1 = [.int .i64 f.kind] := by simp [FC]
  have c1 : ((FC f).toList.drop 1).take 1 = [.int .i64 f.zone] := by simp [FC]
  have c2 : ((FC f).toList.drop 2).take 1 = [.int .i64 f.off] := by simp [FC]
  have c3 : ((FC f).toList.drop 3).take 1 = [.int .i64 f.epoch] := by simp [FC]
  have c4 : ((FC f).toList.drop 4).take 1 = [.int .i64 f.seq] := by simp [FC]
  have c5 : ((FC f).toList.drop 5).take 44 = (byteCells f.body).toList := by
    simp [FC]
    rw [List.take_of_length_le (by rw [Array.length_toList, size_byteCells, hb.1]; omega)]
  have i : ∀ n : Int, (Lit.int .i64 n).wf = true → Try.prog.keyLits 2 3 [.int .i64 n] = some [.int .i64 n] := by
    intro n hn
    simp only [Program.keyLits, Try.underlying3, hn, and_self, if_true]
  have hB := lits_bytes Try.underlying22 Try.underlying5 (by kernel_rfl) k44 f.body hb.1 hb.2 0
  unfold Program.keyLits
  simp only [Try.underlying40, k49, hlen]
  rw [if_pos ⟨trivial, by decide +kernel⟩]
  simp only [List.mapM_cons, List.mapM_nil, k1, k44, c0, c1, c2, c3, c4, c5, i _ n0, i _ n1, i _ n2, i _ n3, i _ n4, hB]
  simp [frLits]
theorem eq_rfx (f g : Fr) (hf : Body f.body) (hg : Body g.body) (nf : Num64 f) (ng : Num64 g) (b : Bool) (hb : b = true ↔ f = g) (w : World) :
    (Op.equalIn 10000 40 (.agg (FC f)) (.agg (FC g))).run Try.prog w = .ok b w := by
  have hF : ∀ f : Fr, Body f.body → (Value.agg (FC f)).formed Try.prog 40 = true := by
    intro l hl
    simp only [Value.formed, Try.underlying40, FC_size, hl.1]
    kernel_rfl
  exact eq_deep (by kernel_rfl) (hF f hf) (hF g hg) (lits_rfx f hf nf) (lits_rfx g hg ng) b (hb.trans ⟨fun h => by rw [h], frLits_inj⟩) w
theorem Try.infoRfx : (Try.prog.info? 40).map (fun i => (i.zero, i.size)) = some (some (.agg (FC Fr.zero)), 49) := by kernel_rfl
theorem size_rfx {f : Fr} (h : f.body.length = 44) : (Try.prog.info? 40).map (·.size) = some (FC f).size := by rw [FC_size, h]; exact (zero_of_info Try.infoRfx).2
theorem built_rfx (k z o e s : Int) : Try.prog.built 40 [(0, .int .i64 k), (1, .int .i64 z), (2, .int .i64 o), (3, .int .i64 e), (4, .int .i64 s)] = some (FC ⟨k, z, o, e, s, List.replicate 44 0⟩) := by kernel_rfl
theorem built_frz : Try.prog.built 24 [] = some (FC Fr.zero) := by kernel_rfl
set_option maxRecDepth 100000 in
set_option maxHeartbeats 8000000 in
theorem en_frames_core (X F V V2 BC EZ FZ : Array Value) (ki fi co zone off epoch seq ge : Int) (r1 r2 : Bool) (w : World)
    (hIX : (Try.prog.info? 55).map (·.size) = some X.size) (h1X : X.all (·.oneCell') = true) (hSX : EZ.size = X.size)
    (hIF : (Try.prog.info? 24).map (·.size) = some F.size) (h1F : F.all (·.oneCell') = true) (hSF : FZ.size = F.size)
    (hIV : (Try.prog.info? 40).map (·.size) = some V.size) (h1V : V.all (·.oneCell') = true) (hSV : FZ.size = V.size) (hIV2 : (Try.prog.info? 40).map (·.size) = some V2.size)
    (hIB : (Try.prog.info? 22).map (·.size) = some BC.size) (h1B : BC.all (·.oneCell') = true)
    (hzE : ∀ w : World, (zeroValue 55).run Try.prog w = .ok (.agg EZ) w) (hzF : ∀ w : World, (zeroValue 24).run Try.prog w = .ok (.agg FZ) w) (hzV : ∀ w : World, (zeroValue 40).run Try.prog w = .ok (.agg FZ) w)
    (hBU : Try.prog.built 40 [(0, .int .i64 ki), (1, .int .i64 zone), (2, .int .i64 off), (3, .int .i64 epoch), (4, .int .i64 seq)] = some V) (hBZ : Try.prog.built 24 [] = some FZ)
    (hEC : ∀ (W : World) (b : Nat), W.heap[b]? = some (.cells X 55 (0, 0)) → W.cell? ⟨b, 0, none⟩ = some (.int .i64 ki) ∧ W.cell? ⟨b, 1, none⟩ = some (.int .i64 fi) ∧ W.cell? ⟨b, 2, none⟩ = some (.int .i64 co))
    (hFE : ∀ W, Calls Try.prog 30 #[.agg X, .int .i64 zone, .int .i64 off, .int .i64 epoch, .int .i64 seq] W fun x w' => x = .returned (.tuple #[.agg F, .int .i64 ge]) ∧ Below W.heap.size W w')
    (hLO : ∀ W, Calls Try.prog 32 #[.agg X] W fun x w' => x = .returned (.agg X) ∧ Below W.heap.size W w')
    (hRT : ∀ W, Calls Try.prog 33 #[.agg X] W fun x w' => x = .returned (.bool r1) ∧ Below W.heap.size W w')
    (hRR : ∀ W, Calls Try.prog 24 #[.agg V] W fun x w' => x = .returned (.bool r2) ∧ Below W.heap.size W w')
    (hqZ : ∀ W, (Op.equalIn 10000 24 (.agg FZ) (.agg FZ)).run Try.prog W = .ok true W)
    (hq : -4611686018427387904 ≤ fi + co ∧ fi + co ≤ 4611686018427387904 ∨ r1 = false)
    (hc : (ge = 10 ∧ F = FZ ∧ (r1 = false ∨ (r1 = true ∧ r2 = false) ∨ (r1 = true ∧ r2 = true ∧ decide (fi ≤ seq) = false) ∨ (r1 = true ∧ r2 = true ∧ decide (fi ≤ seq) = true ∧ decide (seq < fi + co) = false))) ∨
      (ge = 0 ∧ r1 = true ∧ r2 = true ∧ decide (fi ≤ seq) = true ∧ decide (seq < fi + co) = true ∧ (splice V.toList 5 BC.toList = V2.toList ∧ 5 + BC.size ≤ V.size) ∧
        (∀ W, Calls Try.prog 35 #[.agg X] W fun x w' => x = .returned (.agg BC) ∧ Below W.heap.size W w') ∧
        (∀ W, Calls Try.prog 37 #[.agg F] W fun x w' => x = .returned (.tuple #[.agg X, .int .i64 0]) ∧ Below W.heap.size W w') ∧
        (∀ W, (Op.equalIn 10000 40 (.agg F) (.agg V2)).run Try.prog W = .ok true W) ∧ (∀ W, (Op.equalIn 10000 55 (.agg X) (.agg X)).run Try.prog W = .ok true W))) :
    Calls Try.prog 13 #[.agg X, .int .i64 zone, .int .i64 off, .int .i64 epoch, .int .i64 seq] w fun e w' => e = .returned (.bool true) ∧ Below w.heap.size w w' := by
  have HIX := Lib.hid hIX
  have H1X := Lib.hid h1X
  have HSX := Lib.hid hSX
  have HIF := Lib.hid hIF
  have H1F := Lib.hid h1F
  have HSF := Lib.hid hSF
  have HIV := Lib.hid hIV
  have H1V := Lib.hid h1V
  have HSV := Lib.hid hSV
  have HIV2 := Lib.hid hIV2
  have HIB := Lib.hid hIB
  have H1B := Lib.hid h1B
  have HBU := Lib.hid hBU
  have HBZ := Lib.hid hBZ
  have HEC := Lib.hid hEC
  have HFE := Lib.hid hFE
  have HLO := Lib.hid hLO
  have HRT := Lib.hid hRT
  have HRR := Lib.hid hRR
  have HQZ := Lib.hid hqZ
  have HQ := Lib.hid hq
  have HC := Lib.hid hc
  clear hIX h1X hSX hIF h1F hSF hIV h1V hSV hIV2 hIB h1B hBU hBZ hEC hFE hLO hRT hRR hqZ hq hc
  have HAN := Lib.hid (fun W => en_anchor W)
  have hB0 := (Below.refl w.heap.size w).alloc (Nat.le_refl _) (.cells X 55)
  have hX0 := heap_alloc_new w (.cells X 55)
  go_enter Try.func13, Try.ntmps13
  go_wp2_with fail
  refine (HAN.out _).mono ?_
  rintro x w1 ⟨rfl, hB1⟩
  have hX1 := (hB1.block w.heap.size (by simp)).trans hX0
  have HX1 := Lib.hid hX1
  have z1 : w.heap.size < w1.heap.size := (Array.getElem?_eq_some_iff.1 hX1).1
  have HBB1 := Lib.hid (hB0.trans (hB1.mono hB0.size))
  clear hX0 hB0 hB1 hX1
  go_wp2_with (refine wpList_load_row rfl 55 _ rfl w.heap.size rfl 55 _ _ _ HX1.out Try.underlying55 rfl HIX.out ?_)
  refine (HFE.out _).mono ?_
  rintro x w2 ⟨rfl, hB2⟩
  have z2 := hB2.size
  obtain ⟨W3, hW3⟩ : ∃ W3, w2.alloc (.cells F 24) = W3 := ⟨_, rfl⟩
  have hb3 : Below w2.heap.size w2 W3 := by rw [← hW3]; exact (Below.refl _ _).alloc (Nat.le_refl _) _
  have HF3 : Hid (W3.heap[w2.heap.size]? = some (.cells F 24 (0, 0))) := Lib.hid (by rw [← hW3]; exact heap_alloc_new w2 _)
  have hB := hB2.trans (hb3.mono z2)
  have HX3 := Lib.hid ((hB.block w.heap.size (by omega)).trans HX1.out)
  have HBB3 := Lib.hid (HBB1.out.trans (hB.mono HBB1.out.size))
  have z3 : w2.heap.size < W3.heap.size := (Array.getElem?_eq_some_iff.1 HF3.out).1
  have HW3 := Lib.hid hW3
  clear hB hB2 hb3 hW3
  go_upto_region 4 with (refine wpList_store_row rfl 24 _ _ rfl w2.heap.size F rfl rfl 24 FZ (heap_alloc_new w2 _) HIF.out HSF.out H1F.out ?_; rw [World.setRow_alloc_new])
  rw [HW3.out]
  obtain ⟨c0, -, -⟩ := HEC.out _ _ HX3.out
  obtain ⟨W4, hW4⟩ : ∃ W4, W3.alloc (.cells V 40) = W4 := ⟨_, rfl⟩
  have hb4 : Below W3.heap.size W3 W4 := by rw [← hW4]; exact (Below.refl _ _).alloc (Nat.le_refl _) _
  have HV4 : Hid (W4.heap[W3.heap.size]? = some (.cells V 40 (0, 0))) := Lib.hid (by rw [← hW4]; exact heap_alloc_new W3 _)
  have HX4 := Lib.hid ((hb4.block w.heap.size (by omega)).trans HX3.out)
  have HF4 := Lib.hid ((hb4.block w2.heap.size z3).trans HF3.out)
  have HBB4 := Lib.hid (HBB3.out.trans (hb4.mono HBB3.out.size))
  have z4 : W3.heap.size < W4.heap.size := (Array.getElem?_eq_some_iff.1 HV4.out).1
  have HW4 := Lib.hid hW4
  clear hb4 hW4
  obtain ⟨vb, hvb⟩ : ∃ vb, W3.heap.size = vb := ⟨_, rfl⟩
  rw [hvb] at HV4 z4 z3
  have HVB := Lib.hid hvb
  clear hvb
  go_upto_region 5 with (first | (refine wpList_build_asked (by rfl) 40 _ rfl #[(0, .int .i64 ki), (1, .int .i64 zone), (2, .int .i64 off), (3, .int .i64 epoch), (4, .int .i64 seq)] (by simp [Act.eval, Act.put]) V HBU.out ?_) | (refine wpList_store_row rfl 40 _ _ rfl W3.heap.size V rfl rfl 40 FZ (heap_alloc_new W3 _) HIV.out HSV.out H1V.out ?_; rw [World.setRow_alloc_new]))
  rw [HW4.out, HVB.out]
  clear c0
  go_wp2_with (refine wpList_row_on (by rfl) 55 _ rfl w.heap.size rfl 55 _ _ _ HX4.out Try.underlying55 rfl HIX.out ?_)
  refine (HLO.out _).mono ?_
  rintro x w5 ⟨rfl, hB5⟩
  go_wp2_with fail
  refine (HRT.out _).mono ?_
  rintro x w6 ⟨rfl, hB6⟩
  have hB := hB5.trans (hB6.mono hB5.size)
  have z6 := hB.size
  have HX6 := Lib.hid ((hB.block w.heap.size (by omega)).trans HX4.out)
  have HF6 := Lib.hid ((hB.block w2.heap.size (by omega)).trans HF4.out)
  have HV6 := Lib.hid ((hB.block vb z4).trans HV4.out)
  have HBB6 := Lib.hid (HBB4.out.trans (hB.mono HBB4.out.size))
  clear hB hB5 hB6
  have hc := HC.out
  rcases hc with ⟨rfl, rfl, hc⟩ | ⟨rfl, rfl, rfl, t3, t4, hsp, hBD, hRD, hqV, hqX⟩
  · rcases hc with rfl | ⟨rfl, rfl⟩ | ⟨rfl, rfl, t3⟩ | ⟨rfl, rfl, t3, t4⟩
    · go_upto_region 7 with (fail)
      go_wp2_with (first | (refine wpList_row_on (by rfl) 24 _ rfl w2.heap.size rfl 24 _ _ _ HF6.out Try.underlying24 rfl HIF.out ?_) | (refine wpList_build_asked (by rfl) 24 _ rfl #[] (by simp) F HBZ.out ?_) | (refine wpList_eql_on (by rfl) 24 24 _ _ rfl F F rfl rfl (by kernel_rfl) true HQZ.out ?_))
      go_ret
      exact ⟨rfl, HBB6.out⟩
    · go_wp2_with (refine wpList_row_on (by rfl) 40 _ rfl vb rfl 40 _ _ _ HV6.out Try.underlying40 rfl HIV.out ?_)
      refine (HRR.out _).mono ?_
      rintro x w7 ⟨rfl, hB7⟩
      have z7 := hB7.size
      have HX7 := Lib.hid ((hB7.block w.heap.size (by omega)).trans HX6.out)
      have HF7 := Lib.hid ((hB7.block w2.heap.size (by omega)).trans HF6.out)
      have HV7 := Lib.hid ((hB7.block vb (by omega)).trans HV6.out)
      have HBB7 := Lib.hid (HBB6.out.trans (hB7.mono HBB6.out.size))
      clear hB7
      go_upto_region 7 with (fail)
      go_wp2_with (first | (refine wpList_row_on (by rfl) 24 _ rfl w2.heap.size rfl 24 _ _ _ HF7.out Try.underlying24 rfl HIF.out ?_) | (refine wpList_build_asked (by rfl) 24 _ rfl #[] (by simp) F HBZ.out ?_) | (refine wpList_eql_on (by rfl) 24 24 _ _ rfl F F rfl rfl (by kernel_rfl) true HQZ.out ?_))
      go_ret
      exact ⟨rfl, HBB7.out⟩
    · go_wp2_with (refine wpList_row_on (by rfl) 40 _ rfl vb rfl 40 _ _ _ HV6.out Try.underlying40 rfl HIV.out ?_)
      refine (HRR.out _).mono ?_
      rintro x w7 ⟨rfl, hB7⟩
      have z7 := hB7.size
      have HX7 := Lib.hid ((hB7.block w.heap.size (by omega)).trans HX6.out)
      have HF7 := Lib.hid ((hB7.block w2.heap.size (by omega)).trans HF6.out)
      have HV7 := Lib.hid ((hB7.block vb (by omega)).trans HV6.out)
      have HBB7 := Lib.hid (HBB6.out.trans (hB7.mono HBB6.out.size))
      clear hB7
      obtain ⟨-, c1, c2⟩ := HEC.out _ _ HX7.out
      go_upto_region 7 with (fail)
      clear c1 c2
      go_wp2_with (first | (refine wpList_row_on (by rfl) 24 _ rfl w2.heap.size rfl 24 _ _ _ HF7.out Try.underlying24 rfl HIF.out ?_) | (refine wpList_build_asked (by rfl) 24 _ rfl #[] (by simp) F HBZ.out ?_) | (refine wpList_eql_on (by rfl) 24 24 _ _ rfl F F rfl rfl (by kernel_rfl) true HQZ.out ?_))
      go_ret
      exact ⟨rfl, HBB7.out⟩
    · go_wp2_with (refine wpList_row_on (by rfl) 40 _ rfl vb rfl 40 _ _ _ HV6.out Try.underlying40 rfl HIV.out ?_)
      refine (HRR.out _).mono ?_
      rintro x w7 ⟨rfl, hB7⟩
      have z7 := hB7.size
      have HX7 := Lib.hid ((hB7.block w.heap.size (by omega)).trans HX6.out)
      have HF7 := Lib.hid ((hB7.block w2.heap.size (by omega)).trans HF6.out)
      have HV7 := Lib.hid ((hB7.block vb (by omega)).trans HV6.out)
      have HBB7 := Lib.hid (HBB6.out.trans (hB7.mono HBB6.out.size))
      clear hB7
      obtain ⟨-, c1, c2⟩ := HEC.out _ _ HX7.out
      have hq1 := IntWalk.i64_in (fi + co) (by rcases HQ.out with h | h; omega; cases h)
      go_upto_region 7 with (fail)
      clear c1 c2
      go_wp2_with (first | (refine wpList_row_on (by rfl) 24 _ rfl w2.heap.size rfl 24 _ _ _ HF7.out Try.underlying24 rfl HIF.out ?_) | (refine wpList_build_asked (by rfl) 24 _ rfl #[] (by simp) F HBZ.out ?_) | (refine wpList_eql_on (by rfl) 24 24 _ _ rfl F F rfl rfl (by kernel_rfl) true HQZ.out ?_))
      go_ret
      exact ⟨rfl, HBB7.out⟩
  · go_wp2_with (refine wpList_row_on (by rfl) 40 _ rfl vb rfl 40 _ _ _ HV6.out Try.underlying40 rfl HIV.out ?_)
    refine (HRR.out _).mono ?_
    rintro x w7 ⟨rfl, hB7⟩
    have z7 := hB7.size
    have HX7 := Lib.hid ((hB7.block w.heap.size (by omega)).trans HX6.out)
    have HF7 := Lib.hid ((hB7.block w2.heap.size (by omega)).trans HF6.out)
    have HV7 := Lib.hid ((hB7.block vb (by omega)).trans HV6.out)
    have HBB7 := Lib.hid (HBB6.out.trans (hB7.mono HBB6.out.size))
    clear hB7
    obtain ⟨-, c1, c2⟩ := HEC.out _ _ HX7.out
    have hq1 := IntWalk.i64_in (fi + co) (by rcases HQ.out with h | h; omega; cases h)
    have HBD := Lib.hid hBD
    have HRD := Lib.hid hRD
    have HQV := Lib.hid hqV
    have HQX := Lib.hid hqX
    have HSP := Lib.hid hsp
    clear hBD hRD hqV hqX hsp
    go_upto_region 8 with (fail)
    clear c1 c2 t3 t4 hq1
    go_wp2_with (refine wpList_row_on (by rfl) 55 _ rfl w.heap.size rfl 55 _ _ _ HX7.out Try.underlying55 rfl HIX.out ?_)
    refine (HLO.out _).mono ?_
    rintro x w8 ⟨rfl, hB8⟩
    go_wp2_with fail
    refine (HBD.out _).mono ?_
    rintro x w9 ⟨rfl, hB9⟩
    have hB := hB8.trans (hB9.mono hB8.size)
    have z9 := hB.size
    have HX9 := Lib.hid ((hB.block w.heap.size (by omega)).trans HX7.out)
    have HF9 := Lib.hid ((hB.block w2.heap.size (by omega)).trans HF7.out)
    have hV9 := (hB.block vb (by omega)).trans HV7.out
    have HBB9 := Lib.hid (HBB7.out.trans (hB.mono HBB7.out.size))
    clear hB hB8 hB9
    have hV9' : w9.heap[vb]? = some (.cells V.toList.toArray 40 (0, 0)) := by rw [hV9]
    have hth : w9.there vb 5 BC.size := by
      intro j hj
      have h5 := HSP.out.2
      refine ⟨?_, frozen_of_row _ _ _ _ _ hV9⟩
      rw [cell_of_row _ _ _ _ _ _ hV9, Array.getElem?_eq_getElem (by omega)]
      rfl
    obtain ⟨W10, hW10⟩ : ∃ W10, w9.setCells vb 5 BC.toList = W10 := ⟨_, rfl⟩
    have HV10 : Hid (W10.heap[vb]? = some (.cells V2 40 (0, 0))) := Lib.hid (by
      rw [← hW10, heap_setCells_row vb 40 BC.toList 5 V.toList w9 hV9' (by rw [Array.length_toList, Array.length_toList]; exact HSP.out.2), HSP.out.1])
    have HX10 : Hid (W10.heap[w.heap.size]? = some (.cells X 55 (0, 0))) := Lib.hid (by rw [← hW10, heap_setCells_ne _ _ (by omega)]; exact HX9.out)
    have HF10 : Hid (W10.heap[w2.heap.size]? = some (.cells F 24 (0, 0))) := Lib.hid (by rw [← hW10, heap_setCells_ne _ _ (by omega)]; exact HF9.out)
    have HBB10 : Hid (Below w.heap.size w W10) := Lib.hid (by rw [← hW10]; exact Lib.below_setCells vb (by omega) _ _ HBB9.out)
    have HW10 := Lib.hid hW10
    have zv : vb < W10.heap.size := (Array.getElem?_eq_some_iff.1 HV10.out).1
    have HTH := Lib.hid hth
    clear hV9 hV9' hth hW10
    go_upto_region 9 with (refine wpList_store_mid rfl 22 _ _ rfl vb 5 BC rfl rfl HTH.out HIB.out H1B.out ?_)
    rw [HW10.out]
    go_wp2_with (refine wpList_row_on (by rfl) 24 _ rfl w2.heap.size rfl 24 _ _ _ HF10.out Try.underlying24 rfl HIF.out ?_)
    refine (HRD.out _).mono ?_
    rintro x w11 ⟨rfl, hB11⟩
    have z11 := hB11.size
    obtain ⟨W12, hW12⟩ : ∃ W12, w11.alloc (.cells X 55) = W12 := ⟨_, rfl⟩
    have hb12 : Below w11.heap.size w11 W12 := by rw [← hW12]; exact (Below.refl _ _).alloc (Nat.le_refl _) _
    have HY12 : Hid (W12.heap[w11.heap.size]? = some (.cells X 55 (0, 0))) := Lib.hid (by rw [← hW12]; exact heap_alloc_new w11 _)
    have hB := hB11.trans (hb12.mono z11)
    have HX12 := Lib.hid ((hB.block w.heap.size (by omega)).trans HX10.out)
    have HF12 := Lib.hid ((hB.block w2.heap.size (by omega)).trans HF10.out)
    have HV12 := Lib.hid ((hB.block vb zv).trans HV10.out)
    have HBB12 := Lib.hid (HBB10.out.trans (hB.mono HBB10.out.size))
    have HW12 := Lib.hid hW12
    clear hB hB11 hb12 hW12
    go_upto_region 10 with (refine wpList_store_row rfl 55 _ _ rfl w11.heap.size X rfl rfl 55 EZ (heap_alloc_new w11 _) HIX.out HSX.out H1X.out ?_; rw [World.setRow_alloc_new])
    rw [HW12.out]
    go_wp2_with (first | (refine wpList_row_on (by rfl) 24 _ rfl w2.heap.size rfl 24 _ _ _ HF12.out Try.underlying24 rfl HIF.out ?_) | (refine wpList_row_on (by rfl) 40 _ rfl vb rfl 40 _ _ _ HV12.out Try.underlying40 rfl HIV2.out ?_) | (refine wpList_row_on (by rfl) 55 _ rfl w11.heap.size rfl 55 _ _ _ HY12.out Try.underlying55 rfl HIX.out ?_) | (refine wpList_row_on (by rfl) 55 _ rfl w.heap.size rfl 55 _ _ _ HX12.out Try.underlying55 rfl HIX.out ?_) | (refine wpList_eql_on (by rfl) 40 40 _ _ rfl F V2 rfl rfl (by kernel_rfl) true HQV.out ?_) | (refine wpList_eql_on (by rfl) 55 55 _ _ rfl X X rfl rfl (by kernel_rfl) true HQX.out ?_))
    go_ret
    exact ⟨rfl, HBB12.out⟩
theorem en_frames_walk (e : En.E) (zone off epoch seq : Int) (w : World) (hb : EBody e) (hn : Num38 e) :
    Calls Try.prog 13 #[.agg (EC e), .int .i64 zone, .int .i64 off, .int .i64 epoch, .int .i64 seq] w fun e w' => e = .returned (.bool true) ∧ Below w.heap.size w w' := by
  have hz : (List.replicate 44 0).length = 44 ∧ ∀ c ∈ List.replicate 44 0, c < 256 := by simp
  have hbl : Body (frameE e zone off epoch seq).1.body := by
    unfold frameE
    split
    · exact ⟨En.body_length hb.1, En.body_bytes hb.2⟩
    · exact ⟨by simp [Fr.zero], by simp [Fr.zero]⟩
  have hgo : (if En.right e = true then En.body e else List.replicate 44 0).length = 44 := by
    split
    · exact En.body_length hb.1
    · simp
  refine en_frames_core (EC e) (FC (frameE e zone off epoch seq).1) (FC ⟨e.kind, zone, off, epoch, seq, List.replicate 44 0⟩) (FC ⟨e.kind, zone, off, epoch, seq, if En.right e = true then En.body e else List.replicate 44 0⟩) (byteCells (if En.right e = true then En.body e else List.replicate 44 0)) (EC En.E.zero) (FC Fr.zero) e.kind e.first e.count zone off epoch seq (frameE e zone off epoch seq).2 (En.right e) (rightF ⟨e.kind, zone, off, epoch, seq, List.replicate 44 0⟩) w
    (size_ent hb.1) (EC_one e) (by rw [EC_size, EC_size, hb.1]; rfl) (size_frm hbl.1) (FC_one _) (by rw [FC_size, FC_size, hbl.1]; rfl)
    (size_rfx (by simp)) (FC_one _) (by rw [FC_size, FC_size]; rfl) (size_rfx hgo) (size_body hgo) (one_byteCells _)
    (zero_of_info Try.infoEntry).1 (zero_of_info Try.infoFrame).1 (zero_of_info Try.infoRfx).1 (built_rfx _ _ _ _ _) built_frz
    (fun W b h => ⟨(ent_cells h).1, (ent_cells h).2.1, (ent_cells h).2.2.1⟩) (fun W => by have := eframe_any e zone off epoch seq W hb; exact this) (fun W => lof_any e W hb) (fun W => rright_any e W hb) (fun W => rfright_any _ W)
    (fun W => eq_frame Fr.zero Fr.zero ⟨by simp [Fr.zero], by simp [Fr.zero]⟩ ⟨by simp [Fr.zero], by simp [Fr.zero]⟩ ⟨rfl, rfl, rfl, rfl, rfl⟩ ⟨rfl, rfl, rfl, rfl, rfl⟩ true (by simp) W) ?_ ?_
  · by_cases hr : En.right e = true
    · left
      obtain ⟨a1, a2, a3, a4, a5, ha, b1, b2, b3, b4, b5, b6⟩ := En.right_nat hr
      rw [ha]
      simp only
      omega
    · right
      simpa using hr
  · have hR : ∀ b, rightF ⟨e.kind, zone, off, epoch, seq, b⟩ = rightF ⟨e.kind, zone, off, epoch, seq, List.replicate 44 0⟩ := fun b => rfl
    by_cases h1 : En.right e = true
    · by_cases h2 : rightF ⟨e.kind, zone, off, epoch, seq, List.replicate 44 0⟩ = true
      · by_cases h3 : e.first ≤ seq
        · by_cases h4 : seq < e.first + e.count
          · right
            have hf : frameE e zone off epoch seq = (⟨e.kind, zone, off, epoch, seq, En.body e⟩, 0) := by unfold frameE; rw [if_pos ⟨h1, by rw [hR]; exact h2, h3, h4⟩]
            have hnum : Num64 ⟨e.kind, zone, off, epoch, seq, En.body e⟩ := by
              have h5 := h2
              unfold rightF at h5
              have h6 := of_decide_eq_true h5
              simp only at h6
              refine ⟨?_, ?_, ?_, ?_, ?_⟩ <;> (simp [Lit.wf, IntKind.min, IntKind.max, IntKind.signed, IntKind.bits]; omega)
            have hbd : Body (En.body e) := ⟨En.body_length hb.1, En.body_bytes hb.2⟩
            rw [hf]
            rw [if_pos h1]
            refine ⟨rfl, h1, h2, decide_eq_true h3, decide_eq_true h4, ⟨?_, ?_⟩, fun W => rbody_any e W hb h1, fun W => ?_, fun W => eq_rfx _ _ hbd hbd hnum hnum true (by simp) W, fun W => eq_ent e e hb hb hn hn true (by simp) W⟩
            · have hs := splice_FC ⟨e.kind, zone, off, epoch, seq, List.replicate 44 0⟩ (En.body e) (by simp) hbd.1
              rw [← hs]
              congr 1
            · rw [size_byteCells, hbd.1, FC_size]
              simp
            · have hrd := eread_any ⟨e.kind, zone, off, epoch, seq, En.body e⟩ W hbd
              unfold EntPost at hrd
              have ho : En.ofE e.kind (En.body e) = (e, 0) := by unfold En.ofE; rw [En.parse_body h1 hb.1, if_pos h1]
              have hv : readE ⟨e.kind, zone, off, epoch, seq, En.body e⟩ = (e, 0) := by
                unfold readE
                simp only [ho, hf]
                simp
              rw [hv] at hrd
              exact hrd
          · left
            have hf : frameE e zone off epoch seq = (Fr.zero, 10) := by unfold frameE; rw [if_neg (fun h => h4 h.2.2.2)]
            rw [hf]
            exact ⟨rfl, rfl, .inr (.inr (.inr ⟨h1, h2, decide_eq_true h3, decide_eq_false h4⟩))⟩
        · left
          have hf : frameE e zone off epoch seq = (Fr.zero, 10) := by unfold frameE; rw [if_neg (fun h => h3 h.2.2.1)]
          rw [hf]
          exact ⟨rfl, rfl, .inr (.inr (.inl ⟨h1, h2, decide_eq_false h3⟩))⟩
      · left
        have hf : frameE e zone off epoch seq = (Fr.zero, 10) := by unfold frameE; rw [if_neg (fun h => h2 (by rw [← hR]; exact h.2.1))]
        rw [hf]
        exact ⟨rfl, rfl, .inr (.inl ⟨h1, by simpa using h2⟩)⟩
    · left
      have hf : frameE e zone off epoch seq = (Fr.zero, 10) := by unfold frameE; rw [if_neg (fun h => h1 h.1)]
      rw [hf]
      exact ⟨rfl, rfl, .inl (by simpa using h1)⟩
end Go.Proofs.Ytfcadbeamojdpaa
