/- Under way: the contract of the reference's Bytes of a frame. -/
import Derived.Test.YtfcadbeamojdpaaRfRead
import Derived.Test.YtfcadbeamojdpaaRNum
import Derived.Test.YtfcadbeamojdpaaEnFill
import Derived.LoopTactic
namespace Go.Proofs.Ytfcadbeamojdpaa
open Go.RowKit Go.Rv Frm
set_option linter.unusedVariables false
/-- the first j bytes are there -/
def copied (l : List Nat) (j : Nat) : List Nat := l.take j ++ List.replicate (64 - j) 0
theorem copied_length {l : List Nat} (hl : l.length = 64) {j : Nat} (h : j ≤ 64) : (copied l j).length = 64 := by simp [copied, hl]; omega
theorem copied_set {l : List Nat} (hl : l.length = 64) {j : Nat} (h : j < 64) : (copied l j).set j (l.getD j 0) = copied l (j + 1) := by
  unfold copied
  have e : (l.take j).length = j := by simp [hl]; omega
  have hlt : j < l.length := by omega
  rw [List.set_append_right _ _ (by omega), e, Nat.sub_self, show 64 - j = (64 - (j + 1)) + 1 by omega, List.replicate_succ, List.set_cons_zero, List.take_add_one, List.getD_eq_getElem?_getD, List.getElem?_eq_getElem hlt, List.append_assoc]
  rfl
theorem copied_all {l : List Nat} (hl : l.length = 64) : copied l 64 = l := by unfold copied; rw [← hl, List.take_length, Nat.sub_self]; simp
theorem copied_zero (l : List Nat) : copied l 0 = List.replicate 64 0 := by simp [copied]
set_option maxRecDepth 100000 in
set_option maxHeartbeats 4000000 in
theorem rfbytes_any (f : Fr) (w : World) (hb : Body f.body) (hr : rightF f = true) :
    Calls Try.prog 26 #[.agg (FC f)] w fun x w' => x = .returned (.agg (byteCells (sectorOf f))) ∧ Below w.heap.size w w' := by
  obtain ⟨k, z, o, e, s, hf, b1, b2, b3, b4, b5, b6, b7⟩ := right_nat hr
  have hcells := fun (W : World) g t h => frame_cells (w := W) (g := g) (f := f) (t := t) h
  rw [show f.kind = (k : Int) by rw [hf], show f.zone = (z : Int) by rw [hf], show f.off = (o : Int) by rw [hf], show f.epoch = (e : Int) by rw [hf], show f.seq = (s : Int) by rw [hf]] at hcells
  have HB := Lib.hid (fun (W : World) g t h => frame_body (w := W) (g := g) (f := f) (t := t) h hb.2)
  obtain ⟨q1, hq1⟩ : ∃ q, q = [k, 1] := ⟨_, rfl⟩
  obtain ⟨q2, hq2⟩ : ∃ q, q = q1 ++ Cod.leN 2 z := ⟨_, rfl⟩
  obtain ⟨q3, hq3⟩ : ∃ q, q = q2 ++ Cod.leN 2 o := ⟨_, rfl⟩
  obtain ⟨q4, hq4⟩ : ∃ q, q = q3 ++ Cod.leN 4 e := ⟨_, rfl⟩
  obtain ⟨q5, hq5⟩ : ∃ q, q = q4 ++ Cod.leN 6 s := ⟨_, rfl⟩
  have l1 : q1.length = 2 := by rw [hq1]; rfl
  have l2 : q2.length = 4 := by rw [hq2]; simp [l1, Cod.leN_length]
  have l3 : q3.length = 6 := by rw [hq3]; simp [l2, Cod.leN_length]
  have l4 : q4.length = 10 := by rw [hq4]; simp [l3, Cod.leN_length]
  have l5 : q5.length = 16 := by rw [hq5]; simp [l4, Cod.leN_length]
  have hfr : frB f = q5 ++ f.body := by
    rw [hq5, hq4, hq3, hq2, hq1]
    conv => lhs; rw [hf]
    have e1 : Cod.leN 1 k = [k] := by simp [Cod.leN]; omega
    have e2 : Cod.leN 1 1 = [1] := by decide
    simp [frB, e1, e2]
  have HFR := Lib.hid hfr
  have HCE := Lib.hid hcells
  have L1 := Lib.hid l1
  have L2 := Lib.hid l2
  have L3 := Lib.hid l3
  have L4 := Lib.hid l4
  have L5 := Lib.hid l5
  have Q1 := Lib.hid hq1
  have Q2 := Lib.hid hq2
  have Q3 := Lib.hid hq3
  have Q4 := Lib.hid hq4
  have Q5 := Lib.hid hq5
  have HBL := Lib.hid hb.1
  have HN1 := Lib.hid (fun W => rnum_any 2 z (by omega) (by omega) W)
  have HN2 := Lib.hid (fun W => rnum_any 2 o (by omega) (by omega) W)
  have HN3 := Lib.hid (fun W => rnum_any 4 e (by omega) (by omega) W)
  have HN4 := Lib.hid (fun W => rnum_any 6 s (by omega) (by omega) W)
  clear hcells hf hfr l1 l2 l3 l4 l5 hq1 hq2 hq3 hq4 hq5 hr hb
  have hz64 : (Try.prog.info? 30).map (fun i => (i.zero, i.size)) = some (some (.agg (byteCells (List.replicate 64 0))), 64) := by kernel_rfl
  have hz := (zero_of_info hz64).1
  have HI64 := Lib.hid (fun (l : List Nat) (h : l.length = 64) => (show (Try.prog.info? 30).map (·.size) = some (byteCells l).size by rw [size_byteCells, h]; exact (zero_of_info hz64).2))
  obtain ⟨Z, hZ⟩ : ∃ Z, byteCells (List.replicate 64 0) = Z := ⟨_, rfl⟩
  have HZ := Lib.hid hZ
  rw [hZ] at hz
  generalize hFC : FC f = C at *
  clear hZ hFC hz64
  have hB0 := ((Below.refl w.heap.size w).alloc (Nat.le_refl _) (.cells C 40)).alloc (by simp) (.cells Z 30)
  have hF0 := heap_alloc2_old w (.cells C 40) (.cells Z 30)
  have hR0 := heap_alloc2_new w (.cells C 40) (.cells Z 30)
  have z0 : ((w.alloc (.cells C 40)).alloc (.cells Z 30)).heap.size = w.heap.size + 1 + 1 := by simp
  obtain ⟨d0, d1, d2, d3, d4⟩ := HCE.out _ _ _ hF0
  go_enter Try.func26, Try.ntmps26
  go_wp2_with fail
  obtain ⟨W0, hW0⟩ : ∃ W0, (w.alloc (.cells C 40)).alloc (.cells Z 30) = W0 := ⟨_, rfl⟩
  rw [hW0] at hB0 hF0 hR0 z0 d0 d1 d2 d3 d4 ⊢
  clear hW0

  have hg1 := heap_alloc_new W0 (.cells (byteCells q1) 5)
  have hq1b : byteCells q1 = #[.int .u8 (k : Nat), .int .u8 1] := by rw [Q1.out]; rfl
  have hba := (Below.refl W0.heap.size W0).alloc (Nat.le_refl _) (.cells (byteCells q1) 5)
  have zz1 : (W0.alloc (.cells (byteCells q1) 5)).heap.size = W0.heap.size + 1 := by simp
  rw [hq1b] at hba zz1
  have hown1 : OwnB (W0.alloc (.cells #[.int .u8 (k : Nat), .int .u8 1] 5)) 5 (w.heap.size + 1 + 1) (.slice (some ⟨w.heap.size + 1 + 1, 0, none⟩) 2 2) q1 := by
    have := OwnB.row (e := 5) (base := w.heap.size + 1 + 1) (g := W0.heap.size) (by omega) hg1 (by rw [Q1.out]; intro c hc; simp at hc; omega) (by rw [L1.out]; unfold maxLen; omega)
    rwa [L1.out, hq1b, z0] at this
  obtain ⟨W1, hW1⟩ : ∃ W1, W0.alloc (.cells #[.int .u8 (k : Nat), .int .u8 1] 5) = W1 := ⟨_, rfl⟩
  rw [hW1] at hown1 hba zz1 ⊢
  have hF1 := (hba.block w.heap.size (by omega)).trans hF0
  have hR1 := (hba.block (w.heap.size + 1) (by omega)).trans hR0
  have hBw1 := hB0.trans (hba.mono (by omega))
  have hsz1 : w.heap.size + 1 + 1 ≤ W1.heap.size := by omega
  clear hg1 hq1b hba hW1 hF0 hR0 hB0 d0 d1 d2 d3 d4 zz1 z0
  refine (HN1.out _).mono ?_
  rintro x w2 ⟨v2, rfl, ho2, hB2⟩
  obtain ⟨a2, c2, rfl, hb2, hn2, -⟩ := ho2.bytes
  have hFx := (hB2.block w.heap.size (by omega)).trans hF1
  have hRx := (hB2.block (w.heap.size + 1) (by omega)).trans hR1
  have hownx := hown1.below hB2
  have hBwx := hBw1.trans (hB2.mono (by omega))
  have hszx : w.heap.size + 1 + 1 ≤ w2.heap.size := Nat.le_trans hsz1 hB2.size
  clear hF1 hR1 hown1 hBw1 hsz1
  go_wp2_with (at_builtin; refine wpList_append_bytes rfl (.tmp 11) (.tmp 14) 47 rfl 5 Try.underlying47 Try.infoU8 (w.heap.size + 1 + 1) _ q1 rfl hownx a2 c2 (Cod.leN 2 z) rfl hb2 hn2 (by rw [L1.out, Cod.leN_length]; omega) hszx ?_; intro v3 w3 hv3 hg3; have hb3 := hownx.grown hg3 hszx; have hF2 := (hb3.block w.heap.size (by omega)).trans hFx; have hR2 := (hb3.block (w.heap.size + 1) (by omega)).trans hRx; have hBw2 := hBwx.trans (hb3.mono (by omega)); have hsz2 := Nat.le_trans hszx hb3.size; rw [← Q2.out] at hv3; have hown2 := hv3; obtain ⟨d0, d1, d2, d3, d4⟩ := HCE.out _ _ _ hF2)
  clear hb3 hFx hRx hownx hBwx hszx ho2 hB2 hb2 hn2 hg3 hv3
  refine (HN2.out _).mono ?_
  rintro x w2 ⟨v2, rfl, ho2, hB2⟩
  obtain ⟨a2, c2, rfl, hb2, hn2, -⟩ := ho2.bytes
  have hFx := (hB2.block w.heap.size (by omega)).trans hF2
  have hRx := (hB2.block (w.heap.size + 1) (by omega)).trans hR2
  have hownx := hown2.below hB2
  have hBwx := hBw2.trans (hB2.mono (by omega))
  have hszx : w.heap.size + 1 + 1 ≤ w2.heap.size := Nat.le_trans hsz2 hB2.size
  clear hF2 hR2 hown2 hBw2 hsz2
  go_wp2_with (at_builtin; refine wpList_append_bytes rfl (.tmp 16) (.tmp 19) 47 rfl 5 Try.underlying47 Try.infoU8 (w.heap.size + 1 + 1) _ q2 rfl hownx a2 c2 (Cod.leN 2 o) rfl hb2 hn2 (by rw [L2.out, Cod.leN_length]; omega) hszx ?_; intro v3 w3 hv3 hg3; have hb3 := hownx.grown hg3 hszx; have hF3 := (hb3.block w.heap.size (by omega)).trans hFx; have hR3 := (hb3.block (w.heap.size + 1) (by omega)).trans hRx; have hBw3 := hBwx.trans (hb3.mono (by omega)); have hsz3 := Nat.le_trans hszx hb3.size; rw [← Q3.out] at hv3; have hown3 := hv3; obtain ⟨d0, d1, d2, d3, d4⟩ := HCE.out _ _ _ hF3)
  clear hb3 hFx hRx hownx hBwx hszx ho2 hB2 hb2 hn2 hg3 hv3
  refine (HN3.out _).mono ?_
  rintro x w2 ⟨v2, rfl, ho2, hB2⟩
  obtain ⟨a2, c2, rfl, hb2, hn2, -⟩ := ho2.bytes
  have hFx := (hB2.block w.heap.size (by omega)).trans hF3
  have hRx := (hB2.block (w.heap.size + 1) (by omega)).trans hR3
  have hownx := hown3.below hB2
  have hBwx := hBw3.trans (hB2.mono (by omega))
  have hszx : w.heap.size + 1 + 1 ≤ w2.heap.size := Nat.le_trans hsz3 hB2.size
  clear hF3 hR3 hown3 hBw3 hsz3
  go_wp2_with (at_builtin; refine wpList_append_bytes rfl (.tmp 21) (.tmp 24) 47 rfl 5 Try.underlying47 Try.infoU8 (w.heap.size + 1 + 1) _ q3 rfl hownx a2 c2 (Cod.leN 4 e) rfl hb2 hn2 (by rw [L3.out, Cod.leN_length]; omega) hszx ?_; intro v3 w3 hv3 hg3; have hb3 := hownx.grown hg3 hszx; have hF4 := (hb3.block w.heap.size (by omega)).trans hFx; have hR4 := (hb3.block (w.heap.size + 1) (by omega)).trans hRx; have hBw4 := hBwx.trans (hb3.mono (by omega)); have hsz4 := Nat.le_trans hszx hb3.size; rw [← Q4.out] at hv3; have hown4 := hv3; obtain ⟨d0, d1, d2, d3, d4⟩ := HCE.out _ _ _ hF4)
  clear hb3 hFx hRx hownx hBwx hszx ho2 hB2 hb2 hn2 hg3 hv3
  refine (HN4.out _).mono ?_
  rintro x w2 ⟨v2, rfl, ho2, hB2⟩
  obtain ⟨a2, c2, rfl, hb2, hn2, -⟩ := ho2.bytes
  have hFx := (hB2.block w.heap.size (by omega)).trans hF4
  have hRx := (hB2.block (w.heap.size + 1) (by omega)).trans hR4
  have hownx := hown4.below hB2
  have hBwx := hBw4.trans (hB2.mono (by omega))
  have hszx : w.heap.size + 1 + 1 ≤ w2.heap.size := Nat.le_trans hsz4 hB2.size
  clear hF4 hR4 hown4 hBw4 hsz4
  go_wp2_with (at_builtin; refine wpList_append_bytes rfl (.tmp 26) (.tmp 29) 47 rfl 5 Try.underlying47 Try.infoU8 (w.heap.size + 1 + 1) _ q4 rfl hownx a2 c2 (Cod.leN 6 s) rfl hb2 hn2 (by rw [L4.out, Cod.leN_length]; omega) hszx ?_; intro v3 w3 hv3 hg3; have hb3 := hownx.grown hg3 hszx; have hF5 := (hb3.block w.heap.size (by omega)).trans hFx; have hR5 := (hb3.block (w.heap.size + 1) (by omega)).trans hRx; have hBw5 := hBwx.trans (hb3.mono (by omega)); have hsz5 := Nat.le_trans hszx hb3.size; rw [← Q5.out] at hv3; have hown5 := hv3; obtain ⟨d0, d1, d2, d3, d4⟩ := HCE.out _ _ _ hF5)
  clear hb3 hFx hRx hownx hBwx hszx ho2 hB2 hb2 hn2 hg3 hv3
  have T0 := Lib.hid (show q5 ++ f.body.take 0 = q5 by simp)
  have T1 := Lib.hid (show ∀ j, j < 44 → f.body.take j ++ [f.body.getD j 0] = f.body.take (j + 1) by
    intro j hj
    have hlt : j < f.body.length := by rw [HBL.out]; exact hj
    rw [List.take_add_one, List.getD_eq_getElem?_getD, List.getElem?_eq_getElem hlt]; rfl)
  have T2 := Lib.hid (show f.body.take 44 = f.body by rw [← HBL.out]; exact List.take_length ..)
  go_loopw [3, 4] (fun x i wr => ∃ j : Nat, j ≤ 44 ∧ i = .int .i64 j ∧ OwnB wr 5 (w.heap.size + 1 + 1) x (q5 ++ f.body.take j) ∧ wr.heap[w.heap.size]? = some (.cells C 40 (0, 0)) ∧ wr.heap[w.heap.size + 1]? = some (.cells Z 30 (0, 0)) ∧ Below w.heap.size w wr ∧ w.heap.size + 1 + 1 ≤ wr.heap.size) (fun _ i _ => 44 - (intOf i).toNat)
  case atStart => exact ⟨0, by omega, rfl, by rw [T0.out]; exact hown5, hF5, hR5, hBw5, hsz5⟩
  case round =>
    obtain ⟨j, hj, rfl, hown, hF, hR, hBw, hsz⟩ := hrel
    clear hown5 hF5 hR5 hBw5 hsz5
    by_cases hlt : j < 44
    · have hbb := (HB.out _ _ _ hF)
      have hc8 : f.body.getD j 0 < 256 := by
        rw [List.getD_eq_getElem?_getD, List.getElem?_eq_getElem (by rw [HBL.out]; exact hlt)]; exact hbb.1 _ (List.getElem_mem _)
      have hcell : wr.cell? ⟨w.heap.size, 5 + j, none⟩ = some (.int .u8 (f.body.getD j 0 : Nat)) := by
        rcases hbb.2 with h | ⟨b, o', h, -, hc⟩
        · have := HBL.out; rw [h] at this; simp at this
        · cases h; exact hc j (by rw [HBL.out]; exact hlt)
      have hal : Below wr.heap.size wr (wr.alloc (.cells #[.int .u8 (f.body.getD j 0 : Nat)] 5)) := (Below.refl _ _).alloc (Nat.le_refl _) _
      have hown' := hown.below hal
      have hF' := (hal.block w.heap.size (by omega)).trans hF
      have hR' := (hal.block (w.heap.size + 1) (by omega)).trans hR
      have hBw' := hBw.trans (hal.mono (by omega))
      have hsz' := Nat.le_trans hsz hal.size
      have hone := one_byte_row wr 5 _ hc8
      have T1j := Lib.hid (T1.out j hlt)
      have hlen : (q5 ++ f.body.take j).length = 16 + j := by simp [L5.out, HBL.out]; omega
      generalize f.body.getD j 0 = c at *
      clear hbb hal
      go_wp2_with (at_builtin; refine wpList_append_bytes rfl (.tmp 35) (.tmp 40) 47 rfl 5 Try.underlying47 Try.infoU8 (w.heap.size + 1 + 1) _ (q5 ++ f.body.take j) rfl hown' (some ⟨wr.heap.size, 0, none⟩) 1 [c] rfl hone (fun e => by cases e) (by rw [hlen]; simp; omega) hsz' ?_; intro v' w' hv hg)
      have hb3 := hown'.grown hg hsz'
      go_roundw
      case rel => exact ⟨j + 1, by omega, by go_num, by rw [← T1j.out, ← List.append_assoc]; exact hv, (hb3.block w.heap.size (by omega)).trans hF', (hb3.block (w.heap.size + 1) (by omega)).trans hR', hBw'.trans (hb3.mono (by omega)), Nat.le_trans hsz' hb3.size⟩
      case measure => simp [intOf]; omega
    · obtain rfl : j = 44 := by omega
      rw [T2.out, ← HFR.out] at hown
      have hfl : (frB f).length = 60 := by rw [HFR.out]; simp [L5.out, HBL.out]
      have HFL := Lib.hid hfl
      obtain ⟨y, hy⟩ : ∃ y, Crc.sum (frB f) = y := ⟨_, rfl⟩
      have HY := Lib.hid hy
      have hy32 : y < 4294967296 := by rw [← hy]; exact Crc.sum_lt hown.2
      clear T0 T1 T2 hfl
      obtain ⟨ab, cb, rfl, hbb, hnb, -⟩ := hown.bytes
      have HSm := Lib.hid (rsum_any ab (frB f) cb wr hbb (by rw [HFL.out]; omega))
      rw [HFL.out, hy] at HSm
      rw [HFL.out]
      clear hy
      have HN5 := Lib.hid (fun W => rnum_any 4 y (by omega) (by omega) W)
      go_wp2_with fail
      refine HSm.out.mono ?_
      rintro x w2 ⟨rfl, rfl⟩
      go_wp2_with fail
      refine (HN5.out _).mono ?_
      rintro x w2 ⟨v2, rfl, ho2, hB2⟩
      obtain ⟨a2, c2, rfl, hb2, hn2, -⟩ := ho2.bytes
      have hFx := (hB2.block w.heap.size (by omega)).trans hF
      have hRx := (hB2.block (w.heap.size + 1) (by omega)).trans hR
      have hownx := hown.below hB2
      have hBwx := hBw.trans (hB2.mono (by omega))
      have hszx : w.heap.size + 1 + 1 ≤ w2.heap.size := Nat.le_trans hsz hB2.size
      rw [HFL.out] at hownx
      have HLN := Lib.hid (Cod.leN_length 4 y)
      clear hF hR hown hBw hsz hbb
      go_wp2_with (at_builtin; refine wpList_append_bytes rfl (.tmp 42) (.tmp 46) 47 rfl 5 Try.underlying47 Try.infoU8 (w.heap.size + 1 + 1) _ (frB f) rfl hownx a2 c2 (Cod.leN 4 y) rfl hb2 hn2 (by rw [HFL.out, HLN.out]; omega) hszx ?_; intro v3 w3 hv3 hg3; have hb3 := hownx.grown hg3 hszx)
      have hsec : frB f ++ Cod.leN 4 y = sectorOf f := by rw [← HY.out]; unfold sectorOf; rw [le4_leN]
      rw [hsec] at hv3
      have hl : (sectorOf f).length = 64 := by rw [← hsec]; simp [HFL.out, HLN.out]
      clear hsec
      obtain ⟨a3, c3, rfl, hb3', hn3, hd3⟩ := hv3.bytes
      have hF3 := (hb3.block w.heap.size (by omega)).trans hFx
      have hR3 := (hb3.block (w.heap.size + 1) (by omega)).trans hRx
      have hB3 := hBwx.trans (hb3.mono (by omega))
      have hsz3 : w.heap.size + 1 + 1 ≤ w3.heap.size := Nat.le_trans hszx hb3.size
      clear hb3 hFx hRx hBwx hszx hownx hv3 hb2 hn2 hB2 ho2
      rcases hb3'.2 with h0 | ⟨bb, oo, rfl, hbl, hcells⟩
      · exfalso; rw [h0] at hl; simp at hl
      have h256 := hb3'.1
      have hal : Below w3.heap.size w3 (w3.alloc (.cells Z 30)) := (Below.refl _ _).alloc (Nat.le_refl _) _
      have hG := heap_alloc_new w3 (.cells Z 30)
      have zz : (w3.alloc (.cells Z 30)).heap.size = w3.heap.size + 1 := by simp
      have hBy := hb3'.below hal
      have hR4 := (hal.block (w.heap.size + 1) (by omega)).trans hR3
      have hB4 := hB3.trans (hal.mono (by omega))
      obtain ⟨W3, hW3⟩ : ∃ W3, w3.alloc (.cells Z 30) = W3 := ⟨_, rfl⟩
      rw [hW3] at hal hG zz hBy hR4 hB4 ⊢
      obtain ⟨G, hGe⟩ : ∃ G, w3.heap.size = G := ⟨_, rfl⟩
      rw [hGe] at hG zz hsz3 hbl ⊢
      have HI := Lib.hid (HI64.out (sectorOf f) hl)
      have HZS : Hid (Z.size = (byteCells (sectorOf f)).size) := Lib.hid (by rw [← HZ.out]; simp [size_byteCells, hl])
      have HZ0 := Lib.hid (show Z = byteCells (copied (sectorOf f) 0) by rw [← HZ.out, copied_zero])
      have hone := one_byteCells (sectorOf f)
      have CS := Lib.hid (fun j (h : j < 64) => copied_set hl h)
      have CL := Lib.hid (fun j (h : j ≤ 64) => copied_length hl h)
      have CA := Lib.hid (copied_all hl)
      clear hal hW3 hGe hb3' hcells hF3 hR3 hB3 HFL HLN HFR HB HCE HN1 HN2 HN3 HN4 HN5 HSm
      rw [hl]
      obtain ⟨l, hL⟩ : ∃ l, sectorOf f = l := ⟨_, rfl⟩
      have LL := Lib.hid hL
      rw [hL] at hl hBy h256 HI HZS HZ0 hone CS CL CA
      clear hL
      go_loopw [6] (fun i wr => ∃ j : Nat, j ≤ 64 ∧ i = .int .i64 j ∧ wr.heap[G]? = some (.cells (byteCells (copied l j)) 30 (0, 0)) ∧ Only [G] W3 wr) (fun i _ => 64 - (intOf i).toNat)
      case atStart => exact ⟨0, by omega, rfl, by rw [← HZ0.out]; exact hG, Only.refl _ _⟩
      case round =>
        obtain ⟨j, hj, rfl, hg, hO⟩ := hrel
        by_cases hlt : j < 64
        · have hcl := CL.out j hj
          have hbw := hBy.only hO (by intro x hx; cases hx; simp; omega)
          have hc1 : wr.cell? ⟨bb, oo + j, none⟩ = some (.int .u8 (l.getD j 0 : Nat)) := by
            rcases hbw.2 with h | ⟨b, o', h, -, hc⟩
            · rw [h] at hl; simp at hl
            · cases h; exact hc j (by omega)
          have hc : wr.cell? ⟨G, j, none⟩ = some (.int .u8 ((copied l j).getD j 0 : Nat)) := (cell_of_row _ _ _ _ _ _ hg).trans (byteCells_at _ _ (by omega))
          have hf : wr.frozen? ⟨G, j, none⟩ = false := frozen_of_row _ _ _ _ _ hg
          have hx8 : l.getD j 0 < 256 := by
            rw [List.getD_eq_getElem?_getD, List.getElem?_eq_getElem (by omega)]; exact h256 _ (List.getElem_mem _)
          have CSj := Lib.hid (CS.out j hlt)
          generalize l.getD j 0 = x at *
          have H := Lib.hid (show (wr.setCell ⟨G, j, none⟩ (.int .u8 (x : Nat))).heap[G]? = some (.cells (byteCells (copied l (j + 1))) 30 (0, 0)) by
            rw [heap_setCell_same _ _ _ _ _ _ hg, byteCells_set, CSj.out])
          clear hg hcl hbw
          go_wp2
          go_roundw
          case rel => exact ⟨j + 1, by omega, by go_num, H.out, hO.setCell (.inl (by simp)) _⟩
          case measure => simp [intOf]; omega
        · obtain rfl : j = 64 := by omega
          rw [CA.out] at hg
          have hR := (hO.block (w.heap.size + 1) (by omega) (by simp; omega)).trans hR4
          have hB := hB4.trans (hO.below (B := w.heap.size) (by simp; omega) (by omega))
          clear hR4 hG
          go_wp2_with (first | (refine wpList_load_row rfl 30 _ rfl G rfl 30 _ _ _ hg Try.underlying30 rfl HI.out ?_) | (refine wpList_store_row rfl 30 _ _ rfl (w.heap.size + 1) (byteCells l) rfl rfl 30 Z hR HI.out HZS.out hone ?_))
          refine bodyPost_ret (results_row1 rfl _ _ (w.heap.size + 1) 30 (byteCells l) _ _ rfl (setRow_heap _ _ _ _ _ _ hR) Try.underlying30 rfl HI.out) rfl ?_
          exact ⟨by rw [LL.out], below_setRow hB (by omega) _⟩
end Go.Proofs.Ytfcadbeamojdpaa
