/- Proved here: the contract of the document's Body of an entry. -/
import Derived.Test.YtfcadbeamojdpaaEnRef
import Derived.Test.YtfcadbeamojdpaaRNum
import Derived.LoopTactic
namespace Go.Proofs.Ytfcadbeamojdpaa
open Go.RowKit Go.Rv Frm
set_option linter.unusedVariables false
/-- the first j bytes are there -/
def copied44 (l : List Nat) (j : Nat) : List Nat := l.take j ++ List.replicate (44 - j) 0
theorem copied44_length {l : List Nat} (hl : l.length = 44) {j : Nat} (h : j ≤ 44) : (copied44 l j).length = 44 := by simp [copied44, hl]; omega
theorem copied44_set {l : List Nat} (hl : l.length = 44) {j : Nat} (h : j < 44) : (copied44 l j).set j (l.getD j 0) = copied44 l (j + 1) := by
  unfold copied44
  have e : (l.take j).length = j := by simp [hl]; omega
  have hlt : j < l.length := by omega
  rw [List.set_append_right _ _ (by omega), e, Nat.sub_self, show 44 - j = (44 - (j + 1)) + 1 by omega, List.replicate_succ, List.set_cons_zero, List.take_add_one, List.getD_eq_getElem?_getD, List.getElem?_eq_getElem hlt, List.append_assoc]
  rfl
theorem copied44_all {l : List Nat} (hl : l.length = 44) : copied44 l 44 = l := by unfold copied44; rw [← hl, List.take_length, Nat.sub_self]; simp
theorem copied44_zero (l : List Nat) : copied44 l 0 = List.replicate 44 0 := by simp [copied44]
set_option maxRecDepth 100000 in
set_option maxHeartbeats 4000000 in
theorem rbody_any (e : En.E) (w : World) (hb : EBody e) (hr : En.right e = true) :
    Calls Try.prog 35 #[.agg (EC e)] w fun x w' => x = .returned (.agg (byteCells (En.body e))) ∧ Below w.heap.size w w' := by
  obtain ⟨f, c, b, m, t, hf, b1, b2, b3, b4, b5, b6⟩ := En.right_nat hr
  have hcells : ∀ (W : World) (g : Nat) (ty : TypeId), W.heap[g]? = some (.cells (EC e) ty (0, 0)) → W.cell? ⟨g, 1, none⟩ = some (.int .i64 (f : Nat)) ∧ W.cell? ⟨g, 2, none⟩ = some (.int .i64 (c : Nat)) ∧ W.cell? ⟨g, 3, none⟩ = some (.int .i64 (b : Nat)) ∧ W.cell? ⟨g, 4, none⟩ = some (.int .i64 (m : Nat)) ∧ W.cell? ⟨g, 5, none⟩ = some (.int .i64 (t : Nat)) := fun W g ty h => by
    obtain ⟨-, a1, a2, a3, a4, a5⟩ := ent_cells h
    rw [show e.first = (f : Int) by rw [hf]] at a1
    rw [show e.count = (c : Int) by rw [hf]] at a2
    rw [show e.block = (b : Int) by rw [hf]] at a3
    rw [show e.many = (m : Int) by rw [hf]] at a4
    rw [show e.mate = (t : Int) by rw [hf]] at a5
    exact ⟨a1, a2, a3, a4, a5⟩
  have HB := Lib.hid (fun (W : World) g t h => ent_bytes (w := W) (g := g) (e := e) (t := t) h hb.2)
  obtain ⟨q0, hq0⟩ : ∃ q : List Nat, q = [] := ⟨_, rfl⟩
  obtain ⟨q1, hq1⟩ : ∃ q, q = q0 ++ Cod.leN 6 f := ⟨_, rfl⟩
  obtain ⟨q2, hq2⟩ : ∃ q, q = q1 ++ [c] := ⟨_, rfl⟩
  obtain ⟨q3, hq3⟩ : ∃ q, q = q2 ++ [b] := ⟨_, rfl⟩
  obtain ⟨q4, hq4⟩ : ∃ q, q = q3 ++ Cod.leN 2 m := ⟨_, rfl⟩
  obtain ⟨q5, hq5⟩ : ∃ q, q = q4 ++ Cod.leN 2 t := ⟨_, rfl⟩
  have l0 : q0.length = 0 := by rw [hq0]; rfl
  have l1 : q1.length = 6 := by rw [hq1]; simp [l0, Cod.leN_length]
  have l2 : q2.length = 7 := by rw [hq2]; simp [l1]
  have l3 : q3.length = 8 := by rw [hq3]; simp [l2]
  have l4 : q4.length = 10 := by rw [hq4]; simp [l3, Cod.leN_length]
  have l5 : q5.length = 12 := by rw [hq5]; simp [l4, Cod.leN_length]
  have hfr : En.body e = q5 ++ e.bytes := by
    rw [hq5, hq4, hq3, hq2, hq1, hq0]
    conv => lhs; rw [hf]
    have e1 : Cod.leN 1 c = [c] := by simp [Cod.leN]; omega
    have e2 : Cod.leN 1 b = [b] := by simp [Cod.leN]; omega
    simp [En.body, e1, e2]
  have HFR := Lib.hid hfr
  have HCE := Lib.hid hcells
  have L0 := Lib.hid l0
  have Q0 := Lib.hid hq0
  have L1 := Lib.hid l1
  have Q1 := Lib.hid hq1
  have L2 := Lib.hid l2
  have Q2 := Lib.hid hq2
  have L3 := Lib.hid l3
  have Q3 := Lib.hid hq3
  have L4 := Lib.hid l4
  have Q4 := Lib.hid hq4
  have L5 := Lib.hid l5
  have Q5 := Lib.hid hq5
  have HBL := Lib.hid hb.1
  have HN1 := Lib.hid (fun W => rnum_any 6 f (by omega) (by omega) W)
  have HN4 := Lib.hid (fun W => rnum_any 2 m (by omega) (by omega) W)
  have HN5 := Lib.hid (fun W => rnum_any 2 t (by omega) (by omega) W)
  clear hcells hf hfr l0 l1 l2 l3 l4 l5 hq0 hq1 hq2 hq3 hq4 hq5 hr hb
  have hz := (zero_of_info Try.infoBody).1
  have HI44 := Lib.hid (fun (l : List Nat) (h : l.length = 44) => size_body h)
  obtain ⟨Z, hZ⟩ : ∃ Z, byteCells (List.replicate 44 0) = Z := ⟨_, rfl⟩
  have HZ := Lib.hid hZ
  rw [hZ] at hz
  generalize hFC : EC e = C at *
  clear hZ hFC
  have hB0 : Below w.heap.size w ((w.alloc (.cells C 64)).alloc (.cells Z 22)) := ((Below.refl w.heap.size w).alloc (Nat.le_refl _) (.cells C 64)).alloc (by simp) (.cells Z 22)
  have hF0 := heap_alloc2_old w (.cells C 64) (.cells Z 22)
  have hR0 := heap_alloc2_new w (.cells C 64) (.cells Z 22)
  have z0 : w.heap.size + 1 + 1 ≤ ((w.alloc (.cells C 64)).alloc (.cells Z 22)).heap.size := by simp
  obtain ⟨d1, d2, d3, d4, d5⟩ := HCE.out _ _ _ hF0
  go_enter Try.func35, Try.ntmps35
  go_wp2_with fail
  obtain ⟨W0, hW0⟩ : ∃ W0, (w.alloc (.cells C 64)).alloc (.cells Z 22) = W0 := ⟨_, rfl⟩
  rw [hW0] at hB0 hF0 hR0 z0 d1 d2 d3 d4 d5 ⊢
  clear hW0 d1 d2 d3 d4 d5
  have hown0 : OwnB W0 5 (w.heap.size + 1 + 1) (.slice none 0 0) q0 := by rw [Q0.out]; exact OwnB.nil _ _ _
  have hF_0 := hF0
  have hR_0 := hR0
  have hBw0 := hB0
  have hsz0 := z0
  clear hF0 hR0 hB0 z0
  refine (HN1.out _).mono ?_
  rintro x w2 ⟨v2, rfl, ho2, hB2⟩
  obtain ⟨a2, c2, rfl, hb2, hn2, -⟩ := ho2.bytes
  have hFx := (hB2.block w.heap.size (by omega)).trans hF_0
  have hRx := (hB2.block (w.heap.size + 1) (by omega)).trans hR_0
  have hownx := hown0.below hB2
  have hBwx := hBw0.trans (hB2.mono (by omega))
  have hszx : w.heap.size + 1 + 1 ≤ w2.heap.size := Nat.le_trans hsz0 hB2.size
  clear hF_0 hR_0 hown0 hBw0 hsz0
  go_upto_region 3 with (at_builtin; refine wpList_append_bytes rfl (.tmp 7) (.tmp 10) 47 rfl 5 Try.underlying47 Try.infoU8 (w.heap.size + 1 + 1) _ q0 rfl hownx a2 c2 (Cod.leN 6 f) rfl hb2 hn2 (by rw [L0.out, Cod.leN_length]; omega) hszx ?_; intro v1 w3_1 hv3 hg3)
  have hb3 := hownx.grown hg3 hszx
  have hF_1 := (hb3.block w.heap.size (by omega)).trans hFx
  have hR_1 := (hb3.block (w.heap.size + 1) (by omega)).trans hRx
  have hBw1 := hBwx.trans (hb3.mono (by omega))
  have hsz1 := Nat.le_trans hszx hb3.size
  rw [← Q1.out] at hv3
  have hown1 := hv3
  clear hb3 hFx hRx hownx hBwx hszx ho2 hB2 hb2 hn2 hg3 hv3
  have hal : Below w3_1.heap.size w3_1 (w3_1.alloc (.cells #[.int .u8 (c : Nat)] 5)) := (Below.refl _ _).alloc (Nat.le_refl _) _
  have hFx := (hal.block w.heap.size (by omega)).trans hF_1
  have hRx := (hal.block (w.heap.size + 1) (by omega)).trans hR_1
  have hownx := hown1.below hal
  have hBwx := hBw1.trans (hal.mono (by omega))
  have hszx := Nat.le_trans hsz1 hal.size
  have honex := one_byte_row w3_1 5 c (by omega)
  obtain ⟨d1, d2, d3, d4, d5⟩ := HCE.out _ _ _ hF_1
  clear hal hR_1 hown1 hBw1 hF_1
  go_upto_region 4 with (at_builtin; refine wpList_append_bytes rfl (.tmp 12) (.tmp 16) 47 rfl 5 Try.underlying47 Try.infoU8 (w.heap.size + 1 + 1) _ q1 rfl hownx (some ⟨w3_1.heap.size, 0, none⟩) 1 [c] rfl honex (fun e => by cases e) (by rw [L1.out]; simp) hszx ?_; intro v2 w3_2 hv3 hg3)
  have hb3 := hownx.grown hg3 hszx
  have hF_2 := (hb3.block w.heap.size (by omega)).trans hFx
  have hR_2 := (hb3.block (w.heap.size + 1) (by omega)).trans hRx
  have hBw2 := hBwx.trans (hb3.mono (by omega))
  have hsz2 := Nat.le_trans hszx hb3.size
  rw [← Q2.out] at hv3
  have hown2 := hv3
  clear hb3 hFx hRx hownx hBwx hszx hg3 hv3 honex d1 d2 d3 d4 d5 hsz1
  have hal : Below w3_2.heap.size w3_2 (w3_2.alloc (.cells #[.int .u8 (b : Nat)] 5)) := (Below.refl _ _).alloc (Nat.le_refl _) _
  have hFx := (hal.block w.heap.size (by omega)).trans hF_2
  have hRx := (hal.block (w.heap.size + 1) (by omega)).trans hR_2
  have hownx := hown2.below hal
  have hBwx := hBw2.trans (hal.mono (by omega))
  have hszx := Nat.le_trans hsz2 hal.size
  have honex := one_byte_row w3_2 5 b (by omega)
  obtain ⟨d1, d2, d3, d4, d5⟩ := HCE.out _ _ _ hF_2
  clear hal hR_2 hown2 hBw2 hF_2
  go_upto_region 5 with (at_builtin; refine wpList_append_bytes rfl (.tmp 18) (.tmp 22) 47 rfl 5 Try.underlying47 Try.infoU8 (w.heap.size + 1 + 1) _ q2 rfl hownx (some ⟨w3_2.heap.size, 0, none⟩) 1 [b] rfl honex (fun e => by cases e) (by rw [L2.out]; simp) hszx ?_; intro v3 w3_3 hv3 hg3)
  have hb3 := hownx.grown hg3 hszx
  have hF_3 := (hb3.block w.heap.size (by omega)).trans hFx
  have hR_3 := (hb3.block (w.heap.size + 1) (by omega)).trans hRx
  have hBw3 := hBwx.trans (hb3.mono (by omega))
  have hsz3 := Nat.le_trans hszx hb3.size
  rw [← Q3.out] at hv3
  have hown3 := hv3
  clear hb3 hFx hRx hownx hBwx hszx hg3 hv3 honex d1 d2 d3 d4 d5 hsz2
  obtain ⟨d1, d2, d3, d4, d5⟩ := HCE.out _ _ _ hF_3
  go_wp2_with fail
  clear d1 d2 d3 d4 d5
  refine (HN4.out _).mono ?_
  rintro x w2 ⟨v2, rfl, ho2, hB2⟩
  obtain ⟨a2, c2, rfl, hb2, hn2, -⟩ := ho2.bytes
  have hFx := (hB2.block w.heap.size (by omega)).trans hF_3
  have hRx := (hB2.block (w.heap.size + 1) (by omega)).trans hR_3
  have hownx := hown3.below hB2
  have hBwx := hBw3.trans (hB2.mono (by omega))
  have hszx : w.heap.size + 1 + 1 ≤ w2.heap.size := Nat.le_trans hsz3 hB2.size
  clear hF_3 hR_3 hown3 hBw3 hsz3
  go_upto_region 6 with (at_builtin; refine wpList_append_bytes rfl (.tmp 24) (.tmp 27) 47 rfl 5 Try.underlying47 Try.infoU8 (w.heap.size + 1 + 1) _ q3 rfl hownx a2 c2 (Cod.leN 2 m) rfl hb2 hn2 (by rw [L3.out, Cod.leN_length]; omega) hszx ?_; intro v4 w3_4 hv3 hg3)
  have hb3 := hownx.grown hg3 hszx
  have hF_4 := (hb3.block w.heap.size (by omega)).trans hFx
  have hR_4 := (hb3.block (w.heap.size + 1) (by omega)).trans hRx
  have hBw4 := hBwx.trans (hb3.mono (by omega))
  have hsz4 := Nat.le_trans hszx hb3.size
  rw [← Q4.out] at hv3
  have hown4 := hv3
  clear hb3 hFx hRx hownx hBwx hszx ho2 hB2 hb2 hn2 hg3 hv3
  obtain ⟨d1, d2, d3, d4, d5⟩ := HCE.out _ _ _ hF_4
  go_wp2_with fail
  clear d1 d2 d3 d4 d5
  refine (HN5.out _).mono ?_
  rintro x w2 ⟨v2, rfl, ho2, hB2⟩
  obtain ⟨a2, c2, rfl, hb2, hn2, -⟩ := ho2.bytes
  have hFx := (hB2.block w.heap.size (by omega)).trans hF_4
  have hRx := (hB2.block (w.heap.size + 1) (by omega)).trans hR_4
  have hownx := hown4.below hB2
  have hBwx := hBw4.trans (hB2.mono (by omega))
  have hszx : w.heap.size + 1 + 1 ≤ w2.heap.size := Nat.le_trans hsz4 hB2.size
  clear hF_4 hR_4 hown4 hBw4 hsz4
  go_upto_region 7 with (at_builtin; refine wpList_append_bytes rfl (.tmp 29) (.tmp 32) 47 rfl 5 Try.underlying47 Try.infoU8 (w.heap.size + 1 + 1) _ q4 rfl hownx a2 c2 (Cod.leN 2 t) rfl hb2 hn2 (by rw [L4.out, Cod.leN_length]; omega) hszx ?_; intro v5 w3_5 hv3 hg3)
  have hb3 := hownx.grown hg3 hszx
  have hF_5 := (hb3.block w.heap.size (by omega)).trans hFx
  have hR_5 := (hb3.block (w.heap.size + 1) (by omega)).trans hRx
  have hBw5 := hBwx.trans (hb3.mono (by omega))
  have hsz5 := Nat.le_trans hszx hb3.size
  rw [← Q5.out] at hv3
  have hown5 := hv3
  clear hb3 hFx hRx hownx hBwx hszx ho2 hB2 hb2 hn2 hg3 hv3
  have T0 := Lib.hid (show q5 ++ e.bytes.take 0 = q5 by simp)
  have T1 := Lib.hid (show ∀ j, j < 32 → e.bytes.take j ++ [e.bytes.getD j 0] = e.bytes.take (j + 1) by
    intro j hj
    have hlt : j < e.bytes.length := by rw [HBL.out]; exact hj
    rw [List.take_add_one, List.getD_eq_getElem?_getD, List.getElem?_eq_getElem hlt]; rfl)
  have T2 := Lib.hid (show e.bytes.take 32 = e.bytes by rw [← HBL.out]; exact List.take_length ..)
  go_wp2
  go_loopw [3, 4] (fun x i wr => ∃ j : Nat, j ≤ 32 ∧ i = .int .i64 j ∧ OwnB wr 5 (w.heap.size + 1 + 1) x (q5 ++ e.bytes.take j) ∧ wr.heap[w.heap.size]? = some (.cells C 64 (0, 0)) ∧ wr.heap[w.heap.size + 1]? = some (.cells Z 22 (0, 0)) ∧ Below w.heap.size w wr ∧ w.heap.size + 1 + 1 ≤ wr.heap.size) (fun _ i _ => 32 - (intOf i).toNat)
  case atStart => exact ⟨0, by omega, rfl, by rw [T0.out]; exact hown5, hF_5, hR_5, hBw5, hsz5⟩
  case round =>
    obtain ⟨j, hj, rfl, hown, hF, hR, hBw, hsz⟩ := hrel
    clear hown5 hF_5 hR_5 hBw5 hsz5
    by_cases hlt : j < 32
    · have hbb := (HB.out _ _ _ hF)
      have hc8 : e.bytes.getD j 0 < 256 := by
        rw [List.getD_eq_getElem?_getD, List.getElem?_eq_getElem (by rw [HBL.out]; exact hlt)]; exact hbb.1 _ (List.getElem_mem _)
      have hcell : wr.cell? ⟨w.heap.size, 6 + j, none⟩ = some (.int .u8 (e.bytes.getD j 0 : Nat)) := by
        rcases hbb.2 with h | ⟨b, o', h, -, hc⟩
        · have := HBL.out; rw [h] at this; simp at this
        · cases h; exact hc j (by rw [HBL.out]; exact hlt)
      have hal : Below wr.heap.size wr (wr.alloc (.cells #[.int .u8 (e.bytes.getD j 0 : Nat)] 5)) := (Below.refl _ _).alloc (Nat.le_refl _) _
      have hown' := hown.below hal
      have hF' := (hal.block w.heap.size (by omega)).trans hF
      have hR' := (hal.block (w.heap.size + 1) (by omega)).trans hR
      have hBw' := hBw.trans (hal.mono (by omega))
      have hsz' := Nat.le_trans hsz hal.size
      have hone := one_byte_row wr 5 _ hc8
      have T1j := Lib.hid (T1.out j hlt)
      have hlen : (q5 ++ e.bytes.take j).length = 12 + j := by simp [L5.out, HBL.out]; omega
      generalize e.bytes.getD j 0 = cb at *
      clear hbb hal
      go_wp2_with (at_builtin; refine wpList_append_bytes rfl (.tmp 38) (.tmp 43) 47 rfl 5 Try.underlying47 Try.infoU8 (w.heap.size + 1 + 1) _ (q5 ++ e.bytes.take j) rfl hown' (some ⟨wr.heap.size, 0, none⟩) 1 [cb] rfl hone (fun e => by cases e) (by rw [hlen]; simp; omega) hsz' ?_; intro v' w' hv hg)
      have hb3 := hown'.grown hg hsz'
      go_roundw
      case rel => exact ⟨j + 1, by omega, by go_num, by rw [← T1j.out, ← List.append_assoc]; exact hv, (hb3.block w.heap.size (by omega)).trans hF', (hb3.block (w.heap.size + 1) (by omega)).trans hR', hBw'.trans (hb3.mono (by omega)), Nat.le_trans hsz' hb3.size⟩
      case measure => simp [intOf]; omega
    · obtain rfl : j = 32 := by omega
      rw [T2.out, ← HFR.out] at hown
      have hl : (En.body e).length = 44 := by rw [HFR.out]; simp [L5.out, HBL.out]
      clear T0 T1 T2
      obtain ⟨ab, cb, rfl, hbb, hnb, -⟩ := hown.bytes
      rcases hbb.2 with h0 | ⟨bb, oo, rfl, hbl, hcells⟩
      · exfalso; rw [h0] at hl; simp at hl
      have h256 := hbb.1
      have hal : Below wr.heap.size wr (wr.alloc (.cells Z 22)) := (Below.refl _ _).alloc (Nat.le_refl _) _
      have hG := heap_alloc_new wr (.cells Z 22)
      have zz : (wr.alloc (.cells Z 22)).heap.size = wr.heap.size + 1 := by simp
      have hBy := hbb.below hal
      have hR4 := (hal.block (w.heap.size + 1) (by omega)).trans hR
      have hB4 := hBw.trans (hal.mono (by omega))
      obtain ⟨W3, hW3⟩ : ∃ W3, wr.alloc (.cells Z 22) = W3 := ⟨_, rfl⟩
      have HW3 := Lib.hid hW3
      rw [hW3] at hal hG zz hBy hR4 hB4
      obtain ⟨G, hGe⟩ : ∃ G, wr.heap.size = G := ⟨_, rfl⟩
      have HGE := Lib.hid hGe
      rw [hGe] at hG zz hsz hbl
      have HI := Lib.hid (HI44.out (En.body e) hl)
      have HZS : Hid (Z.size = (byteCells (En.body e)).size) := Lib.hid (by rw [← HZ.out]; simp [size_byteCells, hl])
      have HZ0 := Lib.hid (show Z = byteCells (copied44 (En.body e) 0) by rw [← HZ.out, copied44_zero])
      have hone := one_byteCells (En.body e)
      have CS := Lib.hid (fun j (h : j < 44) => copied44_set hl h)
      have CL := Lib.hid (fun j (h : j ≤ 44) => copied44_length hl h)
      have CA := Lib.hid (copied44_all hl)
      clear hal hW3 hGe hbb hcells hF hR hBw HFR HB HCE HN1 HN4 HN5 hown
      rw [hl]
      obtain ⟨l, hL⟩ : ∃ l, En.body e = l := ⟨_, rfl⟩
      have LL := Lib.hid hL
      rw [hL] at hl hBy h256 HI HZS HZ0 hone CS CL CA
      clear hL
      go_wp2
      rw [HW3.out, HGE.out]
      go_loopw [6] (fun i wr => ∃ j : Nat, j ≤ 44 ∧ i = .int .i64 j ∧ wr.heap[G]? = some (.cells (byteCells (copied44 l j)) 22 (0, 0)) ∧ Only [G] W3 wr) (fun i _ => 44 - (intOf i).toNat)
      case atStart => exact ⟨0, by omega, rfl, by rw [← HZ0.out]; exact hG, Only.refl _ _⟩
      case round =>
        obtain ⟨j, hj, rfl, hg, hO⟩ := hrel
        by_cases hlt : j < 44
        · have hcl := CL.out j hj
          have hbw := hBy.only hO (by intro x hx; cases hx; simp; omega)
          have hc1 : wr.cell? ⟨bb, oo + j, none⟩ = some (.int .u8 (l.getD j 0 : Nat)) := by
            rcases hbw.2 with h | ⟨b, o', h, -, hc⟩
            · rw [h] at hl; simp at hl
            · cases h; exact hc j (by omega)
          have hc : wr.cell? ⟨G, j, none⟩ = some (.int .u8 ((copied44 l j).getD j 0 : Nat)) := (cell_of_row _ _ _ _ _ _ hg).trans (byteCells_at _ _ (by omega))
          have hf : wr.frozen? ⟨G, j, none⟩ = false := frozen_of_row _ _ _ _ _ hg
          have hx8 : l.getD j 0 < 256 := by
            rw [List.getD_eq_getElem?_getD, List.getElem?_eq_getElem (by omega)]; exact h256 _ (List.getElem_mem _)
          have CSj := Lib.hid (CS.out j hlt)
          generalize l.getD j 0 = x at *
          have H := Lib.hid (show (wr.setCell ⟨G, j, none⟩ (.int .u8 (x : Nat))).heap[G]? = some (.cells (byteCells (copied44 l (j + 1))) 22 (0, 0)) by
            rw [heap_setCell_same _ _ _ _ _ _ hg, byteCells_set, CSj.out])
          clear hg hcl hbw
          go_wp2
          go_roundw
          case rel => exact ⟨j + 1, by omega, by go_num, H.out, hO.setCell (.inl (by simp)) _⟩
          case measure => simp [intOf]; omega
        · obtain rfl : j = 44 := by omega
          rw [CA.out] at hg
          have hR := (hO.block (w.heap.size + 1) (by omega) (by simp; omega)).trans hR4
          have hB := hB4.trans (hO.below (B := w.heap.size) (by simp; omega) (by omega))
          clear hR4 hG
          go_wp2_with (first | (refine wpList_load_row rfl 22 _ rfl G rfl 22 _ _ _ hg Try.underlying22 rfl HI.out ?_) | (refine wpList_store_row rfl 22 _ _ rfl (w.heap.size + 1) (byteCells l) rfl rfl 22 Z hR HI.out HZS.out hone ?_))
          refine bodyPost_ret (results_row1 rfl _ _ (w.heap.size + 1) 22 (byteCells l) _ _ rfl (setRow_heap _ _ _ _ _ _ hR) Try.underlying22 rfl HI.out) rfl ?_
          exact ⟨by rw [LL.out], below_setRow hB (by omega) _⟩
end Go.Proofs.Ytfcadbeamojdpaa
