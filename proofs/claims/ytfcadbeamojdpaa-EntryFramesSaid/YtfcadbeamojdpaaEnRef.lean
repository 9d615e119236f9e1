/- Proved here: contracts of the document's Right of an entry, and of the law's turn of an entry. -/
import Derived.Test.YtfcadbeamojdpaaEnRead
namespace Go.Proofs.Ytfcadbeamojdpaa
open Go.RowKit Go.Rv Frm
set_option linter.unusedVariables false
theorem Try.infoRE : (Try.prog.info? 64).map (fun i => (i.zero, i.size)) = some (some (.agg (EC En.E.zero)), 38) := by kernel_rfl
theorem size_re {e : En.E} (h : e.bytes.length = 32) : (Try.prog.info? 64).map (·.size) = some (EC e).size := by rw [EC_size, h]; exact (zero_of_info Try.infoRE).2
theorem Try.infoA32 : (Try.prog.info? 52).map (fun i => (i.zero, i.size)) = some (some (.agg (byteCells (List.replicate 32 0))), 32) := by kernel_rfl
theorem built_re (k f c b m t : Int) (l : List Nat) (hl : l.length = 32) : Try.prog.built 64 [(0, .int .i64 k), (1, .int .i64 f), (2, .int .i64 c), (3, .int .i64 b), (4, .int .i64 m), (5, .int .i64 t), (6, .agg (byteCells l))] = some (EC ⟨k, f, c, b, m, t, l⟩) := by
  obtain ⟨g, rfl⟩ := list_fn l 32 hl
  kernel_rfl
theorem built_a32 : Try.prog.built 52 [] = some (byteCells (List.replicate 32 0)) := by kernel_rfl
set_option maxRecDepth 100000 in
set_option maxHeartbeats 2000000 in
theorem lof_any (e : En.E) (w : World) (hb : EBody e) :
    Calls Try.prog 32 #[.agg (EC e)] w fun x w' => x = .returned (.agg (EC e)) ∧ Below w.heap.size w w' := by
  have hz := (zero_of_info Try.infoRE).1
  have HI := Lib.hid (size_re hb.1)
  have hone := EC_one e
  have HSZ : Hid ((EC En.E.zero).size = (EC e).size) := Lib.hid (by rw [EC_size, EC_size, hb.1]; rfl)
  have HIL : Hid ((Try.prog.info? 53).map (·.size) = some (byteCells e.bytes).toList.length) := Lib.hid (by rw [Array.length_toList]; exact size_blk hb.1)
  have HBU : Hid (Try.prog.built 64 [(0, .int .i64 e.kind), (1, .int .i64 e.first), (2, .int .i64 e.count), (3, .int .i64 e.block), (4, .int .i64 e.many), (5, .int .i64 e.mate), (6, .agg (byteCells e.bytes).toList.toArray)] = some (EC e)) := Lib.hid (by rw [Array.toArray_toList]; exact built_re _ _ _ _ _ _ _ hb.1)
  have hE0 := heap_alloc2_old w (.cells (EC e) 55) (.cells (EC En.E.zero) 64)
  have hR0 := heap_alloc2_new w (.cells (EC e) 55) (.cells (EC En.E.zero) 64)
  have hB0 : Below w.heap.size w ((w.alloc (.cells (EC e) 55)).alloc (.cells (EC En.E.zero) 64)) := ((Below.refl _ w).alloc (Nat.le_refl _) _).alloc (by simp) _
  obtain ⟨c0, c1, c2, c3, c4, c5⟩ := ent_cells hE0
  have hmid := ent_range hE0
  obtain ⟨k, f, c, b, m, t, l⟩ := e
  simp only at c0 c1 c2 c3 c4 c5 HBU hmid HIL
  obtain ⟨Z, hZ⟩ : ∃ Z, EC En.E.zero = Z := ⟨_, rfl⟩
  obtain ⟨C, hC⟩ : ∃ C, EC ⟨k, f, c, b, m, t, l⟩ = C := ⟨_, rfl⟩
  obtain ⟨BL, hBL⟩ : ∃ BL, (byteCells l).toList = BL := ⟨_, rfl⟩
  rw [hZ] at hz hE0 hR0 hB0 HSZ c0 c1 c2 c3 c4 c5 hmid
  rw [hC] at hE0 hR0 hB0 HI hone HSZ HBU c0 c1 c2 c3 c4 c5 hmid ⊢
  rw [hBL] at HBU hmid HIL
  clear hZ hC hBL hb
  go_enter Try.func32, Try.ntmps32
  go_wp2_with (first | (refine wpList_load_mid_asked (by rfl) 53 _ rfl w.heap.size 6 rfl BL _ hmid Try.underlying53 rfl HIL.out ?_) | (refine wpList_build_asked (by rfl) 64 _ rfl #[(0, .int .i64 k), (1, .int .i64 f), (2, .int .i64 c), (3, .int .i64 b), (4, .int .i64 m), (5, .int .i64 t), (6, .agg BL.toArray)] (by simp [Act.eval, Act.put]) C HBU.out ?_) | (refine wpList_store_row rfl 64 _ _ rfl (w.heap.size + 1) C rfl rfl 64 Z hR0 HI.out HSZ.out hone ?_))
  refine bodyPost_ret (results_row1 rfl _ _ (w.heap.size + 1) 64 C _ _ rfl (setRow_heap _ _ _ _ _ _ hR0) Try.underlying64 rfl HI.out) rfl ?_
  exact ⟨rfl, below_setRow hB0 (by omega) _⟩
set_option maxRecDepth 100000 in
set_option maxHeartbeats 4000000 in
theorem rright_core (k f c b m t : Int) (C : Array Value) (BL : List Value) (bz : Bool) (w : World)
    (hc : ∀ W : World, W.heap[w.heap.size]? = some (.cells C 64 (0, 0)) → (W.cell? ⟨w.heap.size, 0, none⟩ = some (.int .i64 k) ∧ W.cell? ⟨w.heap.size, 1, none⟩ = some (.int .i64 f) ∧ W.cell? ⟨w.heap.size, 2, none⟩ = some (.int .i64 c) ∧ W.cell? ⟨w.heap.size, 3, none⟩ = some (.int .i64 b) ∧ W.cell? ⟨w.heap.size, 4, none⟩ = some (.int .i64 m) ∧ W.cell? ⟨w.heap.size, 5, none⟩ = some (.int .i64 t)) ∧ W.rangeAt w.heap.size 6 BL)
    (hIL : (Try.prog.info? 52).map (·.size) = some BL.length) (hq : ∀ W, (Op.equalIn 10000 52 (.agg BL.toArray) (.agg #[.int .u8 0, .int .u8 0, .int .u8 0, .int .u8 0, .int .u8 0, .int .u8 0, .int .u8 0, .int .u8 0, .int .u8 0, .int .u8 0, .int .u8 0, .int .u8 0, .int .u8 0, .int .u8 0, .int .u8 0, .int .u8 0, .int .u8 0, .int .u8 0, .int .u8 0, .int .u8 0, .int .u8 0, .int .u8 0, .int .u8 0, .int .u8 0, .int .u8 0, .int .u8 0, .int .u8 0, .int .u8 0, .int .u8 0, .int .u8 0, .int .u8 0, .int .u8 0])).run Try.prog W = .ok bz W) :
    Calls Try.prog 33 #[.agg C] w fun x w' => x = .returned (.bool (if decide (f < 0) = true then false else if decide (281474976710655 < f) = true then false else if decide (b < 0) = true then false else if decide (255 < b) = true then false else if decide (t < 0) = true then false else if decide (65535 < t) = true then false else if decide (c < 1) = true then false else if (k == 1) = true then (decide (c ≤ 4) && (m == 0)) else if (k == 2) = true then ((c == 1) && (decide (1 ≤ m) && (decide (m ≤ 256 - b) && bz))) else ((k == 3) && ((c == 1) && (m == 0))))) ∧ Below w.heap.size w w' := by
  obtain ⟨W0, hW0⟩ : ∃ W0, w.alloc (.cells C 64) = W0 := ⟨_, rfl⟩
  have hE0 : W0.heap[w.heap.size]? = some (.cells C 64 (0, 0)) := by rw [← hW0]; exact heap_alloc_new w _
  have hB : Below w.heap.size w W0 := by rw [← hW0]; exact (Below.refl _ w).alloc (Nat.le_refl _) _
  obtain ⟨⟨c0, c1, c2, c3, c4, c5⟩, hmid⟩ := hc W0 hE0
  have HW0 := Lib.hid hW0
  have HIL := Lib.hid hIL
  have HQ := Lib.hid hq
  have HMID := Lib.hid hmid
  clear hW0 hE0 hc hIL hq hmid
  by_cases t1 : decide (f < 0) = true
  · rw [if_pos t1]
    go_enter Try.func33, Try.ntmps33
    go_upto_region 1 with (fail)
    rw [HW0.out]
    go_wp2
    go_ret
    exact ⟨rfl, hB⟩
  rw [if_neg t1]
  rw [Bool.not_eq_true] at t1
  by_cases t2 : decide (281474976710655 < f) = true
  · rw [if_pos t2]
    go_enter Try.func33, Try.ntmps33
    go_upto_region 1 with (fail)
    rw [HW0.out]
    go_wp2
    go_ret
    exact ⟨rfl, hB⟩
  rw [if_neg t2]
  rw [Bool.not_eq_true] at t2
  by_cases t3 : decide (b < 0) = true
  · rw [if_pos t3]
    go_enter Try.func33, Try.ntmps33
    go_upto_region 1 with (fail)
    rw [HW0.out]
    go_wp2
    go_ret
    exact ⟨rfl, hB⟩
  rw [if_neg t3]
  rw [Bool.not_eq_true] at t3
  by_cases t4 : decide (255 < b) = true
  · rw [if_pos t4]
    go_enter Try.func33, Try.ntmps33
    go_upto_region 1 with (fail)
    rw [HW0.out]
    go_wp2
    go_ret
    exact ⟨rfl, hB⟩
  rw [if_neg t4]
  rw [Bool.not_eq_true] at t4
  by_cases t5 : decide (t < 0) = true
  · rw [if_pos t5]
    go_enter Try.func33, Try.ntmps33
    go_upto_region 1 with (fail)
    rw [HW0.out]
    go_wp2
    go_ret
    exact ⟨rfl, hB⟩
  rw [if_neg t5]
  rw [Bool.not_eq_true] at t5
  by_cases t6 : decide (65535 < t) = true
  · rw [if_pos t6]
    go_enter Try.func33, Try.ntmps33
    go_upto_region 1 with (fail)
    rw [HW0.out]
    go_wp2
    go_ret
    exact ⟨rfl, hB⟩
  rw [if_neg t6]
  rw [Bool.not_eq_true] at t6
  by_cases t7 : decide (c < 1) = true
  · rw [if_pos t7]
    go_enter Try.func33, Try.ntmps33
    go_upto_region 1 with (fail)
    rw [HW0.out]
    go_wp2
    go_ret
    exact ⟨rfl, hB⟩
  rw [if_neg t7]
  rw [Bool.not_eq_true] at t7
  have hb0 : 0 ≤ b := by have := of_decide_eq_false t3; omega
  have hb1 : b ≤ 255 := by have := of_decide_eq_false t4; omega
  by_cases t8 : (k == 1) = true
  · rw [if_pos t8]
    cases u1 : decide (c ≤ 4)
    · go_enter Try.func33, Try.ntmps33
      go_upto_region 1 with (fail)
      rw [HW0.out]
      go_wp2
      go_ret
      exact ⟨rfl, hB⟩
    · skip
      cases u2 : m == 0
      · go_enter Try.func33, Try.ntmps33
        go_upto_region 1 with (fail)
        rw [HW0.out]
        go_wp2
        go_ret
        exact ⟨rfl, hB⟩
      · go_enter Try.func33, Try.ntmps33
        go_upto_region 1 with (fail)
        rw [HW0.out]
        go_wp2
        go_ret
        exact ⟨rfl, hB⟩
  rw [if_neg t8]
  rw [Bool.not_eq_true] at t8
  by_cases t9 : (k == 2) = true
  · rw [if_pos t9]
    cases u1 : c == 1
    · go_enter Try.func33, Try.ntmps33
      go_upto_region 1 with (fail)
      rw [HW0.out]
      go_wp2
      go_ret
      exact ⟨rfl, hB⟩
    · skip
      cases u2 : decide (1 ≤ m)
      · go_enter Try.func33, Try.ntmps33
        go_upto_region 1 with (fail)
        rw [HW0.out]
        go_wp2
        go_ret
        exact ⟨rfl, hB⟩
      · skip
        cases u3 : decide (m ≤ 256 - b)
        · go_enter Try.func33, Try.ntmps33
          go_upto_region 1 with (fail)
          rw [HW0.out]
          go_wp2
          go_ret
          exact ⟨rfl, hB⟩
        · go_enter Try.func33, Try.ntmps33
          go_upto_region 1 with (fail)
          rw [HW0.out]
          have hq := HQ.out
          go_wp2_with (refine wpList_load_mid_asked (by rfl) 52 _ rfl w.heap.size 6 rfl BL _ HMID.out Try.underlying52 rfl HIL.out ?_)
          go_ret
          exact ⟨rfl, hB⟩
  rw [if_neg t9]
  rw [Bool.not_eq_true] at t9
  cases u1 : k == 3
  · go_enter Try.func33, Try.ntmps33
    go_upto_region 1 with (fail)
    rw [HW0.out]
    go_wp2
    go_ret
    exact ⟨rfl, hB⟩
  · skip
    cases u2 : c == 1
    · go_enter Try.func33, Try.ntmps33
      go_upto_region 1 with (fail)
      rw [HW0.out]
      go_wp2
      go_ret
      exact ⟨rfl, hB⟩
    · skip
      cases u3 : m == 0
      · go_enter Try.func33, Try.ntmps33
        go_upto_region 1 with (fail)
        rw [HW0.out]
        go_wp2
        go_ret
        exact ⟨rfl, hB⟩
      · go_enter Try.func33, Try.ntmps33
        go_upto_region 1 with (fail)
        rw [HW0.out]
        go_wp2
        go_ret
        exact ⟨rfl, hB⟩
set_option maxRecDepth 100000 in
theorem rright_any (e : En.E) (w : World) (hb : EBody e) :
    Calls Try.prog 33 #[.agg (EC e)] w fun x w' => x = .returned (.bool (En.right e)) ∧ Below w.heap.size w w' := by
  have h := rright_core e.kind e.first e.count e.block e.many e.mate (EC e) (byteCells e.bytes).toList (decide (e.bytes = List.replicate 32 0)) w (fun W hW => ⟨ent_cells hW, ent_range hW⟩)
    (by rw [Array.length_toList, size_byteCells, hb.1]; exact (zero_of_info Try.infoA32).2) (fun W => by rw [Array.toArray_toList]; exact eq_arr32 e.bytes (List.replicate 32 0) hb.1 (by simp) hb.2 (by simp) _ (by simp) W)
  refine h.mono ?_
  rintro x w' ⟨rfl, hB⟩
  refine ⟨?_, hB⟩
  congr 2
  unfold En.right En.counts En.inB
  by_cases t1 : e.first < 0
  · simp [t1]; omega
  by_cases t2 : 281474976710655 < e.first
  · simp [t2]; omega
  by_cases t3 : e.block < 0
  · simp [t3]; omega
  by_cases t4 : 255 < e.block
  · simp [t4]; omega
  by_cases t5 : e.mate < 0
  · simp [t5]; omega
  by_cases t6 : 65535 < e.mate
  · simp [t6]; omega
  have a1 : decide (0 ≤ e.first) = true := decide_eq_true (by omega)
  have a2 : decide (e.first ≤ 281474976710655) = true := decide_eq_true (by omega)
  have a3 : decide (0 ≤ e.block) = true := decide_eq_true (by omega)
  have a4 : decide (e.block ≤ 255) = true := decide_eq_true (by omega)
  have a5 : decide (0 ≤ e.mate) = true := decide_eq_true (by omega)
  have a6 : decide (e.mate ≤ 65535) = true := decide_eq_true (by omega)
  simp only [decide_eq_false t1, decide_eq_false t2, decide_eq_false t3, decide_eq_false t4, decide_eq_false t5, decide_eq_false t6, a1, a2, a3, a4, a5, a6, Bool.true_and, Bool.false_eq_true, if_false]
  by_cases t7 : e.count < 1
  · have b1 : decide (1 ≤ e.count) = false := decide_eq_false (by omega)
    have b2 : (e.count == 1) = false := by simp; omega
    simp only [decide_eq_true t7, b1, b2, if_true, Bool.false_and, Bool.and_false]
    split <;> simp
  · have b1 : decide (1 ≤ e.count) = true := decide_eq_true (by omega)
    simp only [decide_eq_false t7, b1, Bool.false_eq_true, if_false, Bool.true_and]
    split
    · rfl
    · split
      · cases (e.count == 1) <;> cases decide (1 ≤ e.many) <;> simp
      · rfl
end Go.Proofs.Ytfcadbeamojdpaa
