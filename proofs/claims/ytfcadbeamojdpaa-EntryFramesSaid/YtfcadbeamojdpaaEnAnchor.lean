/- Proved here: the document's example of an entry. -/
import Derived.Test.YtfcadbeamojdpaaEnFrame
namespace Go.Proofs.Ytfcadbeamojdpaa
open Go.RowKit Go.Rv Frm
set_option linter.unusedVariables false
def ent0 : En.E := ⟨2, 5, 1, 9, 1, 0, List.replicate 32 0⟩
theorem ebody0 : EBody ent0 := ⟨by simp [ent0], by simp [ent0]⟩
theorem eright0 : En.right ent0 = true := by kernel_rfl
theorem eframe0 : frameE ent0 3 4 1 5 = (⟨2, 3, 4, 1, 5, En.body ent0⟩, 0) := by
  unfold frameE
  rw [if_pos ⟨eright0, by kernel_rfl, by decide, by decide⟩]
  rfl
set_option maxRecDepth 100000 in
set_option maxHeartbeats 2000000 in
theorem en_anchor (w : World) : Calls Try.prog 27 #[] w fun e w' => e = .returned (.bool true) ∧ Below w.heap.size w w' := by
  have hzE := (zero_of_info Try.infoEntry).1
  have hzF := (zero_of_info Try.infoFrame).1
  have HBU' : Try.prog.built 55 [(0, .int .i64 2), (1, .int .i64 5), (2, .int .i64 1), (3, .int .i64 9), (4, .int .i64 1)] = some (EC ent0) := by kernel_rfl
  have HIE := Lib.hid (size_ent ebody0.1)
  have H1E := Lib.hid (EC_one ent0)
  have HZE' : (EC En.E.zero).size = (EC ent0).size := by rw [EC_size, EC_size]; rfl
  obtain ⟨F0, hF0⟩ : ∃ F : Fr, (⟨2, 3, 4, 1, 5, En.body ent0⟩ : Fr) = F := ⟨_, rfl⟩
  have hfl : F0.body.length = 44 := by rw [← hF0]; exact En.body_length ebody0.1
  have HIF := Lib.hid (size_frm hfl)
  have H1F := Lib.hid (FC_one F0)
  have HZF' : (FC Fr.zero).size = (FC F0).size := by rw [FC_size, FC_size, hfl]; simp [Fr.zero]
  have HFR := Lib.hid (fun W => eframe_any ent0 3 4 1 5 W ebody0)
  rw [eframe0, hF0] at HFR
  unfold FrmPost at HFR
  have HCF := Lib.hid (fun (W : World) (g : Nat) (h : W.heap[g]? = some (.cells (FC F0) 24 (0, 0))) => (show W.cell? ⟨g, 4, none⟩ = some (.int .i64 5) ∧ W.cell? ⟨g, 0, none⟩ = some (.int .i64 2) by
    obtain ⟨d0, -, -, -, d4⟩ := frame_cells h
    rw [← hF0] at d0 d4
    exact ⟨d4, d0⟩))
  have HRI := Lib.hid (fun W => eright_any ent0 W ebody0)
  rw [eright0] at HRI
  have HFI := Lib.hid (fun W => efill_any 7 W (by omega))
  have hidx : ∀ W, (Instr.index 53 (.agg (byteCells (List.replicate 32 7))) (.int .i64 31)).run Try.prog W = .ok (.int .u8 7) W := fun W => by kernel_rfl
  clear hF0 hfl
  generalize EC ent0 = C at *
  generalize EC En.E.zero = ZE at *
  generalize FC F0 = X at *
  generalize FC Fr.zero = ZF at *
  generalize byteCells (List.replicate 32 7) = B7 at *
  have HBU := Lib.hid HBU'
  have HZE := Lib.hid HZE'
  have HZF := Lib.hid HZF'
  clear HBU' HZE' HZF'
  have hB0 := (Below.refl w.heap.size w).alloc (Nat.le_refl _) (.cells C 55)
  have hE0 := heap_alloc_new w (.cells C 55)
  have z0 : (w.alloc (.cells C 55)).heap.size = w.heap.size + 1 := by simp
  obtain ⟨W0, hW0⟩ : ∃ W0, w.alloc (.cells C 55) = W0 := ⟨_, rfl⟩
  rw [hW0] at hB0 hE0 z0
  have HW0 := Lib.hid hW0
  clear hW0
  go_enter Try.func27, Try.ntmps27
  go_wp2_with (first | (refine wpList_build_asked (by rfl) 55 _ rfl #[(0, .int .i64 2), (1, .int .i64 5), (2, .int .i64 1), (3, .int .i64 9), (4, .int .i64 1)] (by simp [Act.eval, Act.put]) C HBU.out ?_) | (refine wpList_store_row rfl 55 _ _ rfl w.heap.size C rfl rfl 55 ZE (heap_alloc_new w _) HIE.out HZE.out H1E.out ?_; rw [World.setRow_alloc_new, HW0.out]) | (refine wpList_load_row rfl 55 _ rfl w.heap.size rfl 55 _ _ _ hE0 Try.underlying55 rfl HIE.out ?_))
  refine (HFR.out _).mono ?_
  rintro x w1 ⟨rfl, hB1⟩
  have hE1 := (hB1.block w.heap.size (by omega)).trans hE0
  have hBB1 := hB0.trans (hB1.mono (by omega))
  have z1 := hB1.size
  have hba := (Below.refl w1.heap.size w1).alloc (Nat.le_refl _) (.cells X 24)
  have hE2 := (hba.block w.heap.size (by omega)).trans hE1
  have hX2 := heap_alloc_new w1 (.cells X 24)
  have hBB2 := hBB1.trans (hba.mono (by omega))
  obtain ⟨W2, hW2⟩ : ∃ W2, w1.alloc (.cells X 24) = W2 := ⟨_, rfl⟩
  rw [hW2] at hE2 hX2 hBB2
  have HW2 := Lib.hid hW2
  obtain ⟨d4, d0⟩ := HCF.out _ _ hX2
  clear hW2 hba hE0 hE1 hB0 hBB1 hB1
  go_wp2_with (first | (refine wpList_store_row rfl 24 _ _ rfl w1.heap.size X rfl rfl 24 ZF (heap_alloc_new w1 _) HIF.out HZF.out H1F.out ?_; rw [World.setRow_alloc_new, HW2.out]) | (refine wpList_load_row_asked (by rfl) 55 _ rfl w.heap.size rfl 55 _ _ _ hE2 Try.underlying55 rfl HIE.out ?_))
  refine (HRI.out _).mono ?_
  rintro x w3 ⟨rfl, hB3⟩
  have hBB3 := hBB2.trans (hB3.mono hBB2.size)
  go_wp2_with fail
  refine (HFI.out _).mono ?_
  rintro x w4 ⟨rfl, hB4⟩
  go_wp2
  go_ret
  exact ⟨rfl, hBB3.trans (hB4.mono hBB3.size)⟩
end Go.Proofs.Ytfcadbeamojdpaa
