/- Proved here: the contract of the laws' anchor of frame: it answers true. -/
import Derived.Test.YtfcadbeamojdpaaDecode
import Derived.Test.YtfcadbeamojdpaaNew
namespace Go.Proofs.Ytfcadbeamojdpaa
open Go.RowKit Go.Rv Frm
set_option linter.unusedVariables false
theorem dec_zeros : decF (List.replicate 64 0) = (Fr.zero, 11) := by
  have h : ¬ (List.replicate 64 0 : List Nat).drop 60 = Crc.le4 (Crc.sum ((List.replicate 64 0 : List Nat).take 60)) := by
    intro h
    have h2 : decide ((List.replicate 64 0 : List Nat).drop 60 = Crc.le4 (Crc.sum ((List.replicate 64 0 : List Nat).take 60))) = true := decide_eq_true h
    have h3 : decide ((List.replicate 64 0 : List Nat).drop 60 = Crc.le4 (Crc.sum ((List.replicate 64 0 : List Nat).take 60))) = false := by kernel_rfl
    rw [h3] at h2
    cases h2
  unfold decF
  rw [if_neg h]
theorem body_zeros : Body (List.replicate 44 0) := ⟨by simp, by simp⟩
set_option maxRecDepth 100000 in
set_option maxHeartbeats 400000 in
theorem fr_anchor (w : World) : Calls Try.prog 15 #[] w fun e w' => e = .returned (.bool true) ∧ Below w.heap.size w w' := by
  obtain ⟨af, haf⟩ : ∃ f : Fr, f = ⟨3, 0, 0, 1, 0, List.replicate 44 0⟩ := ⟨_, rfl⟩
  have hba : Body af.body := by rw [haf]; exact body_zeros
  have hra : rightF af = true := by rw [haf]; rfl
  have hzT := (zero_of_info Try.infoTab).1
  have hzF := (zero_of_info Try.infoFrame).1
  have hzS := (zero_of_info Try.infoSector).1
  have hIT := Lib.hid size_tab
  have hST := Lib.hid (show Tb.zero.size = Tb.tabV.size by rw [Tb.size_zero, Tb.size_tabV])
  have h1T := Lib.hid Tb.one_tabV
  have hIF := Lib.hid (size_frm (f := Fr.zero) (by simp [Fr.zero]))
  have h1F := Lib.hid (FC_one Fr.zero)
  have hIS := Lib.hid (size_sec (sector_length hba))
  have hSS := Lib.hid (show (byteCells (List.replicate 64 0)).size = (byteCells (sectorOf af)).size by rw [size_byteCells, size_byteCells, sector_length hba]; simp)
  have h1S := Lib.hid (one_byteCells (sectorOf af))
  have HD := Lib.hid (fun W => decode_any (List.replicate 64 0) W (by simp) (by simp))
  rw [dec_zeros] at HD
  have HE := Lib.hid (fun W => encode_yes af W hba hra)
  have hq : ((FC Fr.zero).setIfInBounds 0 (.int .i64 3)).setIfInBounds 3 (.int .i64 1) = FC af := by rw [(FC_sets _ _).1, (FC_sets _ _).2.2.2.1, haf]; rfl
  have hze : ¬ FC Fr.zero = #[] := by
    intro h
    have : (FC Fr.zero).size = 49 := by rw [FC_size]; simp [Fr.zero]
    rw [h] at this
    simp at this
  have hz4 : ¬ (FC Fr.zero).size < 4 := by rw [FC_size]; omega
  unfold FrmPost at HD
  unfold SecPost at HE
  have HN := Lib.hid (fun W => new_any W)
  clear haf hba hra
  generalize Tb.tabV = TV at *
  generalize Tb.zero = TZ at *
  generalize byteCells (List.replicate 64 0) = ZS at *
  generalize FC Fr.zero = ZF at *
  generalize byteCells (sectorOf af) = SS at *
  generalize FC af = AF at *
  go_enter Try.func15, Try.ntmps15
  go_wp2_with fail
  refine (HN.out _).mono ?_
  rintro e w1 ⟨rfl, hB1⟩
  have hB1' := hB1.alloc hB1.size (.cells TV 28)
  have hG1 := heap_alloc_new w1 (.cells TV 28)
  have z1 := (Array.getElem?_eq_some_iff.1 hG1).1
  go_wp2_with (first | (refine wpList_store_row rfl 28 _ _ rfl w1.heap.size TV rfl rfl 28 TZ (heap_alloc_new w1 _) hIT.out hST.out h1T.out ?_; rw [World.setRow_alloc_new]) | (refine wpList_load_row rfl 28 _ rfl w1.heap.size rfl 28 _ _ _ hG1 Try.underlying28 rfl hIT.out ?_) | (go_at_call 18; refine (HD.out _).mono ?_; rintro e w2 ⟨rfl, hB2⟩; have hG2 := (hB2.block _ z1).trans hG1; have hB2' := hB1'.trans (hB2.mono hB1'.size); have z2 := (Array.getElem?_eq_some_iff.1 hG2).1; have hG3 := (((Below.refl w2.heap.size w2).alloc (Nat.le_refl _) (.cells ZF 24)).block _ z2).trans hG2; have hB3 := hB2'.alloc hB2'.size (.cells ZF 24); have z3 := (Array.getElem?_eq_some_iff.1 hG3).1) | (refine wpList_store_row rfl 24 _ _ rfl w2.heap.size ZF rfl rfl 24 ZF (heap_alloc_new w2 _) hIF.out rfl h1F.out ?_; rw [World.setRow_alloc_new]) | (refine wpList_load_row rfl 28 _ rfl w1.heap.size rfl 28 _ _ _ hG3 Try.underlying28 rfl hIT.out ?_) | (go_at_call 17; refine (HE.out _).mono ?_; rintro e w4 ⟨rfl, hB4⟩; have hB4' := hB3.trans (hB4.mono hB3.size)) | (refine wpList_store_row rfl 31 _ _ rfl w4.heap.size SS rfl rfl 31 ZS (heap_alloc_new w4 _) hIS.out hSS.out h1S.out ?_; rw [World.setRow_alloc_new]))
  go_ret
  exact ⟨rfl, hB4'.alloc hB4'.size _⟩
end Go.Proofs.Ytfcadbeamojdpaa
