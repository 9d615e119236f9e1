/- Proved here: the contract of the entry of a frame (Read). -/
import Derived.Test.YtfcadbeamojdpaaEnOf
namespace Go.Proofs.Ytfcadbeamojdpaa
open Go.RowKit Go.Rv Frm
set_option linter.unusedVariables false
/-- a frame's entry, and an error -/
def readE (f : Fr) : En.E × Int :=
  if (En.ofE f.kind f.body).2 ≠ 0 then (En.E.zero, (En.ofE f.kind f.body).2)
  else if (frameE (En.ofE f.kind f.body).1 f.zone f.off f.epoch f.seq).2 ≠ 0 then (En.E.zero, (frameE (En.ofE f.kind f.body).1 f.zone f.off f.epoch f.seq).2)
  else ((En.ofE f.kind f.body).1, 0)
theorem ofE_body {kind : Int} {b : List Nat} (hl : b.length = 44) (hb : ∀ c ∈ b, c < 256) : EBody (En.ofE kind b).1 := by
  unfold En.ofE
  split
  · exact parse_ebody hl hb
  · exact ⟨by simp [En.E.zero], by simp [En.E.zero]⟩
theorem frame_range {w : World} {g : Nat} {f : Fr} {t : TypeId} (h : w.heap[g]? = some (.cells (FC f) t (0, 0))) : w.rangeAt g 5 (byteCells f.body).toList := fun j v hv => by
  have hj : j < f.body.length := by
    have := (List.getElem?_eq_some_iff.1 hv).1
    rwa [Array.length_toList, size_byteCells] at this
  rw [cell_of_row _ _ _ _ _ _ h, FC_body f j hj, ← hv, Array.getElem?_toList, byteCells_at _ _ hj]
set_option maxRecDepth 100000 in
set_option maxHeartbeats 2000000 in
theorem eread_any (f : Fr) (w : World) (hb : Body f.body) :
    Calls Try.prog 37 #[.agg (FC f)] w (EntPost (readE f) w) := by
  have hz := (zero_of_info Try.infoEntry).1
  have hzf := (zero_of_info Try.infoFrame).1
  have HIZ := Lib.hid (size_ent (e := En.E.zero) (by simp [En.E.zero]))
  have hone := EC_one En.E.zero
  have HBZ := Lib.hid built_ent0
  have HEB := Lib.hid (ofE_body (kind := f.kind) hb.1 hb.2)
  obtain ⟨r, hr⟩ : ∃ r, En.ofE f.kind f.body = r := ⟨_, rfl⟩
  have HOF : Hid (∀ W, Calls Try.prog 34 #[.int .i64 f.kind, .agg (byteCells f.body).toList.toArray] W fun x w' => x = .returned (.tuple #[.agg (EC r.1), .int .i64 r.2]) ∧ Below W.heap.size W w') := Lib.hid (fun W => by rw [Array.toArray_toList, ← hr]; exact eof_any f.kind f.body W hb.1 hb.2)
  have HRE : Hid (readE f = if r.2 ≠ 0 then (En.E.zero, r.2) else if (frameE r.1 f.zone f.off f.epoch f.seq).2 ≠ 0 then (En.E.zero, (frameE r.1 f.zone f.off f.epoch f.seq).2) else (r.1, 0)) := Lib.hid (by unfold readE; rw [hr])
  have hEB := HEB.out
  rw [hr] at hEB
  have HFR := Lib.hid (fun W => eframe_any r.1 f.zone f.off f.epoch f.seq W hEB)
  have HIE := Lib.hid (size_ent (e := r.1) hEB.1)
  have HSZ : Hid ((EC En.E.zero).size = (EC r.1).size) := Lib.hid (by rw [EC_size, EC_size, hEB.1]; rfl)
  have honeR := EC_one r.1
  have HIL : Hid ((Try.prog.info? 22).map (·.size) = some (byteCells f.body).toList.length) := Lib.hid (by rw [Array.length_toList]; exact size_body hb.1)
  have hF0 := heap_alloc2_old w (.cells (FC f) 24) (.cells (EC En.E.zero) 55)
  have hR0 := heap_alloc2_new w (.cells (FC f) 24) (.cells (EC En.E.zero) 55)
  have hB0 : Below w.heap.size w ((w.alloc (.cells (FC f) 24)).alloc (.cells (EC En.E.zero) 55)) := ((Below.refl _ w).alloc (Nat.le_refl _) _).alloc (by simp) _
  obtain ⟨c0, c1, c2, c3, c4⟩ := frame_cells hF0
  have hmid := frame_range hF0
  have HFC := Lib.hid (fun (W : World) (h : W.heap[w.heap.size]? = some (.cells (FC f) 24 (0, 0))) => frame_cells h)
  obtain ⟨Z, hZ⟩ : ∃ Z, EC En.E.zero = Z := ⟨_, rfl⟩
  obtain ⟨C, hC⟩ : ∃ C, FC f = C := ⟨_, rfl⟩
  obtain ⟨X, hX⟩ : ∃ X, EC r.1 = X := ⟨_, rfl⟩
  obtain ⟨BL, hBL⟩ : ∃ BL, (byteCells f.body).toList = BL := ⟨_, rfl⟩
  rw [hZ] at hz hone HIZ HBZ hF0 hR0 hB0 HSZ c0 c1 c2 c3 c4 hmid
  rw [hC] at hF0 hR0 hB0 HFC c0 c1 c2 c3 c4 hmid ⊢
  rw [hX] at HOF HFR HIE HSZ honeR
  rw [hBL] at HOF HIL hmid
  have HZ := Lib.hid hZ
  have HX := Lib.hid hX
  clear hZ hC hX hBL hr hEB HEB hb
  unfold FrmPost at HFR
  have z0 : w.heap.size + 1 < ((w.alloc (.cells C 24)).alloc (.cells Z 55)).heap.size := by simp
  go_enter Try.func37, Try.ntmps37
  go_wp2_with (refine wpList_load_mid_asked (by rfl) 22 _ rfl w.heap.size 5 rfl BL _ hmid Try.underlying22 rfl HIL.out ?_)
  refine (HOF.out _).mono ?_
  rintro x w1 ⟨rfl, hB1⟩
  have hF1 := (hB1.block w.heap.size (by omega)).trans hF0
  have hS1 := (hB1.block (w.heap.size + 1) z0).trans hR0
  have hBw1 := hB0.trans (hB1.mono (by omega))
  have z1 : w.heap.size + 1 < w1.heap.size := (Array.getElem?_eq_some_iff.1 hS1).1
  obtain ⟨W2, hW2⟩ : ∃ W2, w1.alloc (.cells X 55) = W2 := ⟨_, rfl⟩
  have hb2 : Below w1.heap.size w1 W2 := by rw [← hW2]; exact (Below.refl _ _).alloc (Nat.le_refl _) _
  have hG2 : W2.heap[w1.heap.size]? = some (.cells X 55 (0, 0)) := by rw [← hW2]; exact heap_alloc_new w1 _
  have hF2 := (hb2.block w.heap.size (by omega)).trans hF1
  have hS2 := (hb2.block (w.heap.size + 1) z1).trans hS1
  have hBw2 := hBw1.trans (hb2.mono hBw1.size)
  have z2 : w1.heap.size < W2.heap.size := (Array.getElem?_eq_some_iff.1 hG2).1
  have HW2 := Lib.hid hW2
  clear hb2 hW2 hF1 hS1 hBw1 hB1 hF0 hR0 hB0 hmid c0 c1 c2 c3 c4
  obtain ⟨r1, r2⟩ := r
  by_cases hr2 : r2 = 0
  · subst hr2
    obtain ⟨d0, d1, d2, d3, d4⟩ := HFC.out _ hF2
    go_upto_region 2 with (refine wpList_store_row rfl 55 _ _ rfl w1.heap.size X rfl rfl 55 Z (heap_alloc_new w1 _) HIE.out HSZ.out honeR ?_; rw [World.setRow_alloc_new, HW2.out])
    go_wp2_with (refine wpList_load_row rfl 55 _ rfl w1.heap.size rfl 55 _ _ _ hG2 Try.underlying55 rfl HIE.out ?_)
    refine (HFR.out _).mono ?_
    rintro x w3 ⟨rfl, hB3⟩
    have hS3 := (hB3.block (w.heap.size + 1) (by omega)).trans hS2
    have hG3 := (hB3.block w1.heap.size z2).trans hG2
    have hBw3 := hBw2.trans (hB3.mono hBw2.size)
    obtain ⟨q, hq⟩ : ∃ q, frameE r1 f.zone f.off f.epoch f.seq = q := ⟨_, rfl⟩
    rw [hq] at HRE ⊢
    obtain ⟨q1, q2⟩ := q
    by_cases hq2 : q2 = 0
    · subst hq2
      have HRR : Hid (readE f = (r1, 0)) := Lib.hid (by have := HRE.out; simpa using this)
      clear hq hB3 HRE
      go_wp2_with (first | (refine wpList_load_row rfl 55 _ rfl w1.heap.size rfl 55 _ _ _ hG3 Try.underlying55 rfl HIE.out ?_) | (refine wpList_store_row rfl 55 _ _ rfl (w.heap.size + 1) X rfl rfl 55 Z hS3 HIE.out HSZ.out honeR ?_))
      refine bodyPost_ret (results_row_tmp rfl _ _ (w.heap.size + 1) 55 X _ _ rfl (setRow_heap _ _ _ _ _ _ hS3) Try.underlying55 rfl HIE.out) rfl ?_
      exact ⟨by rw [HRR.out, HX.out]; rfl, below_setRow hBw3 (by omega) _⟩
    · have HRR : Hid (readE f = (En.E.zero, q2)) := Lib.hid (by have := HRE.out; simpa [hq2] using this)
      have t1 : (q2 != 0) = true := by simpa using hq2
      clear hq hB3 HRE hq2
      go_wp2_with (first | (refine wpList_build_asked (by rfl) 55 _ rfl #[] (by rfl) Z HBZ.out ?_) | (refine wpList_store_row rfl 55 _ _ rfl (w.heap.size + 1) Z rfl rfl 55 Z hS3 HIZ.out rfl hone ?_))
      refine bodyPost_ret (results_row_tmp rfl _ _ (w.heap.size + 1) 55 Z _ _ rfl (setRow_heap _ _ _ _ _ _ hS3) Try.underlying55 rfl HIZ.out) rfl ?_
      exact ⟨by rw [HRR.out, HZ.out]; rfl, below_setRow hBw3 (by omega) _⟩
  · have HRR : Hid (readE f = (En.E.zero, r2)) := Lib.hid (by have := HRE.out; simpa [hr2] using this)
    have t1 : (r2 != 0) = true := by simpa using hr2
    clear HRE hr2
    go_upto_region 2 with (refine wpList_store_row rfl 55 _ _ rfl w1.heap.size X rfl rfl 55 Z (heap_alloc_new w1 _) HIE.out HSZ.out honeR ?_; rw [World.setRow_alloc_new, HW2.out])
    go_wp2_with (first | (refine wpList_build_asked (by rfl) 55 _ rfl #[] (by rfl) Z HBZ.out ?_) | (refine wpList_store_row rfl 55 _ _ rfl (w.heap.size + 1) Z rfl rfl 55 Z hS2 HIZ.out rfl hone ?_))
    refine bodyPost_ret (results_row_tmp rfl _ _ (w.heap.size + 1) 55 Z _ _ rfl (setRow_heap _ _ _ _ _ _ hS2) Try.underlying55 rfl HIZ.out) rfl ?_
    exact ⟨by rw [HRR.out, HZ.out]; rfl, below_setRow hBw2 (by omega) _⟩
end Go.Proofs.Ytfcadbeamojdpaa
