/- Proved here: the contract of the frame's At. -/
import Derived.Test.YtfcadbeamojdpaaDecode
namespace Go.Proofs.Ytfcadbeamojdpaa
open Go.RowKit Go.Rv Frm
set_option linter.unusedVariables false
/-- what a place's sector says -/
def atF (s : List Nat) (zone off : Int) : Fr × Int :=
  if (decF s).2 ≠ 0 then (Fr.zero, (decF s).2) else if (decF s).1.zone ≠ zone ∨ (decF s).1.off ≠ off then (Fr.zero, 12) else ((decF s).1, 0)
theorem dec_body (s : List Nat) (hl : s.length = 64) : (decF s).1.body.length = 44 := by
  unfold decF
  split
  · split
    · simp only [parseF]; simp; omega
    · simp [Fr.zero]
  · simp [Fr.zero]
set_option maxRecDepth 100000 in
set_option maxHeartbeats 1000000 in
theorem at_core (s : List Nat) (f : Fr) (e : Int) (zone off : Int) (r : Fr × Int) (w : World) (hl : s.length = 64) (hf : f.body.length = 44)
    (HD : ∀ W, Calls Try.prog 18 #[.agg Tb.tabV, .agg (byteCells s)] W fun x w' => x = .returned (.tuple #[.agg (FC f), .int .i64 e]) ∧ Below W.heap.size W w')
    (hr : ((e != 0) = true ∧ r = (Fr.zero, e)) ∨ ((e != 0) = false ∧ (f.zone != zone) = true ∧ r = (Fr.zero, 12)) ∨ ((e != 0) = false ∧ (f.zone != zone) = false ∧ (f.off != off) = true ∧ r = (Fr.zero, 12)) ∨ ((e != 0) = false ∧ (f.zone != zone) = false ∧ (f.off != off) = false ∧ r = (f, 0))) :
    Calls Try.prog 25 #[.agg Tb.tabV, .agg (byteCells s), .int .i64 zone, .int .i64 off] w (FrmPost r w) := by
  have hz := (zero_of_info Try.infoFrame).1
  have h1Z := Lib.hid (FC_one Fr.zero)
  have HIZ := Lib.hid (size_frm (f := Fr.zero) (by simp [Fr.zero]))
  have HIF := Lib.hid (size_frm hf)
  have h1F := Lib.hid (FC_one f)
  have HSZ := Lib.hid (show (FC Fr.zero).size = (FC f).size by rw [FC_size, FC_size, hf]; simp [Fr.zero])
  have HIT := Lib.hid size_tab
  have HIS := Lib.hid (size_sec hl)
  have HD := Lib.hid HD
  have HR := Lib.hid hr
  obtain ⟨hT0, hS0, hF0⟩ := alloc3_at w (.cells Tb.tabV 28) (.cells (byteCells s) 31) (.cells (FC Fr.zero) 24)
  have hB0 := below3 w (.cells Tb.tabV 28) (.cells (byteCells s) 31) (.cells (FC Fr.zero) 24)
  clear hr hl
  have hg := fun (W : World) (g : Nat) (h : W.heap[g]? = some (.cells (FC f) 24 (0, 0))) => frame_cells h
  have HZ0 := Lib.hid (show FC Fr.zero = FC Fr.zero from rfl)
  obtain ⟨ZF, hZF⟩ : ∃ Z, FC Fr.zero = Z := ⟨_, rfl⟩
  obtain ⟨FA, hFA⟩ : ∃ Z, FC f = Z := ⟨_, rfl⟩
  have HZF := Lib.hid hZF
  have HFA := Lib.hid hFA
  rw [hZF] at hz h1Z HIZ HSZ hF0 hB0 hT0 hS0
  rw [hFA] at HIF h1F HSZ HD hg
  clear hZF hFA HZ0
  have HG := Lib.hid hg
  clear hg
  generalize byteCells s = SC at *
  generalize Tb.tabV = TV at *
  go_enter Try.func25, Try.ntmps25
  go_wp2_with (first | (refine wpList_load_row rfl 28 _ rfl w.heap.size rfl 28 _ _ _ hT0 Try.underlying28 rfl HIT.out ?_) | (refine wpList_load_row rfl 31 _ rfl (w.heap.size + 1) rfl 31 _ _ _ hS0 Try.underlying31 rfl HIS.out ?_))
  refine (HD.out _).mono ?_
  rintro x w1 ⟨rfl, hB1⟩
  have hF1 := (hB1.block (w.heap.size + 1 + 1) (by simp)).trans hF0
  have hB1' := hB0.trans (hB1.mono (by simp; omega))
  have z1 := (Array.getElem?_eq_some_iff.1 hF1).1
  have hba := (Below.refl w1.heap.size w1).alloc (Nat.le_refl _) (.cells FA 24)
  have hF2 := (hba.block _ z1).trans hF1
  have hG2 := heap_alloc_new w1 (.cells FA 24)
  have hB2 := hB1'.trans (hba.mono hB1'.size)
  obtain ⟨-, d1, d2, -, -⟩ := HG.out _ _ hG2
  clear hT0 hS0 hF0 hF1 hB0 hB1 hB1' hba
  rcases HR.out with ⟨t1, rfl⟩ | ⟨t1, t2, rfl⟩ | ⟨t1, t2, t3, rfl⟩ | ⟨t1, t2, t3, rfl⟩
  · clear HR
    go_wp2_with (first | (refine wpList_store_row rfl 24 _ _ rfl w1.heap.size FA rfl rfl 24 ZF (heap_alloc_new w1 _) HIF.out HSZ.out h1F.out ?_; rw [World.setRow_alloc_new]) | (refine wpList_store_row rfl 24 _ _ rfl (w.heap.size + 1 + 1) ZF rfl rfl 24 ZF hF2 HIZ.out rfl h1Z.out ?_))
    refine bodyPost_ret (results_row_tmp rfl _ _ (w.heap.size + 1 + 1) 24 ZF _ _ rfl (setRow_heap _ _ _ _ _ _ hF2) Try.underlying24 rfl HIZ.out) rfl ?_
    exact ⟨by rw [HZF.out]; rfl, below_setRow hB2 (by omega) _⟩
  · clear HR
    go_wp2_with (first | (refine wpList_store_row rfl 24 _ _ rfl w1.heap.size FA rfl rfl 24 ZF (heap_alloc_new w1 _) HIF.out HSZ.out h1F.out ?_; rw [World.setRow_alloc_new]) | (refine wpList_store_row rfl 24 _ _ rfl (w.heap.size + 1 + 1) ZF rfl rfl 24 ZF hF2 HIZ.out rfl h1Z.out ?_))
    refine bodyPost_ret (results_row_tmp rfl _ _ (w.heap.size + 1 + 1) 24 ZF _ _ rfl (setRow_heap _ _ _ _ _ _ hF2) Try.underlying24 rfl HIZ.out) rfl ?_
    exact ⟨by rw [HZF.out]; rfl, below_setRow hB2 (by omega) _⟩
  · clear HR
    go_wp2_with (first | (refine wpList_store_row rfl 24 _ _ rfl w1.heap.size FA rfl rfl 24 ZF (heap_alloc_new w1 _) HIF.out HSZ.out h1F.out ?_; rw [World.setRow_alloc_new]) | (refine wpList_store_row rfl 24 _ _ rfl (w.heap.size + 1 + 1) ZF rfl rfl 24 ZF hF2 HIZ.out rfl h1Z.out ?_))
    refine bodyPost_ret (results_row_tmp rfl _ _ (w.heap.size + 1 + 1) 24 ZF _ _ rfl (setRow_heap _ _ _ _ _ _ hF2) Try.underlying24 rfl HIZ.out) rfl ?_
    exact ⟨by rw [HZF.out]; rfl, below_setRow hB2 (by omega) _⟩
  · clear HR
    go_wp2_with (first | (refine wpList_store_row rfl 24 _ _ rfl w1.heap.size FA rfl rfl 24 ZF (heap_alloc_new w1 _) HIF.out HSZ.out h1F.out ?_; rw [World.setRow_alloc_new]) | (refine wpList_load_row rfl 24 _ rfl w1.heap.size rfl 24 _ _ _ hG2 Try.underlying24 rfl HIF.out ?_) | (refine wpList_store_row rfl 24 _ _ rfl (w.heap.size + 1 + 1) FA rfl rfl 24 ZF hF2 HIF.out HSZ.out h1F.out ?_))
    refine bodyPost_ret (results_row_tmp rfl _ _ (w.heap.size + 1 + 1) 24 FA _ _ rfl (setRow_heap _ _ _ _ _ _ hF2) Try.underlying24 rfl HIF.out) rfl ?_
    exact ⟨by rw [HFA.out]; rfl, below_setRow hB2 (by omega) _⟩
theorem at_any (s : List Nat) (zone off : Int) (w : World) (hl : s.length = 64) (hs : ∀ c ∈ s, c < 256) :
    Calls Try.prog 25 #[.agg Tb.tabV, .agg (byteCells s), .int .i64 zone, .int .i64 off] w (FrmPost (atF s zone off) w) := by
  refine at_core s (decF s).1 (decF s).2 zone off _ w hl (dec_body s hl) (fun W => decode_any s W hl hs) ?_
  unfold atF
  by_cases h : (decF s).2 = 0
  · rw [if_neg (by rw [h]; simp)]
    by_cases h2 : (decF s).1.zone = zone
    · by_cases h3 : (decF s).1.off = off
      · exact .inr (.inr (.inr ⟨by rw [h]; rfl, by rw [h2]; simp, by rw [h3]; simp, by rw [if_neg (by rw [h2, h3]; simp)]⟩))
      · exact .inr (.inr (.inl ⟨by rw [h]; rfl, by rw [h2]; simp, by simp [h3], by rw [if_pos (.inr h3)]⟩))
    · exact .inr (.inl ⟨by rw [h]; rfl, by simp [h2], by rw [if_pos (.inl h2)]⟩)
  · exact .inl ⟨by simp [h], by rw [if_pos h]⟩
end Go.Proofs.Ytfcadbeamojdpaa
