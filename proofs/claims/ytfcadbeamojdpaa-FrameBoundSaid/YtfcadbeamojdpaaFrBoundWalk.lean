/- Proved here: the walk of the law on a frame's own place. -/
import Derived.Test.YtfcadbeamojdpaaFrUnlikeWalk
import Derived.Test.YtfcadbeamojdpaaAt
import Derived.Test.YtfcadbeamojdpaaAsked
namespace Go.Proofs.Ytfcadbeamojdpaa
open Go.RowKit Go.Rv Frm
set_option linter.unusedVariables false
theorem at_sector (f : Fr) (zone off : Int) (hr : rightF f = true) (hb : Body f.body) : atF (sectorOf f) zone off = if f.zone ≠ zone ∨ f.off ≠ off then (Fr.zero, 12) else (f, 0) := by
  unfold atF
  rw [dec_sector hr hb]
  rfl
set_option maxRecDepth 100000 in
set_option maxHeartbeats 1000000 in
theorem fr_bound_core (A SA X ZF : Array Value) (fz fo ea g zone off : Int) (w : World)
    (hIA : (Try.prog.info? 24).map (·.size) = some A.size) (hIX : (Try.prog.info? 24).map (·.size) = some X.size) (hIZ : (Try.prog.info? 24).map (·.size) = some ZF.size)
    (hIS : (Try.prog.info? 31).map (·.size) = some SA.size)
    (h1S : SA.all (·.oneCell') = true) (h1X : X.all (·.oneCell') = true)
    (hzF : ∀ w : World, (zeroValue 24).run Try.prog w = .ok (.agg ZF) w)
    (HEA : ∀ W, Calls Try.prog 17 #[.agg Tb.tabV, .agg A] W fun e w' => e = .returned (.tuple #[.agg SA, .int .i64 ea]) ∧ Below W.heap.size W w')
    (HAT : ∀ W, Calls Try.prog 25 #[.agg Tb.tabV, .agg SA, .int .i64 zone, .int .i64 off] W fun e w' => e = .returned (.tuple #[.agg X, .int .i64 g]) ∧ Below W.heap.size W w')
    (hG : ∀ (W : World) (b : Nat), W.heap[b]? = some (.cells A 24 (0, 0)) → W.cell? ⟨b, 1, none⟩ = some (.int .i64 fz) ∧ W.cell? ⟨b, 2, none⟩ = some (.int .i64 fo))
    (hfin : ea = 10 ∨ (ea = 0 ∧ (((zone == fz) = true ∧ (off == fo) = true ∧ g = 0 ∧ ∀ W, (Op.equalIn 10000 24 (.agg X) (.agg A)).run Try.prog W = .ok true W) ∨ (((zone == fz) = false ∨ ((zone == fz) = true ∧ (off == fo) = false)) ∧ g = 12 ∧ ∀ W, (Op.equalIn 10000 24 (.agg X) (.agg ZF)).run Try.prog W = .ok true W)))) :
    Calls Try.prog 8 #[.agg A, .int .i64 zone, .int .i64 off] w fun e w' => e = .returned (.bool true) ∧ Below w.heap.size w w' := by
  have hzT := (zero_of_info Try.infoTab).1
  have hzS := (zero_of_info Try.infoSector).1
  have HIT := Lib.hid size_tab
  have HST := Lib.hid (show Tb.zero.size = Tb.tabV.size by rw [Tb.size_zero, Tb.size_tabV])
  have H1T := Lib.hid Tb.one_tabV
  have HN := Lib.hid (fun W => new_any W)
  have hZ0 := (zero_of_info Try.infoSector).2
  have HZA := Lib.hid (show (byteCells (List.replicate 64 0)).size = SA.size by rw [size_byteCells]; rw [hZ0] at hIS; simpa using hIS)
  have HZX := Lib.hid (show ZF.size = X.size by rw [hIZ] at hIX; simpa using hIX)
  have HIA := Lib.hid hIA
  have HIX := Lib.hid hIX
  have HIS := Lib.hid hIS
  have HEA := Lib.hid HEA
  have HAT := Lib.hid HAT
  have H1S := Lib.hid h1S
  have H1X := Lib.hid h1X
  have HG := Lib.hid hG
  have HFIN := Lib.hid hfin
  clear hIA hIX hIZ hIS h1S h1X hfin hZ0 hG
  generalize byteCells (List.replicate 64 0) = ZS at *
  generalize Tb.tabV = TV at *
  generalize Tb.zero = TZ at *
  have hB0 := (Below.refl w.heap.size w).alloc (Nat.le_refl _) (.cells A 24)
  have hA0 := heap_alloc_new w (.cells A 24)
  go_enter Try.func8, Try.ntmps8
  go_wp2_with (first | (go_at_call 15; refine (fr_anchor _).mono ?_; rintro e w1 ⟨rfl, hB1⟩))
  have s0 : (w.alloc (.cells A 24)).heap.size = w.heap.size + 1 := by simp
  have hA1 := (hB1.block w.heap.size (by rw [s0]; omega)).trans hA0
  have hB1' := hB0.trans (hB1.mono hB0.size)
  have z1 := hB1.size
  rw [s0] at z1
  go_wp2_with fail
  refine (HN.out _).mono ?_
  rintro e w2 ⟨rfl, hB2⟩
  have hA2 := (hB2.block w.heap.size (by omega)).trans hA1
  have hB2' := hB1'.trans (hB2.mono hB1'.size)
  have z2 := hB2.size
  have hB3 := hB2'.alloc hB2'.size (.cells TV 28)
  have hA3 := (((Below.refl w2.heap.size w2).alloc (Nat.le_refl _) (.cells TV 28)).block w.heap.size (by omega)).trans hA2
  have hT3 := heap_alloc_new w2 (.cells TV 28)
  have z3 : (w2.alloc (.cells TV 28)).heap.size = w2.heap.size + 1 := by simp
  go_wp2_with (first | (refine wpList_store_row rfl 28 _ _ rfl w2.heap.size TV rfl rfl 28 TZ (heap_alloc_new w2 _) HIT.out HST.out H1T.out ?_; rw [World.setRow_alloc_new]) | (refine wpList_load_row rfl 28 _ rfl (w2.heap.size) rfl 28 _ _ _ hT3 Try.underlying28 rfl HIT.out ?_) | (refine wpList_load_row rfl 24 _ rfl (w.heap.size) rfl 24 _ _ _ hA3 Try.underlying24 rfl HIA.out ?_))
  refine (HEA.out _).mono ?_
  rintro e w4 ⟨rfl, hB4⟩
  have hA4 := (hB4.block w.heap.size (by omega)).trans hA3
  have hT4 := (hB4.block w2.heap.size (by omega)).trans hT3
  have hB4' := hB3.trans (hB4.mono hB3.size)
  have z4 := hB4.size
  rw [z3] at z4
  have hB5 := hB4'.alloc hB4'.size (.cells SA 31)
  have hbw := (Below.refl w4.heap.size w4).alloc (Nat.le_refl _) (.cells SA 31)
  have hA5 := (hbw.block w.heap.size (by omega)).trans hA4
  have hT5 := (hbw.block w2.heap.size (by omega)).trans hT4
  have hS5 := heap_alloc_new w4 (.cells SA 31)
  have z5 : (w4.alloc (.cells SA 31)).heap.size = w4.heap.size + 1 := by simp
  clear hA0 hA1 hA2 hA3 hT3 hA4 hT4 hbw hB0 hB1 hB1' hB2 hB2' hB3 hB4 hB4'
  rcases HFIN.out with rfl | ⟨rfl, hrest⟩
  · clear HFIN
    go_wp2_with (first | (refine wpList_store_row rfl 31 _ _ rfl w4.heap.size SA rfl rfl 31 ZS (heap_alloc_new w4 _) HIS.out HZA.out H1S.out ?_; rw [World.setRow_alloc_new]))
    go_ret
    exact ⟨rfl, hB5⟩
  · have HREST := Lib.hid hrest
    clear HFIN hrest
    go_wp2_with (first | (refine wpList_store_row rfl 31 _ _ rfl w4.heap.size SA rfl rfl 31 ZS (heap_alloc_new w4 _) HIS.out HZA.out H1S.out ?_; rw [World.setRow_alloc_new]) | (refine wpList_load_row rfl 28 _ rfl (w2.heap.size) rfl 28 _ _ _ hT5 Try.underlying28 rfl HIT.out ?_) | (refine wpList_load_row rfl 31 _ rfl (w4.heap.size) rfl 31 _ _ _ hS5 Try.underlying31 rfl HIS.out ?_))
    refine (HAT.out _).mono ?_
    rintro e w6 ⟨rfl, hB6⟩
    have hA6 := (hB6.block w.heap.size (by omega)).trans hA5
    have hB6' := hB5.trans (hB6.mono hB5.size)
    have z6 := hB6.size
    rw [z5] at z6
    have hB7 := hB6'.alloc hB6'.size (.cells X 24)
    have hbw := (Below.refl w6.heap.size w6).alloc (Nat.le_refl _) (.cells X 24)
    have hA7 := (hbw.block w.heap.size (by omega)).trans hA6
    have hX7 := heap_alloc_new w6 (.cells X 24)
    obtain ⟨d1, d2⟩ := HG.out _ _ hA7
    clear hA5 hT5 hS5 hA6 hbw hB5 hB6 hB6'
    rcases HREST.out with ⟨t2, t3, rfl, hq⟩ | ⟨t2 | ⟨t2, t3⟩, rfl, hq⟩
    · have HQ := Lib.hid hq
      clear HREST hq
      go_wp2_with (first | (refine wpList_store_row rfl 24 _ _ rfl w6.heap.size X rfl rfl 24 ZF (heap_alloc_new w6 _) HIX.out HZX.out H1X.out ?_; rw [World.setRow_alloc_new]) | (refine wpList_load_row_asked (by rfl) 24 _ rfl (w6.heap.size) rfl 24 _ _ _ hX7 Try.underlying24 rfl HIX.out ?_) | (refine wpList_load_row_asked (by rfl) 24 _ rfl (w.heap.size) rfl 24 _ _ _ hA7 Try.underlying24 rfl HIA.out ?_) | (refine wpList_eql_asked (by rfl) 24 24 _ _ rfl X A rfl rfl (by kernel_rfl) true HQ.out ?_))
      go_ret
      exact ⟨rfl, hB7⟩
    · have HQ := Lib.hid hq
      clear HREST hq
      go_wp2_with (first | (refine wpList_store_row rfl 24 _ _ rfl w6.heap.size X rfl rfl 24 ZF (heap_alloc_new w6 _) HIX.out HZX.out H1X.out ?_; rw [World.setRow_alloc_new]) | (refine wpList_load_row_asked (by rfl) 24 _ rfl (w6.heap.size) rfl 24 _ _ _ hX7 Try.underlying24 rfl HIX.out ?_) | (refine wpList_load_row_asked (by rfl) 24 _ rfl (w.heap.size) rfl 24 _ _ _ hA7 Try.underlying24 rfl HIA.out ?_) | (refine wpList_eql_asked (by rfl) 24 24 _ _ rfl X ZF rfl rfl (by kernel_rfl) true HQ.out ?_))
      go_ret
      exact ⟨rfl, hB7⟩
    · have HQ := Lib.hid hq
      clear HREST hq
      go_wp2_with (first | (refine wpList_store_row rfl 24 _ _ rfl w6.heap.size X rfl rfl 24 ZF (heap_alloc_new w6 _) HIX.out HZX.out H1X.out ?_; rw [World.setRow_alloc_new]) | (refine wpList_load_row_asked (by rfl) 24 _ rfl (w6.heap.size) rfl 24 _ _ _ hX7 Try.underlying24 rfl HIX.out ?_) | (refine wpList_load_row_asked (by rfl) 24 _ rfl (w.heap.size) rfl 24 _ _ _ hA7 Try.underlying24 rfl HIA.out ?_) | (refine wpList_eql_asked (by rfl) 24 24 _ _ rfl X ZF rfl rfl (by kernel_rfl) true HQ.out ?_))
      go_ret
      exact ⟨rfl, hB7⟩
theorem at_body (s : List Nat) (zone off : Int) (hl : s.length = 64) : (atF s zone off).1.body.length = 44 := by
  unfold atF
  split
  · simp [Fr.zero]
  · split
    · simp [Fr.zero]
    · exact dec_body s hl
theorem num_zero : Num64 Fr.zero := ⟨rfl, rfl, rfl, rfl, rfl⟩
theorem body_zero : Body Fr.zero.body := body_zeros
theorem fr_bound_walk (f : Fr) (zone off : Int) (hb : Body f.body) (nf : Num64 f) (w : World) :
    Calls Try.prog 8 #[.agg (FC f), .int .i64 zone, .int .i64 off] w fun e w' => e = .returned (.bool true) ∧ Below w.heap.size w w' := by
  obtain ⟨hlA, hcA⟩ := enc_len f hb
  refine fr_bound_core (FC f) _ (FC (atF (if rightF f = true then sectorOf f else List.replicate 64 0) zone off).1) (FC Fr.zero) f.zone f.off _ (atF (if rightF f = true then sectorOf f else List.replicate 64 0) zone off).2 zone off w (size_frm hb.1) (size_frm (at_body _ _ _ hlA)) (size_frm body_zero.1) (size_sec hlA) (one_byteCells _) (FC_one _) (zero_of_info Try.infoFrame).1 (fun W => encode_any f W hb) (fun W => at_any _ zone off W hlA hcA) (fun W b h => ⟨(frame_cells h).2.1, (frame_cells h).2.2.1⟩) ?_
  cases hra : rightF f
  · exact .inl (by simp)
  · refine .inr ⟨by simp, ?_⟩
    simp only [if_true]
    rw [at_sector f zone off hra hb]
    by_cases h1 : f.zone = zone
    · by_cases h2 : f.off = off
      · rw [if_neg (by rw [h1, h2]; simp)]
        exact .inl ⟨by rw [h1]; simp, by rw [h2]; simp, rfl, fun W => eq_frame f f hb hb nf nf true (by simp) W⟩
      · rw [if_pos (.inr h2)]
        exact .inr ⟨.inr ⟨by rw [h1]; simp, by rw [beq_eq_false_iff_ne]; exact fun e => h2 e.symm⟩, rfl, fun W => eq_frame _ _ body_zero body_zero num_zero num_zero true (by simp) W⟩
    · rw [if_pos (.inl h1)]
      exact .inr ⟨.inl (by rw [beq_eq_false_iff_ne]; exact fun e => h1 e.symm), rfl, fun W => eq_frame _ _ body_zero body_zero num_zero num_zero true (by simp) W⟩
end Go.Proofs.Ytfcadbeamojdpaa
