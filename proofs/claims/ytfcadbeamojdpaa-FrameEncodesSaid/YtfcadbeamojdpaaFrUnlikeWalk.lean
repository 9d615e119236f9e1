/- Proved here: the walk of the law on unlike frames. -/
import Derived.Test.YtfcadbeamojdpaaFrAnchor
import Derived.Test.YtfcadbeamojdpaaQuiet
namespace Go.Proofs.Ytfcadbeamojdpaa
open Go.RowKit Go.Rv Frm
set_option linter.unusedVariables false
/-- what Encode answers -/
theorem encode_any (f : Fr) (w : World) (hb : Body f.body) :
    Calls Try.prog 17 #[.agg Tb.tabV, .agg (FC f)] w (SecPost (if rightF f = true then sectorOf f else List.replicate 64 0) (if rightF f = true then 0 else 10) w) := by
  cases h : rightF f
  · exact encode_no f w hb h
  · exact encode_yes f w hb h
/-- what both answers are, as plain letters: the sectors, the errors, and whether the sectors and the frames are alike -/
theorem enc_len (f : Fr) (hb : Body f.body) : (if rightF f = true then sectorOf f else List.replicate 64 0).length = 64 ∧ ∀ c ∈ (if rightF f = true then sectorOf f else List.replicate 64 0), c < 256 := by
  split
  · exact ⟨sector_length hb, sector_lt hb⟩
  · exact ⟨by simp, by simp⟩
set_option maxRecDepth 100000 in
set_option maxHeartbeats 1000000 in
theorem fr_unlike_core (A B SA SB : Array Value) (ea eb : Int) (rs rf : Bool) (w : World)
    (hIA : (Try.prog.info? 24).map (·.size) = some A.size) (hIB : (Try.prog.info? 24).map (·.size) = some B.size)
    (hIS : (Try.prog.info? 31).map (·.size) = some SA.size) (hIT : (Try.prog.info? 31).map (·.size) = some SB.size)
    (h1A : SA.all (·.oneCell') = true) (h1B : SB.all (·.oneCell') = true)
    (HEA : ∀ W, Calls Try.prog 17 #[.agg Tb.tabV, .agg A] W fun e w' => e = .returned (.tuple #[.agg SA, .int .i64 ea]) ∧ Below W.heap.size W w')
    (HEB : ∀ W, Calls Try.prog 17 #[.agg Tb.tabV, .agg B] W fun e w' => e = .returned (.tuple #[.agg SB, .int .i64 eb]) ∧ Below W.heap.size W w')
    (hes : ∀ W, (Op.equalIn 10000 31 (.agg SA) (.agg SB)).run Try.prog W = .ok rs W)
    (hef : ∀ W, (Op.equalIn 10000 24 (.agg A) (.agg B)).run Try.prog W = .ok rf W)
    (hfin : ea = 10 ∨ (ea = 0 ∧ eb = 10) ∨ (ea = 0 ∧ eb = 0 ∧ rs = rf)) :
    Calls Try.prog 3 #[.agg A, .agg B] w fun e w' => e = .returned (.bool true) ∧ Below w.heap.size w w' := by
  have hzT := (zero_of_info Try.infoTab).1
  have hzS := (zero_of_info Try.infoSector).1
  have HIT := Lib.hid size_tab
  have HST := Lib.hid (show Tb.zero.size = Tb.tabV.size by rw [Tb.size_zero, Tb.size_tabV])
  have H1T := Lib.hid Tb.one_tabV
  have HN := Lib.hid (fun W => new_any W)
  have hZ0 := (zero_of_info Try.infoSector).2
  have HZA := Lib.hid (show (byteCells (List.replicate 64 0)).size = SA.size by rw [size_byteCells]; rw [hZ0] at hIS; simpa using hIS)
  have HZB := Lib.hid (show (byteCells (List.replicate 64 0)).size = SB.size by rw [size_byteCells]; rw [hZ0] at hIT; simpa using hIT)
  have HIA := Lib.hid hIA
  have HIB := Lib.hid hIB
  have HIS := Lib.hid hIS
  have HIU := Lib.hid hIT
  have HEA := Lib.hid HEA
  have HEB := Lib.hid HEB
  have H1A := Lib.hid h1A
  have H1B := Lib.hid h1B
  have HES := Lib.hid hes
  have HEF := Lib.hid hef
  have HFIN := Lib.hid hfin
  clear hIA hIB hIS hIT h1A h1B hes hef hfin hZ0
  generalize byteCells (List.replicate 64 0) = ZS at *
  generalize Tb.tabV = TV at *
  generalize Tb.zero = TZ at *
  have hB0 := ((Below.refl w.heap.size w).alloc (Nat.le_refl _) (.cells A 24)).alloc (by simp) (.cells B 24)
  have hA0 : ((w.alloc (.cells A 24)).alloc (.cells B 24)).heap[w.heap.size]? = some (.cells A 24) := (((Below.refl (w.alloc (.cells A 24)).heap.size (w.alloc (.cells A 24))).alloc (Nat.le_refl _) (.cells B 24)).block _ (by simp)).trans (heap_alloc_new w _)
  have hC0 : ((w.alloc (.cells A 24)).alloc (.cells B 24)).heap[w.heap.size + 1]? = some (.cells B 24) := by have := heap_alloc_new (w.alloc (.cells A 24)) (.cells B 24); rwa [World.size_alloc] at this
  go_enter Try.func3, Try.ntmps3
  go_wp2_with (first | (go_at_call 15; refine (fr_anchor _).mono ?_; rintro e w1 ⟨rfl, hB1⟩))
  have s0 : ((w.alloc (.cells A 24)).alloc (.cells B 24)).heap.size = w.heap.size + 1 + 1 := by simp
  have hA1 := (hB1.block w.heap.size (by rw [s0]; omega)).trans hA0
  have hC1 := (hB1.block (w.heap.size + 1) (by rw [s0]; omega)).trans hC0
  have hB1' := hB0.trans (hB1.mono hB0.size)
  have z1 := hB1.size
  rw [s0] at z1
  go_wp2_with fail
  refine (HN.out _).mono ?_
  rintro e w2 ⟨rfl, hB2⟩
  have hA2 := (hB2.block w.heap.size (by omega)).trans hA1
  have hC2 := (hB2.block (w.heap.size + 1) (by omega)).trans hC1
  have hB2' := hB1'.trans (hB2.mono hB1'.size)
  have z2 := hB2.size
  have hB3 := hB2'.alloc hB2'.size (.cells TV 28)
  have hA3 := (((Below.refl w2.heap.size w2).alloc (Nat.le_refl _) (.cells TV 28)).block w.heap.size (by omega)).trans hA2
  have hC3 := (((Below.refl w2.heap.size w2).alloc (Nat.le_refl _) (.cells TV 28)).block (w.heap.size + 1) (by omega)).trans hC2
  have hT3 := heap_alloc_new w2 (.cells TV 28)
  have z3 : (w2.alloc (.cells TV 28)).heap.size = w2.heap.size + 1 := by simp
  go_wp2_with (first | (refine wpList_store_row rfl 28 _ _ rfl w2.heap.size TV rfl rfl 28 TZ (heap_alloc_new w2 _) HIT.out HST.out H1T.out ?_; rw [World.setRow_alloc_new]) | (refine wpList_load_row rfl 28 _ rfl w2.heap.size rfl 28 _ _ _ hT3 Try.underlying28 rfl HIT.out ?_) | (refine wpList_load_row rfl 24 _ rfl w.heap.size rfl 24 _ _ _ hA3 Try.underlying24 rfl HIA.out ?_))
  refine (HEA.out _).mono ?_
  rintro e w4 ⟨rfl, hB4⟩
  have hA4 := (hB4.block w.heap.size (by omega)).trans hA3
  have hC4 := (hB4.block (w.heap.size + 1) (by omega)).trans hC3
  have hT4 := (hB4.block w2.heap.size (by omega)).trans hT3
  have hB4' := hB3.trans (hB4.mono hB3.size)
  have z4 := hB4.size
  rw [z3] at z4
  have hB5 := hB4'.alloc hB4'.size (.cells SA 31)
  have hbw := (Below.refl w4.heap.size w4).alloc (Nat.le_refl _) (.cells SA 31)
  have hA5 := (hbw.block w.heap.size (by omega)).trans hA4
  have hC5 := (hbw.block (w.heap.size + 1) (by omega)).trans hC4
  have hT5 := (hbw.block w2.heap.size (by omega)).trans hT4
  have hS5 := heap_alloc_new w4 (.cells SA 31)
  have z5 : (w4.alloc (.cells SA 31)).heap.size = w4.heap.size + 1 := by simp
  clear hA0 hC0 hA1 hC1 hA2 hC2 hA3 hC3 hT3 hA4 hC4 hT4 hbw hB0 hB1 hB1' hB2 hB2' hB3 hB4 hB4'
  go_wp2_with (first | (refine wpList_store_row rfl 31 _ _ rfl w4.heap.size SA rfl rfl 31 ZS (heap_alloc_new w4 _) HIS.out HZA.out H1A.out ?_; rw [World.setRow_alloc_new]) | (refine wpList_load_row rfl 28 _ rfl w2.heap.size rfl 28 _ _ _ hT5 Try.underlying28 rfl HIT.out ?_) | (refine wpList_load_row rfl 24 _ rfl (w.heap.size + 1) rfl 24 _ _ _ hC5 Try.underlying24 rfl HIB.out ?_))
  refine (HEB.out _).mono ?_
  rintro e w6 ⟨rfl, hB6⟩
  have hA6 := (hB6.block w.heap.size (by omega)).trans hA5
  have hC6 := (hB6.block (w.heap.size + 1) (by omega)).trans hC5
  have hS6 := (hB6.block w4.heap.size (by omega)).trans hS5
  have hB6' := hB5.trans (hB6.mono hB5.size)
  have z6 := hB6.size
  rw [z5] at z6
  have hB7 := hB6'.alloc hB6'.size (.cells SB 31)
  have hbw := (Below.refl w6.heap.size w6).alloc (Nat.le_refl _) (.cells SB 31)
  have hA7 := (hbw.block w.heap.size (by omega)).trans hA6
  have hC7 := (hbw.block (w.heap.size + 1) (by omega)).trans hC6
  have hS7 := (hbw.block w4.heap.size (by omega)).trans hS6
  have hU7 := heap_alloc_new w6 (.cells SB 31)
  clear hA5 hC5 hT5 hS5 hA6 hC6 hS6 hbw hB5 hB6 hB6'
  go_wp2_with (first | (refine wpList_store_row rfl 31 _ _ rfl w6.heap.size SB rfl rfl 31 ZS (heap_alloc_new w6 _) HIU.out HZB.out H1B.out ?_; rw [World.setRow_alloc_new]))
  rcases HFIN.out with rfl | ⟨rfl, rfl⟩ | ⟨rfl, rfl, rfl⟩
  · clear HFIN HES HEF HEA HEB
    go_quiet (fail)
    go_wp2
    go_ret
    exact ⟨rfl, below_drewN hB7 _⟩
  · clear HFIN HES HEF HEA HEB
    go_quiet (fail)
    go_wp2
    go_ret
    exact ⟨rfl, below_drewN hB7 _⟩
  · clear HFIN HEA HEB
    refine wp_region_quiet_lit (by kernel_rfl) (by kernel_rfl) ?_
    iterate 7 (go_big_quiet_step (fail))
    refine wpQuiet_load_row (by rfl) 31 _ rfl (w4.heap.size) rfl 31 _ _ _ (fun _ hw' => by obtain ⟨n, rfl⟩ := hw'; exact hS7) Try.underlying31 rfl HIS.out ?_
    simp only [Act.put, List.setIfInBounds_toArray, List.set_cons_zero, List.set_cons_succ]
    refine wpQuiet_load_row (by rfl) 31 _ rfl (w6.heap.size) rfl 31 _ _ _ (fun _ hw' => by obtain ⟨n, rfl⟩ := hw'; exact hU7) Try.underlying31 rfl HIU.out ?_
    simp only [Act.put, List.setIfInBounds_toArray, List.set_cons_zero, List.set_cons_succ]
    refine wpQuiet_eql (by rfl) 31 31 _ _ rfl SA SB rfl rfl (by kernel_rfl) rs HES.out ?_
    simp only [Act.put, List.setIfInBounds_toArray, List.set_cons_zero, List.set_cons_succ]
    refine wpQuiet_load_row (by rfl) 24 _ rfl (w.heap.size) rfl 24 _ _ _ (fun _ hw' => by obtain ⟨n, rfl⟩ := hw'; exact hA7) Try.underlying24 rfl HIA.out ?_
    simp only [Act.put, List.setIfInBounds_toArray, List.set_cons_zero, List.set_cons_succ]
    refine wpQuiet_load_row (by rfl) 24 _ rfl (w.heap.size + 1) rfl 24 _ _ _ (fun _ hw' => by obtain ⟨n, rfl⟩ := hw'; exact hC7) Try.underlying24 rfl HIB.out ?_
    simp only [Act.put, List.setIfInBounds_toArray, List.set_cons_zero, List.set_cons_succ]
    refine wpQuiet_eql (by rfl) 24 24 _ _ rfl A B rfl rfl (by kernel_rfl) rs HEF.out ?_
    simp only [Act.put, List.setIfInBounds_toArray, List.set_cons_zero, List.set_cons_succ]
    iterate 3 (go_big_quiet_step (fail))
    refine wpQuiet_nil ?_
    rintro _ ⟨nq, rfl⟩
    go_wp2
    go_ret
    exact ⟨rfl, below_drewN hB7 _⟩
theorem fr_unlike_walk (a b : Fr) (ha : Body a.body) (hb : Body b.body) (na : Num64 a) (nb : Num64 b) (w : World) :
    Calls Try.prog 3 #[.agg (FC a), .agg (FC b)] w fun e w' => e = .returned (.bool true) ∧ Below w.heap.size w w' := by
  obtain ⟨hlA, hcA⟩ := enc_len a ha
  obtain ⟨hlB, hcB⟩ := enc_len b hb
  classical
  refine fr_unlike_core (FC a) (FC b) _ _ _ _ (decide ((if rightF a = true then sectorOf a else List.replicate 64 0) = (if rightF b = true then sectorOf b else List.replicate 64 0))) (decide (a = b)) w (size_frm ha.1) (size_frm hb.1) (size_sec hlA) (size_sec hlB) (one_byteCells _) (one_byteCells _) (fun W => encode_any a W ha) (fun W => encode_any b W hb) (fun W => eq_sec _ _ hlA hlB hcA hcB _ (by simp) W) (fun W => eq_frame a b ha hb na nb _ (by simp) W) ?_
  cases hra : rightF a
  · exact .inl (by simp)
  · cases hrb : rightF b
    · exact .inr (.inl (by simp))
    · refine .inr (.inr ⟨by simp, by simp, ?_⟩)
      simp only [if_true]
      rw [decide_eq_decide]
      exact ⟨fun h => sector_inj hra hrb ha hb h, fun h => by rw [h]⟩
end Go.Proofs.Ytfcadbeamojdpaa
