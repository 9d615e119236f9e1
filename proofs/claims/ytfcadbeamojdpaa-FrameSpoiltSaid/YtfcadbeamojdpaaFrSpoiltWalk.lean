/- Proved here: the walk of the law on spoilt sectors. -/
import Derived.Test.YtfcadbeamojdpaaFrUnlikeWalk
import Derived.Test.YtfcadbeamojdpaaXor
import Derived.Test.YtfcadbeamojdpaaDiv
import Derived.Test.YtfcadbeamojdpaaAsked
import Derived.Test.YtfcadbeamojdpaaAt
import Derived.Test.YtfcadbeamojdpaaConf
import Derived.StillTailTactics
namespace Go.Proofs.Ytfcadbeamojdpaa
open Go.RowKit Go.Rv Frm
set_option linter.unusedVariables false
set_option maxRecDepth 100000 in
set_option maxHeartbeats 1000000 in
theorem fr_spoilt_core (A FD ZF : Array Value) (L q X : List Nat) (ea g : Int) (gb : Bool) (w : World) (hL : L.length = 64) (hLb : ∀ c ∈ L, c < 256) (hq : q.length = 64) (hqb : ∀ c ∈ q, c < 256) (hX : X.length = 64) (hXb : ∀ c ∈ X, c < 256)
    (hxx : ∀ i, i < 64 → X.getD i 0 = L.getD i 0 ^^^ q.getD i 0)
    (hIA : (Try.prog.info? 24).map (·.size) = some A.size) (hID : (Try.prog.info? 24).map (·.size) = some FD.size) (hIZ : (Try.prog.info? 24).map (·.size) = some ZF.size)
    (h1D : FD.all (·.oneCell') = true)
    (hzF : ∀ w : World, (zeroValue 24).run Try.prog w = .ok (.agg ZF) w)
    (HEA : ∀ W, Calls Try.prog 17 #[.agg Tb.tabV, .agg A] W fun e w' => e = .returned (.tuple #[.agg (byteCells L), .int .i64 ea]) ∧ Below W.heap.size W w')
    (HX1 : ∀ W, Calls Try.prog 21 #[.agg (byteCells L), .agg (byteCells q)] W fun e w' => e = .returned (.agg (byteCells X)) ∧ Below W.heap.size W w')
    (HX2 : ∀ W, Calls Try.prog 21 #[.agg (byteCells X), .agg (byteCells q)] W fun e w' => e = .returned (.agg (byteCells L)) ∧ Below W.heap.size W w')
    (HD : ∀ W, Calls Try.prog 18 #[.agg Tb.tabV, .agg (byteCells X)] W fun e w' => e = .returned (.tuple #[.agg FD, .int .i64 g]) ∧ Below W.heap.size W w')
    (HV : ∀ (W : World) (b : Nat), Bytes W (some ⟨b, 0, none⟩) q → Calls Try.prog 22 #[.slice (some ⟨b, 0, none⟩) 64 64] W fun e w' => e = .returned (.bool (!gb)) ∧ Below W.heap.size W w')
    (hes : ∀ W, (Op.equalIn 10000 31 (.agg (byteCells L)) (.agg (byteCells L))).run Try.prog W = .ok true W)
    (hfin : ea = 10 ∨ (ea = 0 ∧ (g == 11) = gb)) :
    Calls Try.prog 6 #[.agg A, .agg (byteCells q)] w fun e w' => e = .returned (.bool true) ∧ Below w.heap.size w w' := by
  have hIS := size_sec hL
  have h1S := one_byteCells L
  have hzT := (zero_of_info Try.infoTab).1
  have hzS := (zero_of_info Try.infoSector).1
  have HIT := Lib.hid size_tab
  have HST := Lib.hid (show Tb.zero.size = Tb.tabV.size by rw [Tb.size_zero, Tb.size_tabV])
  have H1T := Lib.hid Tb.one_tabV
  have HN := Lib.hid (fun W => new_any W)
  have hZ0 := (zero_of_info Try.infoSector).2
  have HZA := Lib.hid (show (byteCells (List.replicate 64 0)).size = (byteCells L).size by rw [size_byteCells]; rw [hZ0] at hIS; simpa using hIS)
  have HIA := Lib.hid hIA
  have HID := Lib.hid hID
  have HZD := Lib.hid (show ZF.size = FD.size by rw [hIZ] at hID; simpa using hID)
  have HIQ := Lib.hid (size_sec hq)
  have HIX := Lib.hid (size_sec hX)
  have H1Q := Lib.hid (one_byteCells X)
  have HZX := Lib.hid (show (byteCells (List.replicate 64 0)).size = (byteCells X).size by rw [size_byteCells, size_byteCells, hX]; simp)
  have HX1 := Lib.hid HX1
  have HX2 := Lib.hid HX2
  have HD := Lib.hid HD
  have HV := Lib.hid HV
  have HES := Lib.hid hes
  have HXX := Lib.hid hxx
  have HQ := Lib.hid hq
  have HQB := Lib.hid hqb
  have HXL := Lib.hid hX
  have HXB := Lib.hid hXb
  have HIS := Lib.hid hIS
  have HEA := Lib.hid HEA
  have H1S := Lib.hid h1S
  have H1D := Lib.hid h1D
  have HFIN := Lib.hid hfin
  clear hIA hIZ hID hIS h1S h1D hfin hZ0 hes hxx hq hqb hX hXb
  have HLL := Lib.hid hL
  have HLB := Lib.hid hLb
  clear hL hLb
  generalize byteCells (List.replicate 64 0) = ZS at *
  obtain ⟨SA, hSA⟩ : ∃ SA, byteCells L = SA := ⟨_, rfl⟩
  have HSA := Lib.hid hSA
  obtain ⟨QA, hQA⟩ : ∃ QA, byteCells q = QA := ⟨_, rfl⟩
  obtain ⟨XA, hXA⟩ : ∃ XA, byteCells X = XA := ⟨_, rfl⟩
  have HQA := Lib.hid hQA
  have HXA := Lib.hid hXA
  rw [hSA] at HZA HIS HEA H1S HX1 HX2 HES
  rw [hQA] at HIQ HX1 HX2
  rw [hXA] at HIX H1Q HZX HX1 HX2 HD
  rw [hQA]
  clear hSA hQA hXA
  generalize Tb.tabV = TV at *
  generalize Tb.zero = TZ at *
  have hB0 := ((Below.refl w.heap.size w).alloc (Nat.le_refl _) (.cells A 24)).alloc (by simp) (.cells QA 31)
  have hA0 : ((w.alloc (.cells A 24)).alloc (.cells QA 31)).heap[w.heap.size]? = some (.cells A 24) := (((Below.refl (w.alloc (.cells A 24)).heap.size (w.alloc (.cells A 24))).alloc (Nat.le_refl _) (.cells QA 31)).block _ (by simp)).trans (heap_alloc_new w _)
  have hC0 : ((w.alloc (.cells A 24)).alloc (.cells QA 31)).heap[w.heap.size + 1]? = some (.cells QA 31) := by have := heap_alloc_new (w.alloc (.cells A 24)) (.cells QA 31); rwa [World.size_alloc] at this
  go_enter Try.func6, Try.ntmps6
  go_wp2_with (first | (go_at_call 15; refine (fr_anchor _).mono ?_; rintro e w1 ⟨rfl, hB1⟩))
  have s0 : ((w.alloc (.cells A 24)).alloc (.cells QA 31)).heap.size = w.heap.size + 1 + 1 := by simp
  have hA1 := (hB1.block w.heap.size (by rw [s0]; omega)).trans hA0
  have hC1 := (hB1.block (w.heap.size + 1) (by rw [s0]; omega)).trans hC0
  have hB1' := hB0.trans (hB1.mono hB0.size)
  have z1 := hB1.size
  rw [s0] at z1
  go_wp2_with fail
  refine (HN.out _).mono ?_
  rintro e w2 ⟨rfl, hB2⟩
  have hA2 := (hB2.block w.heap.size (by omega)).trans hA1
  have hC2 := (hB2.block (w.heap.size + 1) (by omega)).trans hC1
  have hB2' := hB1'.trans (hB2.mono hB1'.size)
  have z2 := hB2.size
  have hB3 := hB2'.alloc hB2'.size (.cells TV 28)
  have hA3 := (((Below.refl w2.heap.size w2).alloc (Nat.le_refl _) (.cells TV 28)).block w.heap.size (by omega)).trans hA2
  have hC3 := (((Below.refl w2.heap.size w2).alloc (Nat.le_refl _) (.cells TV 28)).block (w.heap.size + 1) (by omega)).trans hC2
  have hT3 := heap_alloc_new w2 (.cells TV 28)
  have z3 : (w2.alloc (.cells TV 28)).heap.size = w2.heap.size + 1 := by simp
  go_wp2_with (first | (refine wpList_store_row rfl 28 _ _ rfl w2.heap.size TV rfl rfl 28 TZ (heap_alloc_new w2 _) HIT.out HST.out H1T.out ?_; rw [World.setRow_alloc_new]) | (refine wpList_load_row rfl 28 _ rfl (w2.heap.size) rfl 28 _ _ _ hT3 Try.underlying28 rfl HIT.out ?_) | (refine wpList_load_row rfl 24 _ rfl (w.heap.size) rfl 24 _ _ _ hA3 Try.underlying24 rfl HIA.out ?_))
  refine (HEA.out _).mono ?_
  rintro e w4 ⟨rfl, hB4⟩
  have hA4 := (hB4.block w.heap.size (by omega)).trans hA3
  have hC4 := (hB4.block (w.heap.size + 1) (by omega)).trans hC3
  have hT4 := (hB4.block w2.heap.size (by omega)).trans hT3
  have hB4' := hB3.trans (hB4.mono hB3.size)
  have z4 := hB4.size
  rw [z3] at z4
  have hB5 := hB4'.alloc hB4'.size (.cells SA 31)
  have hbw := (Below.refl w4.heap.size w4).alloc (Nat.le_refl _) (.cells SA 31)
  have hA5 := (hbw.block w.heap.size (by omega)).trans hA4
  have hC5 := (hbw.block (w.heap.size + 1) (by omega)).trans hC4
  have hT5 := (hbw.block w2.heap.size (by omega)).trans hT4
  have hS5 := heap_alloc_new w4 (.cells SA 31)
  have z5 : (w4.alloc (.cells SA 31)).heap.size = w4.heap.size + 1 := by simp
  clear hA0 hA1 hA2 hA3 hC0 hC1 hC2 hC3 hC4 hT3 hA4 hT4 hbw hB0 hB1 hB1' hB2 hB2' hB3 hB4 hB4'
  rcases HFIN.out with rfl | ⟨rfl, hg⟩
  · clear HFIN
    go_wp2_with (first | (refine wpList_store_row rfl 31 _ _ rfl w4.heap.size SA rfl rfl 31 ZS (heap_alloc_new w4 _) HIS.out HZA.out H1S.out ?_; rw [World.setRow_alloc_new]))
    go_ret
    exact ⟨rfl, hB5⟩
  · have HG := Lib.hid hg
    clear HFIN hg
    go_wp2_with (first | (refine wpList_store_row rfl 31 _ _ rfl w4.heap.size SA rfl rfl 31 ZS (heap_alloc_new w4 _) HIS.out HZA.out H1S.out ?_; rw [World.setRow_alloc_new]) | (refine wpList_load_row rfl 31 _ rfl (w4.heap.size) rfl 31 _ _ _ hS5 Try.underlying31 rfl HIS.out ?_) | (refine wpList_load_row rfl 31 _ rfl (w.heap.size + 1) rfl 31 _ _ _ hC5 Try.underlying31 rfl HIQ.out ?_))
    refine (HX1.out _).mono ?_
    rintro e w6 ⟨rfl, hB6⟩
    have hC6 := (hB6.block (w.heap.size + 1) (by omega)).trans hC5
    have hT6 := (hB6.block w2.heap.size (by omega)).trans hT5
    have hS6 := (hB6.block w4.heap.size (by omega)).trans hS5
    have hB6' := hB5.trans (hB6.mono hB5.size)
    have z6 := hB6.size
    rw [z5] at z6
    have hB7 := hB6'.alloc hB6'.size (.cells XA 31)
    have hbw := (Below.refl w6.heap.size w6).alloc (Nat.le_refl _) (.cells XA 31)
    have hC7 := (hbw.block (w.heap.size + 1) (by omega)).trans hC6
    have hT7 := (hbw.block w2.heap.size (by omega)).trans hT6
    have hS7 := (hbw.block w4.heap.size (by omega)).trans hS6
    have hX7 := heap_alloc_new w6 (.cells XA 31)
    have z7 : (w6.alloc (.cells XA 31)).heap.size = w6.heap.size + 1 := by simp
    clear hA5 hC5 hT5 hS5 hC6 hT6 hS6 hbw hB5 hB6 hB6'
    go_wp2_with (first | (refine wpList_store_row rfl 31 _ _ rfl w6.heap.size XA rfl rfl 31 ZS (heap_alloc_new w6 _) HIX.out HZX.out H1Q.out ?_; rw [World.setRow_alloc_new]) | (refine wpList_load_row rfl 28 _ rfl (w2.heap.size) rfl 28 _ _ _ hT7 Try.underlying28 rfl HIT.out ?_) | (refine wpList_load_row rfl 31 _ rfl (w6.heap.size) rfl 31 _ _ _ hX7 Try.underlying31 rfl HIX.out ?_))
    refine (HD.out _).mono ?_
    rintro e w8 ⟨rfl, hB8⟩
    have hC8 := (hB8.block (w.heap.size + 1) (by omega)).trans hC7
    have hS8 := (hB8.block w4.heap.size (by omega)).trans hS7
    have hX8 := (hB8.block w6.heap.size (by omega)).trans hX7
    have hB8' := hB7.trans (hB8.mono hB7.size)
    have z8 := hB8.size
    rw [z7] at z8
    have hB9 := hB8'.alloc hB8'.size (.cells FD 24)
    have hbw := (Below.refl w8.heap.size w8).alloc (Nat.le_refl _) (.cells FD 24)
    have hC9 := (hbw.block (w.heap.size + 1) (by omega)).trans hC8
    have hS9 := (hbw.block w4.heap.size (by omega)).trans hS8
    have hX9 := (hbw.block w6.heap.size (by omega)).trans hX8
    clear hC7 hT7 hS7 hX7 hC8 hS8 hX8 hbw hB7 hB8 hB8'
    go_wp2_with (first | (refine wpList_store_row rfl 24 _ _ rfl w8.heap.size FD rfl rfl 24 ZF (heap_alloc_new w8 _) HID.out HZD.out H1D.out ?_; rw [World.setRow_alloc_new]))
    go_loopw [34] (fun i wr => ∃ k : Nat, k ≤ 64 ∧ i = .int .i64 k ∧ wr.heap[w.heap.size + 1]? = some (.cells QA 31 (0, 0)) ∧ wr.heap[w4.heap.size]? = some (.cells SA 31 (0, 0)) ∧ wr.heap[w6.heap.size]? = some (.cells XA 31 (0, 0)) ∧ Below w.heap.size w wr) (fun i _ => 64 - (intOf i).toNat)
    case atStart => exact ⟨0, by omega, rfl, hC9, hS9, hX9, hB9⟩
    case round =>
      obtain ⟨k, hk, rfl, hC, hS, hX, hB⟩ := hrel
      clear hC9 hS9 hX9 hB9
      by_cases hlt : k < 64
      · have hx : wr.cell? ⟨w6.heap.size, k, none⟩ = some (.int .u8 (X.getD k 0 : Nat)) := (cell_of_row _ _ _ _ _ _ hX).trans (by rw [← HXA.out]; exact byteCells_at _ _ (by rw [HXL.out]; exact hlt))
        have hs : wr.cell? ⟨w4.heap.size, k, none⟩ = some (.int .u8 (L.getD k 0 : Nat)) := (cell_of_row _ _ _ _ _ _ hS).trans (by rw [← HSA.out]; exact byteCells_at _ _ (by rw [HLL.out]; exact hlt))
        have hp : wr.cell? ⟨w.heap.size + 1, k, none⟩ = some (.int .u8 (q.getD k 0 : Nat)) := (cell_of_row _ _ _ _ _ _ hC).trans (by rw [← HQA.out]; exact byteCells_at _ _ (by rw [HQ.out]; exact hlt))
        have hxy : bits .xor .u8 ((L.getD k 0 : Nat) : Int) ((q.getD k 0 : Nat) : Int) = ((X.getD k 0 : Nat) : Int) := by rw [HXX.out k hlt]; exact u8_xor_nat _ _ (Crc.getD_lt HLB.out k) (Crc.getD_lt HQB.out k)
        generalize X.getD k 0 = x at *
        generalize L.getD k 0 = s at *
        generalize q.getD k 0 = p at *
        have hne : ((x : Int) != x) = false := by simp
        have i0 : (0 : Int) ≤ (k : Int) := by omega
        have i1 : (k : Int) < 64 := by omega
        go_wp2
        go_quiet (fail)
        go_wp2
        go_roundw
        case rel => exact ⟨k + 1, by omega, by go_num, hC, hS, hX, below_drewN hB _⟩
        case measure => simp [intOf]; omega
      · obtain rfl : k = 64 := by omega
        clear hlt
        go_wp2_with fail
        have hzX := (Array.getElem?_eq_some_iff.1 hX).1
        have hzS := (Array.getElem?_eq_some_iff.1 hS).1
        have hzC := (Array.getElem?_eq_some_iff.1 hC).1
        have HXr := Lib.hid hX
        have HSr := Lib.hid hS
        have HCr := Lib.hid hC
        have HCq := Lib.hid hC
        rw [← HQA.out] at HCq
        have hBr := hB
        clear hX hS hC hB
        refine wp_region_conf 13 [Fact.eq ?r15x0, Fact.eq ?r15x1, Fact.eq ?r15x2, Fact.eq ?r15x3, Fact.eq ?r15x4, Fact.eq ?r15x5, Fact.eq ?r15x6, Fact.eq ?r15x7, Fact.eq ?r15x8, Fact.eq ?r15x9, Fact.eq ?r15x10, Fact.eq ?r15x11, Fact.eq ?r15x12] ?r15A (by kernel_rfl) (by kernel_rfl) ?r15hA ?r15ho ?r15hend
        case r15hA =>
          intro vv
          simp only [putRules, Nat.reduceAdd]
          rfl
        case r15ho =>
          refine ⟨?_, ?_, ?_, ?_, ?_, ?_, ?_, ?_, ?_, ?_, ?_, ?_, ?_, trivial⟩
          · intro vv W K hB hd hK
            simp only [confRules] at hK
            have HK := Lib.hid hK
            clear hK hd
            have hT := (hB.block w6.heap.size hzX).trans HXr.out
            go_wp2_with (refine wpList_load_row rfl 31 _ rfl w6.heap.size rfl 31 _ _ _ hT Try.underlying31 rfl HIX.out ?_)
            refine HK.out _ _ (Below.refl _ _) ?_
            rfl
          · intro vv W K hB hd hK
            simp only [confRules] at hK
            have HK := Lib.hid hK
            clear hK hd
            have hT := (hB.block (w.heap.size + 1) hzC).trans HCr.out
            go_wp2_with (refine wpList_load_row rfl 31 _ rfl (w.heap.size + 1) rfl 31 _ _ _ hT Try.underlying31 rfl HIQ.out ?_)
            refine HK.out _ _ (Below.refl _ _) ?_
            rfl
          · intro vv W K hB hd hK
            simp only [confRules] at hd hK
            obtain ⟨h0, h1⟩ := hd
            simp only [h0, h1] at hK ⊢
            clear h0 h1
            have HK := Lib.hid hK
            clear hK
            go_wp2_with (go_at_call 21; refine (HX2.out _).mono ?_; rintro e w9 ⟨rfl, hB9⟩)
            refine HK.out _ _ hB9 ?_
            rfl
          · intro vv W K hB hd hK
            simp only [confRules] at hK
            have HK := Lib.hid hK
            clear hK hd
            have hT := (hB.block w4.heap.size hzS).trans HSr.out
            go_wp2_with (refine wpList_load_row rfl 31 _ rfl w4.heap.size rfl 31 _ _ _ hT Try.underlying31 rfl HIS.out ?_)
            refine HK.out _ _ (Below.refl _ _) ?_
            rfl
          · intro vv W K hB hd hK
            simp only [confRules] at hd hK
            obtain ⟨h2, h3⟩ := hd
            simp only [h2, h3] at hK ⊢
            clear h2 h3
            have HK := Lib.hid hK
            clear hK
            go_wp2_with (refine wpList_eql_asked (by rfl) 31 31 _ _ rfl SA SA rfl rfl (by kernel_rfl) true HES.out ?_)
            refine HK.out _ _ (Below.refl _ _) ?_
            rfl
          · intro vv W K hB hd hK
            simp only [confRules] at hd hK
            obtain ⟨h4, h2⟩ := hd
            simp only [h4, h2] at hK ⊢
            clear h4 h2
            have HK := Lib.hid hK
            clear hK
            go_wp2
            refine HK.out _ _ (Below.refl _ _) ?_
            rfl
          · intro vv W K hB hd hK
            simp only [confRules] at hd hK
            have h5 := hd
            clear hd
            simp only [h5] at hK ⊢
            clear h5
            have HK := Lib.hid hK
            clear hK
            refine wpList_guard_yes (by rfl) ?_
            go_wp2
            refine HK.out _ _ (Below.refl _ _) ?_
            rfl
          · intro vv W K hB hd hK
            simp only [confRules] at hd hK
            obtain ⟨h6, h5⟩ := hd
            simp only [h6, h5] at hK ⊢
            clear h6 h5
            have HK := Lib.hid hK
            clear hK
            refine wpList_guard_yes (by rfl) ?_
            have hg := HG.out
            go_wp2
            refine HK.out _ _ (Below.refl _ _) ?_
            rfl
          · intro vv W K hB hd hK
            simp only [confRules] at hd hK
            have h5 := hd
            clear hd
            simp only [h5] at hK ⊢
            clear h5
            have HK := Lib.hid hK
            clear hK
            refine wpList_guard_yes (by rfl) ?_
            go_wp2
            refine HK.out _ _ (Below.refl _ _) ?_
            rfl
          · intro vv W K hB hd hK
            simp only [confRules] at hd hK
            obtain ⟨h8, h5, _⟩ := hd
            simp only [h8, h5] at hK ⊢
            clear h8 h5
            have HK := Lib.hid hK
            clear hK
            refine wpList_guard_yes (by rfl) ?_
            go_wp2_with (go_at_call 22; refine (HV.out _ (w.heap.size + 1) (byteCells_row ((hB.block (w.heap.size + 1) hzC).trans HCq.out) HQB.out)).mono ?_; rintro e w9 ⟨rfl, hB9⟩)
            refine HK.out _ _ hB9 ?_
            rfl
          · intro vv W K hB hd hK
            simp only [confRules] at hd hK
            obtain ⟨h9, h5⟩ := hd
            simp only [h9, h5] at hK ⊢
            clear h9 h5
            have HK := Lib.hid hK
            clear hK
            refine wpList_guard_yes (by rfl) ?_
            go_wp2
            refine HK.out _ _ (Below.refl _ _) ?_
            rfl
          · intro vv W K hB hd hK
            simp only [confRules] at hd hK
            obtain ⟨h7, h10, h5⟩ := hd
            simp only [h7, h10, h5] at hK ⊢
            clear h7 h10 h5
            have HK := Lib.hid hK
            clear hK
            refine wpList_guard_yes (by rfl) ?_
            go_wp2
            refine HK.out _ _ (Below.refl _ _) ?_
            rfl
          · intro vv W K hB hd hK
            simp only [confRules] at hd hK
            obtain ⟨h5, h11⟩ := hd
            simp only [h5, h11] at hK ⊢
            clear h5 h11
            have HK := Lib.hid hK
            clear hK
            go_wp2
            refine HK.out _ _ (Below.refl _ _) ?_
            rfl
        case r15hend =>
          intro vv W hB hf
          have e12 := hf 12 (by decide)
          simp only [endRules] at e12
          simp only [e12, dropRules]
          clear hf e12
          go_wp2
          go_ret
          exact ⟨rfl, hBr.trans (hB.mono hBr.size)⟩
theorem xor_twice (S q : List Nat) : Crc.xorTo (Crc.xorTo S q S.length) q S.length = S := by
  apply List.ext_getElem?
  intro i
  by_cases h : i < S.length
  · have h1 := Crc.xorTo_at (Crc.xorTo S q S.length) q S.length i
    have h0 := Crc.xorTo_at S q S.length i
    rw [if_pos ⟨h, h⟩] at h0
    rw [if_pos ⟨h, by rw [Crc.xorTo_length]; exact h⟩, h0, Nat.xor_assoc, Nat.xor_self, Nat.xor_zero] at h1
    have h2 : i < (Crc.xorTo (Crc.xorTo S q S.length) q S.length).length := by rw [Crc.xorTo_length, Crc.xorTo_length]; exact h
    rw [List.getD_eq_getElem?_getD, List.getD_eq_getElem?_getD, List.getElem?_eq_getElem h, List.getElem?_eq_getElem h2] at h1
    rw [List.getElem?_eq_getElem h, List.getElem?_eq_getElem h2]
    exact congrArg some h1
  · have hl : (Crc.xorTo (Crc.xorTo S q S.length) q S.length).length = S.length := by rw [Crc.xorTo_length, Crc.xorTo_length]
    rw [List.getElem?_eq_none (l := Crc.xorTo (Crc.xorTo S q S.length) q S.length) (by omega), List.getElem?_eq_none (by omega)]
theorem spoilt_dec {f : Fr} (hb : Body f.body) (q : List Nat) (hq : q.length = 64) (hqb : ∀ c ∈ q, c < 256) (X : List Nat) (hX : X = Crc.xorTo (sectorOf f) q 64) : ((decF X).2 == 11) = !decide (Crc.over 0 q = 0) := by
  have hl : X.length = 64 := by rw [hX, Crc.xorTo_length, sector_length hb]
  have hp := Crc.patterns (frB f) q (frB_lt hb) hqb (by rw [hq, frB_length hb]) X (by rw [hX, hq]; rfl)
  rw [hl] at hp
  unfold decF
  by_cases h : Crc.over 0 q = 0
  · rw [if_pos (hp.2 h), decide_eq_true h]
    split <;> rfl
  · rw [if_neg (fun e => h (hp.1 e)), decide_eq_false h]
    rfl
theorem fr_spoilt_walk (f : Fr) (q : List Nat) (hb : Body f.body) (hq : q.length = 64) (hqb : ∀ c ∈ q, c < 256) (w : World) :
    Calls Try.prog 6 #[.agg (FC f), .agg (byteCells q)] w fun e w' => e = .returned (.bool true) ∧ Below w.heap.size w w' := by
  obtain ⟨hlA, hcA⟩ := enc_len f hb
  obtain ⟨sec, hsec⟩ : ∃ sec, (if rightF f = true then sectorOf f else List.replicate 64 0) = sec := ⟨_, rfl⟩
  obtain ⟨X, hX⟩ : ∃ X, X = Crc.xorTo sec q 64 := ⟨_, rfl⟩
  have hE := fun W => encode_any f W hb
  rw [hsec] at hlA hcA hE
  have hXl : X.length = 64 := by rw [hX, Crc.xorTo_length, hlA]
  have hXb : ∀ c ∈ X, c < 256 := by rw [hX]; exact Crc.xorTo_lt hcA hqb 64
  have hx2 : Crc.xorTo X q 64 = sec := by
    have h := xor_twice sec q
    rw [hlA, ← hX] at h
    exact h
  refine fr_spoilt_core (FC f) (FC (decF X).1) (FC Fr.zero) sec q X _ (decF X).2 (!decide (Crc.over 0 q = 0)) w hlA hcA hq hqb hXl hXb (fun i hi => by rw [hX, Crc.xorTo_at, if_pos ⟨hi, by omega⟩]) (size_frm hb.1) (size_frm (dec_body X hXl)) (size_frm body_zeros.1) (FC_one _) (zero_of_info Try.infoFrame).1 hE (fun W => by rw [hX]; exact xor_any sec q W hlA hq hcA hqb) (fun W => by have h := xor_any X q W hXl hq hXb hqb; rw [hx2] at h; exact h) (fun W => decode_any X W hXl hXb) (fun W b h => by have hd := divides_any (some ⟨b, 0, none⟩) q 64 W h (by omega); rw [hq] at hd; rw [Bool.not_not]; exact hd) (fun W => eq_sec _ _ hlA hlA hcA hcA true (by simp) W) ?_
  cases hra : rightF f
  · exact .inl (by simp)
  · refine .inr ⟨by simp, ?_⟩
    rw [hra, if_pos rfl] at hsec
    exact spoilt_dec hb q hq hqb X (by rw [hX, hsec])
end Go.Proofs.Ytfcadbeamojdpaa
