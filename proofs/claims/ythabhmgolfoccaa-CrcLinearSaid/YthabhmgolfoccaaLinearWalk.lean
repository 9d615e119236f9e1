/- Proved here: what the law CrcLinear's text does: it answers true. -/
import Derived.Test.YthabhmgolfoccaaTwoWalk
import Derived.Test.YthabhmgolfoccaaConf
import Derived.Test.YthabhmgolfoccaaMathD
import Derived.Deep.DeepMust
import Derived.Lib.MinMax
namespace Go.Proofs.Ythabhmgolfoccaa
open Go.RowKit Go.Rv
set_option linter.unusedVariables false
set_option maxRecDepth 100000 in
set_option maxHeartbeats 1000000 in
theorem linear_walk (a b : Option Addr) (l m : List Nat) (ca cb q n : Nat) (w : World) (ha : Bytes w a l) (hb : Bytes w b m) (hca : a = none → ca = 0) (hcb : b = none → cb = 0) (h300 : l.length ≤ 300) (hm300 : m.length ≤ 300) (hq : q ≤ 100)
    (hn : min (l.length : Int) (m.length : Int) = (n : Int)) (hnl : n ≤ l.length) (hnm : n ≤ m.length) (hlc : l.length ≤ ca) (hmc : m.length ≤ cb) :
    Calls Try.prog 5 #[.slice a l.length ca, .slice b m.length cb, .int .i64 q] w fun e w' => e = .returned (.bool true) ∧ Below w.heap.size w w' := by
  have hz := (zero_of_info Try.infoTab).1
  have hi : (Try.prog.info? 25).map (·.size) = some Tb.tabV.size := by rw [Tb.size_tabV]; exact (zero_of_info Try.infoTab).2
  have hI := Lib.hid hi
  clear hi
  have hmk := run_make_bytes (P := Try.prog) 28 5 Try.underlying28 Try.info5 (q + n) (by omega)
  rw [Int.natCast_add] at hmk
  go_enter Try.func5, Try.ntmps5
  go_wp2_with (first | (go_at_call 11; refine (anchor_any _).mono ?_; rintro e w1 ⟨rfl, hB1⟩) | (go_at_call 12; refine (new_any _).mono ?_; rintro e w2 ⟨rfl, hB2⟩) | (refine wpList_store_row rfl 25 _ _ rfl w2.heap.size Tb.tabV rfl rfl 25 Tb.zero (heap_alloc_new w2 _) hI.out (by rw [Tb.size_zero, Tb.size_tabV]) Tb.one_tabV ?_; rw [World.setRow_alloc_new]))
  have z1 := hB1.size
  have z2 := hB2.size
  have hlt2 : w2.heap.size < w2.heap.size + 1 := Nat.lt_succ_self _
  have hB2' : Below w.heap.size w ((w2.alloc (.cells Tb.tabV 25)).alloc (.cells (byteCells (List.replicate (q + n) 0)) 5)) := ((hB1.trans (hB2.mono z1)).alloc (by omega) _).alloc (by simp; omega) _
  go_loopw [40] (fun i wr => ∃ k : Nat, k ≤ n ∧ i = .int .i64 k ∧ wr.heap[w2.heap.size]? = some (.cells Tb.tabV 25 (0, 0)) ∧ wr.heap[w2.heap.size + 1]? = some (.cells (byteCells (Crc.xorUpto q n l m k)) 5 (0, 0)) ∧ Below w.heap.size w wr ∧ w2.heap.size + 1 < wr.heap.size) (fun i _ => n - (intOf i).toNat)
  case atStart => exact ⟨0, by omega, rfl, heap_alloc2_old _ _ _, heap_alloc2_new _ _ _, hB2', by simp⟩
  case round =>
    obtain ⟨k, hk, rfl, hT, hX, hBw, hsz⟩ := hrel
    by_cases hlt : k < n
    · obtain ⟨b1, o1, c1, rfl, hbl1, hc1, hc18, hlk1⟩ := (ha.below hBw).at (show k < l.length by omega)
      obtain ⟨b2, o2, c2, rfl, hbl2, hc2, hc28, hlk2⟩ := (hb.below hBw).at (show k < m.length by omega)
      have i1 : (k : Int) < (l.length : Int) := by omega
      have i2 : (k : Int) < (m.length : Int) := by omega
      have i3 : (q : Int) + (k : Int) < (q + n : Nat) := by omega
      obtain ⟨v, hv⟩ : ∃ v, v = c1 ^^^ c2 := ⟨_, rfl⟩
      have e1 : bits .xor .u8 (c1 : Int) (c2 : Int) = (v : Nat) := by rw [hv]; exact u8_xor_nat c1 c2 hc18 hc28
      have hxs : (Crc.xorUpto q n l m k).set (q + k) v = Crc.xorUpto q n l m (k + 1) := by
        rw [hv, Crc.xorUpto, List.getD_eq_getElem?_getD, List.getD_eq_getElem?_getD, hlk1, hlk2]; rfl
      have hX1 := Lib.hid (show ∀ W : World, W.heap[w2.heap.size + 1]? = some (.cells (byteCells (Crc.xorUpto q n l m k)) 5 (0, 0)) → (W.setCell ⟨w2.heap.size + 1, q + k, none⟩ (.int .u8 (v : Nat))).heap[w2.heap.size + 1]? = some (.cells (byteCells (Crc.xorUpto q n l m (k + 1))) 5 (0, 0)) from fun W h => by
        rw [heap_setCell_same _ _ _ _ _ _ h, byteCells_set, hxs])
      have hxl := Crc.length_xorUpto q n l m k
      have hXc : wr.cell? ⟨w2.heap.size + 1, q + k, none⟩ = some (.int .u8 ((Crc.xorUpto q n l m k).getD (q + k) 0 : Nat)) := (cell_of_row _ _ _ _ _ _ hX).trans (byteCells_at _ _ (by omega))
      have HXc := Lib.hid hXc
      have HX := Lib.hid hX
      have HT := Lib.hid hT
      have HV := Lib.hid hv
      clear hv hxs hxl hXc hX hT hlk1 hlk2 hz hmk hn
      go_wp2
      refine wp_region_conf 14 [Fact.eq ?r11x0, Fact.eq ?r11x1, Fact.eq ?r11x2, Fact.eq ?r11x3, Fact.eq ?r11x4, Fact.eq ?r11x5, Fact.eq ?r11x6, Fact.eq ?r11x7, Fact.eq ?r11x8, Fact.eq ?r11x9, Fact.eq ?r11x10, Fact.eq ?r11x11, Fact.eq ?r11x12, Fact.eq ?r11x13] ?r11A (by kernel_rfl) (by kernel_rfl) ?r11hA ?r11ho ?r11hend
      case r11hA =>
        intro vv
        simp only [putRules, Nat.reduceAdd]
        rfl
      case r11ho =>
        refine ⟨?_, ?_, ?_, ?_, ?_, ?_, ?_, ?_, ?_, ?_, ?_, ?_, ?_, ?_, trivial⟩
        · intro vv W K hB hd hK
          simp only [confRules] at hK
          have HK := Lib.hid hK
          clear hK hd
          go_wp2
          refine HK.out _ _ (Below.refl _ _) ?_
          rfl
        · intro vv W K hB hd hK
          simp only [confRules] at hK
          have HK := Lib.hid hK
          clear hK hd
          go_wp2
          refine HK.out _ _ (Below.refl _ _) ?_
          rfl
        · intro vv W K hB hd hK
          simp only [confRules] at hK
          have HK := Lib.hid hK
          clear hK hd
          go_wp2
          refine HK.out _ _ (Below.refl _ _) ?_
          rfl
        · intro vv W K hB hd hK
          simp only [confRules] at hd hK
          obtain ⟨h1, h2⟩ := hd
          simp only [h1, h2] at hK ⊢
          clear h1 h2
          have HK := Lib.hid hK
          clear hK
          go_wp2
          refine HK.out _ _ (Below.refl _ _) ?_
          rfl
        · intro vv W K hB hd hK
          simp only [confRules] at hK
          have HK := Lib.hid hK
          clear hK hd
          go_wp2
          refine HK.out _ _ (Below.refl _ _) ?_
          rfl
        · intro vv W K hB hd hK
          simp only [confRules] at hK
          have HK := Lib.hid hK
          clear hK hd
          go_wp2
          refine HK.out _ _ (Below.refl _ _) ?_
          rfl
        · intro vv W K hB hd hK
          simp only [confRules] at hd hK
          obtain ⟨h4, h5⟩ := hd
          simp only [h4, h5] at hK ⊢
          clear h4 h5
          have HK := Lib.hid hK
          clear hK
          go_wp2
          refine HK.out _ _ (Below.refl _ _) ?_
          rfl
        · intro vv W K hB hd hK
          simp only [confRules] at hd hK
          have h6 := hd
          clear hd
          simp only [h6] at hK ⊢
          clear h6
          have HK := Lib.hid hK
          clear hK
          have hcell := (hB.cell (p := ⟨b1, o1 + k, none⟩) hbl1).trans hc1
          go_wp2
          refine HK.out _ _ (Below.refl _ _) ?_
          rfl
        · intro vv W K hB hd hK
          simp only [confRules] at hK
          have HK := Lib.hid hK
          clear hK hd
          go_wp2
          refine HK.out _ _ (Below.refl _ _) ?_
          rfl
        · intro vv W K hB hd hK
          simp only [confRules] at hK
          have HK := Lib.hid hK
          clear hK hd
          go_wp2
          refine HK.out _ _ (Below.refl _ _) ?_
          rfl
        · intro vv W K hB hd hK
          simp only [confRules] at hd hK
          obtain ⟨h8, h9⟩ := hd
          simp only [h8, h9] at hK ⊢
          clear h8 h9
          have HK := Lib.hid hK
          clear hK
          go_wp2
          refine HK.out _ _ (Below.refl _ _) ?_
          rfl
        · intro vv W K hB hd hK
          simp only [confRules] at hd hK
          have h10 := hd
          clear hd
          simp only [h10] at hK ⊢
          clear h10
          have HK := Lib.hid hK
          clear hK
          have hcell := (hB.cell (p := ⟨b2, o2 + k, none⟩) hbl2).trans hc2
          go_wp2
          refine HK.out _ _ (Below.refl _ _) ?_
          rfl
        · intro vv W K hB hd hK
          simp only [confRules] at hd hK
          obtain ⟨h7, h11⟩ := hd
          simp only [h7, h11] at hK ⊢
          clear h7 h11
          have HK := Lib.hid hK
          clear hK
          go_wp2
          refine HK.out _ _ (Below.refl _ _) ?_
          rfl
        · intro vv W K hB hd hK
          simp only [confRules] at hd hK
          obtain ⟨h0, h3, _, h1, h2, _, h4, h5, h6, h7, h8, h9, h10, h11, h12⟩ := hd
          simp only [h0, h3, h1, h2, h4, h5, h6, h7, h8, h9, h10, h11, h12] at hK ⊢
          clear h0 h3 h1 h2 h4 h5 h6 h7 h8 h9 h10 h11 h12
          have HK := Lib.hid hK
          clear hK
          go_wp2
          refine HK.out _ _ (Below.refl _ _) ?_
          rfl
      case r11hend =>
        intro vv W hB hf
        have e12 := hf 12 (by decide)
        have e13 := hf 13 (by decide)
        simp only [endRules] at e12 e13
        simp only [e12, e13, dropRules]
        clear hf e12 e13
        have hf' : W.frozen? ⟨w2.heap.size + 1, q + k, none⟩ = false := (hB.frozen (p := ⟨w2.heap.size + 1, q + k, none⟩) hsz).trans (frozen_of_row _ _ _ _ _ HX.out)
        have hcell := (hB.cell (p := ⟨w2.heap.size + 1, q + k, none⟩) hsz).trans HXc.out
        go_wp2
        go_roundw
        case rel =>
          refine ⟨k + 1, by omega, by go_num, ?_, hX1.out W ((hB.block _ hsz).trans HX.out), ?_, ?_⟩
          · rw [heap_setCell_other _ _ _ _ (by simp)]
            exact (hB.block _ (by omega)).trans HT.out
          · exact (hBw.trans (hB.mono hBw.size)).setCell (p := ⟨w2.heap.size + 1, q + k, none⟩) (by simp; omega) _
          · have := hB.size
            simp [World.setCell]
            omega
        case measure => simp [intOf]; omega
    · obtain rfl : k = n := by omega
      have BA := Lib.hid ((ha.below hBw).take k)
      have BB := Lib.hid ((hb.below hBw).take k)
      have HT := Lib.hid hT
      have hg7 : w2.heap.size < wr.heap.size := by omega
      have BX := Lib.hid (byteCells_row hX (Crc.xorUpto_lt q k ha.1 hb.1 k))
      have HRX := Lib.hid (fun (W : World) hb => raw_any (some ⟨w2.heap.size + 1, 0, none⟩) (Crc.xorUpto q k l m k) (q + k) W hb (by rw [Crc.length_xorUpto]; omega))
      rw [Crc.length_xorUpto] at HRX
      have HRA := Lib.hid (fun (W : World) hb => raw_any a (l.take k) ca W hb (by simp; omega))
      have HRB := Lib.hid (fun (W : World) hb => raw_any b (m.take k) cb W hb (by simp; omega))
      rw [List.length_take, Nat.min_eq_left hnl] at HRA
      rw [List.length_take, Nat.min_eq_left hnm] at HRB
      obtain ⟨Z, hZ⟩ : ∃ Z, Z = List.replicate q 0 := ⟨_, rfl⟩
      have HR0 := Lib.hid (fun (W : World) (a' : Option Addr) (c' : Nat) hb => raw_any a' Z c' W hb (by rw [hZ]; simp; omega))
      rw [show Crc.over 0 Z = 0 by rw [hZ, Crc.over_noughts]] at HR0
      have HZ := Lib.hid hZ
      clear hZ
      have hfin := Crc.over_xorUpto q k l m hnl hnm
      have hxa : Crc.over 0 (l.take k) < 2 ^ 32 := over_take_lt (by decide) ha.1 k
      have hxb : Crc.over 0 (m.take k) < 2 ^ 32 := over_take_lt (by decide) hb.1 k
      have e2 := u32_xor_nat _ _ hxa hxb
      rw [← hfin] at e2
      have hmk0 := Lib.hid (run_make_bytes (P := Try.prog) 28 5 Try.underlying28 Try.info5 q (by omega))
      clear hlt hk hX hT hz hmk hn hfin hxa hxb hB1 hB2 hB2' ha hb
      generalize Crc.over 0 (l.take k) = oa at *
      generalize Crc.over 0 (m.take k) = ob at *
      generalize Crc.over 0 (Crc.xorUpto q k l m k) = ox at *
      have q1 : ((ox : Int) == (ox : Int)) = true := beq_self_eq_true _
      go_wp2
      refine wp_region_conf 22 [Fact.eq ?r13x0, Fact.eq ?r13x1, Fact.eq ?r13x2, Fact.eq ?r13x3, Fact.eq ?r13x4, Fact.eq ?r13x5, Fact.eq ?r13x6, Fact.eq ?r13x7, Fact.eq ?r13x8, Fact.eq ?r13x9, Fact.eq ?r13x10, Fact.eq ?r13x11, Fact.eq ?r13x12, Fact.eq ?r13x13, Fact.eq ?r13x14, Fact.eq ?r13x15, Fact.eq ?r13x16, Fact.eq ?r13x17, Fact.bytes Z, Fact.eq ?r13x19, Fact.eq ?r13x20, Fact.eq ?r13x21] ?r13A (by kernel_rfl) (by kernel_rfl) ?r13hA ?r13ho ?r13hend
      case r13hA =>
        intro vv
        simp only [putRules, Nat.reduceAdd]
        rfl
      case r13ho =>
        refine ⟨?_, ?_, ?_, ?_, ?_, ?_, ?_, ?_, ?_, ?_, ?_, ?_, ?_, ?_, ?_, ?_, ?_, ?_, ?_, ?_, ?_, ?_, trivial⟩
        · intro vv W K hB hd hK
          simp only [confRules] at hK
          have HK := Lib.hid hK
          clear hK hd
          have hT := (hB.block w2.heap.size hg7).trans HT.out
          go_wp2_with (refine wpList_load_row rfl 25 _ rfl w2.heap.size rfl 25 _ _ _ hT Try.underlying25 rfl hI.out ?_)
          refine HK.out _ _ (Below.refl _ _) ?_
          rfl
        · intro vv W K hB hd hK
          simp only [confRules] at hK
          have HK := Lib.hid hK
          clear hK hd
          go_wp2
          refine HK.out _ _ (Below.refl _ _) ?_
          rfl
        · intro vv W K hB hd hK
          simp only [confRules] at hd hK
          obtain ⟨h0, h1⟩ := hd
          simp only [h0, h1] at hK ⊢
          clear h0 h1
          have HK := Lib.hid hK
          clear hK
          go_wp2_with (go_at_call 13; refine (HRX.out _ (BX.out.below hB)).mono ?_; rintro e w8 ⟨rfl, hB8⟩)
          refine HK.out _ _ hB8 ?_
          rfl
        · intro vv W K hB hd hK
          simp only [confRules] at hK
          have HK := Lib.hid hK
          clear hK hd
          have hT := (hB.block w2.heap.size hg7).trans HT.out
          go_wp2_with (refine wpList_load_row rfl 25 _ rfl w2.heap.size rfl 25 _ _ _ hT Try.underlying25 rfl hI.out ?_)
          refine HK.out _ _ (Below.refl _ _) ?_
          rfl
        · intro vv W K hB hd hK
          simp only [confRules] at hK
          have HK := Lib.hid hK
          clear hK hd
          go_wp2
          refine HK.out _ _ (Below.refl _ _) ?_
          rfl
        · intro vv W K hB hd hK
          simp only [confRules] at hK
          have HK := Lib.hid hK
          clear hK hd
          go_wp2
          refine HK.out _ _ (Below.refl _ _) ?_
          rfl
        · intro vv W K hB hd hK
          simp only [confRules] at hd hK
          obtain ⟨h4, h5⟩ := hd
          simp only [h4, h5] at hK ⊢
          clear h4 h5
          have HK := Lib.hid hK
          clear hK
          go_wp2
          refine HK.out _ _ (Below.refl _ _) ?_
          rfl
        · intro vv W K hB hd hK
          simp only [confRules] at hd hK
          obtain ⟨h3, h6, h2⟩ := hd
          simp only [h3, h6, h2] at hK ⊢
          clear h3 h6 h2
          have HK := Lib.hid hK
          clear hK
          go_wp2_with (go_at_call 13; refine (HRA.out _ (BA.out.below hB)).mono ?_; rintro e w8 ⟨rfl, hB8⟩)
          refine HK.out _ _ hB8 ?_
          rfl
        · intro vv W K hB hd hK
          simp only [confRules] at hK
          have HK := Lib.hid hK
          clear hK hd
          have hT := (hB.block w2.heap.size hg7).trans HT.out
          go_wp2_with (refine wpList_load_row rfl 25 _ rfl w2.heap.size rfl 25 _ _ _ hT Try.underlying25 rfl hI.out ?_)
          refine HK.out _ _ (Below.refl _ _) ?_
          rfl
        · intro vv W K hB hd hK
          simp only [confRules] at hK
          have HK := Lib.hid hK
          clear hK hd
          go_wp2
          refine HK.out _ _ (Below.refl _ _) ?_
          rfl
        · intro vv W K hB hd hK
          simp only [confRules] at hK
          have HK := Lib.hid hK
          clear hK hd
          go_wp2
          refine HK.out _ _ (Below.refl _ _) ?_
          rfl
        · intro vv W K hB hd hK
          simp only [confRules] at hd hK
          obtain ⟨h9, h10⟩ := hd
          simp only [h9, h10] at hK ⊢
          clear h9 h10
          have HK := Lib.hid hK
          clear hK
          go_wp2
          refine HK.out _ _ (Below.refl _ _) ?_
          rfl
        · intro vv W K hB hd hK
          simp only [confRules] at hd hK
          obtain ⟨h8, h11, h7⟩ := hd
          simp only [h8, h11, h7] at hK ⊢
          clear h8 h11 h7
          have HK := Lib.hid hK
          clear hK
          go_wp2_with (go_at_call 13; refine (HRB.out _ (BB.out.below hB)).mono ?_; rintro e w8 ⟨rfl, hB8⟩)
          refine HK.out _ _ hB8 ?_
          rfl
        · intro vv W K hB hd hK
          simp only [confRules] at hd hK
          obtain ⟨h7, h12⟩ := hd
          simp only [h7, h12] at hK ⊢
          clear h7 h12
          have HK := Lib.hid hK
          clear hK
          go_wp2
          refine HK.out _ _ (Below.refl _ _) ?_
          rfl
        · intro vv W K hB hd hK
          simp only [confRules] at hd hK
          obtain ⟨h2, h13⟩ := hd
          simp only [h2, h13] at hK ⊢
          clear h2 h13
          have HK := Lib.hid hK
          clear hK
          go_wp2
          refine HK.out _ _ (Below.refl _ _) ?_
          rfl
        · intro vv W K hB hd hK
          simp only [confRules] at hd hK
          obtain ⟨h14, h12⟩ := hd
          simp only [h14, h12] at hK ⊢
          clear h14 h12
          have HK := Lib.hid hK
          clear hK
          go_wp2
          refine HK.out _ _ (Below.refl _ _) ?_
          rfl
        · intro vv W K hB hd hK
          simp only [confRules] at hd hK
          have h15 := hd
          clear hd
          simp only [h15] at hK ⊢
          clear h15
          have HK := Lib.hid hK
          clear hK
          refine wpList_guard_yes (by rfl) ?_
          have hT := (hB.block w2.heap.size hg7).trans HT.out
          go_wp2_with (refine wpList_load_row rfl 25 _ rfl w2.heap.size rfl 25 _ _ _ hT Try.underlying25 rfl hI.out ?_)
          refine HK.out _ _ (Below.refl _ _) ?_
          rfl
        · intro vv W K hB hd hK
          simp only [confRules] at hd hK
          have h15 := hd
          clear hd
          simp only [h15] at hK ⊢
          clear h15
          have HK := Lib.hid hK
          clear hK
          refine wpList_guard_yes (by rfl) ?_
          go_wp2
          refine HK.out _ _ (Below.refl _ _) ?_
          rfl
        · intro vv W K hB hd hK
          simp only [confRules] at hd hK
          obtain ⟨h17, _, h15⟩ := hd
          simp only [h17, h15] at hK ⊢
          clear h17 h15
          have HK := Lib.hid hK
          clear hK
          refine wpList_guard_yes (by rfl) ?_
          have hm := hmk0.out
          go_wp2
          refine HK.out _ _ ((Below.refl _ _).alloc (Nat.le_refl _) _) ?_
          exact ⟨_, _, by rw [HZ.out, List.length_replicate], by rw [HZ.out]; exact byteCells_row (heap_alloc_new W _) (Crc.zeros_lt q), fun e => by cases e⟩
        · intro vv W K hB hd hK
          simp only [confRules] at hd hK
          obtain ⟨h16, ⟨a18, c18, h18, b18, z18⟩, h15, _⟩ := hd
          simp only [h16, h18, h15] at hK ⊢
          clear h16 h18 h15
          have HK := Lib.hid hK
          clear hK
          refine wpList_guard_yes (by rfl) ?_
          go_wp2_with (go_at_call 13; refine (HR0.out _ a18 c18 b18).mono ?_; rintro e w8 ⟨rfl, hB8⟩)
          refine HK.out _ _ hB8 ?_
          rfl
        · intro vv W K hB hd hK
          simp only [confRules] at hd hK
          obtain ⟨h19, h15⟩ := hd
          simp only [h19, h15] at hK ⊢
          clear h19 h15
          have HK := Lib.hid hK
          clear hK
          refine wpList_guard_yes (by rfl) ?_
          go_wp2
          refine HK.out _ _ (Below.refl _ _) ?_
          rfl
        · intro vv W K hB hd hK
          simp only [confRules] at hd hK
          obtain ⟨h15, h20⟩ := hd
          simp only [h15, h20] at hK ⊢
          clear h15 h20
          have HK := Lib.hid hK
          clear hK
          go_wp2
          refine HK.out _ _ (Below.refl _ _) ?_
          rfl
      case r13hend =>
        intro vv W hB hf
        have e21 := hf 21 (by decide)
        simp only [endRules] at e21
        simp only [e21, dropRules]
        clear hf e21
        go_wp2
        go_ret
        exact ⟨rfl, hBw.trans (hB.mono hBw.size)⟩
end Go.Proofs.Ythabhmgolfoccaa
