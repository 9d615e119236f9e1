/- Proved here: what the law CrcSums' text does: it answers true. -/
import Derived.Test.YthabhmgolfoccaaTwoWalk
import Derived.Test.YthabhmgolfoccaaConf
import Derived.Deep.DeepMust
namespace Go.Proofs.Ythabhmgolfoccaa
open Go.RowKit Go.Rv
set_option linter.unusedVariables false
theorem one_byte (W : World) (c : Nat) (hc : c < 256) : Bytes (W.alloc (.cells #[.int .u8 (c : Nat)] 5)) (some ⟨W.heap.size, 0, none⟩) [c] :=
  byteCells_row (l := [c]) (heap_alloc_new W (.cells #[.int .u8 (c : Nat)] 5)) (by simpa using hc)
set_option maxRecDepth 100000 in
set_option maxHeartbeats 4000000 in
theorem sums_walk (a b : Option Addr) (l m : List Nat) (ca cb r c : Nat) (w : World) (ha : Bytes w a l) (hb : Bytes w b m) (hca : a = none → ca = 0) (hcb : b = none → cb = 0) (h300 : l.length ≤ 300) (hm300 : m.length ≤ 300) (hr : r < 2 ^ 32) (hc : c < 256) :
    Calls Try.prog 4 #[.slice a l.length ca, .slice b m.length cb, .int .u32 r, .int .u8 c] w fun e w' => e = .returned (.bool true) ∧ Below w.heap.size w w' := by
  have hz := (zero_of_info Try.infoTab).1
  have hi : (Try.prog.info? 25).map (·.size) = some Tb.tabV.size := by rw [Tb.size_tabV]; exact (zero_of_info Try.infoTab).2
  have hI := Lib.hid hi
  clear hi
  go_enter Try.func4, Try.ntmps4
  go_wp2_with (first | (go_at_call 11; refine (anchor_any _).mono ?_; rintro e w1 ⟨rfl, hB1⟩) | (go_at_call 12; refine (new_any _).mono ?_; rintro e w2 ⟨rfl, hB2⟩) | (refine wpList_store_row rfl 25 _ _ rfl w2.heap.size Tb.tabV rfl rfl 25 Tb.zero (heap_alloc_new w2 _) hI.out (by rw [Tb.size_zero, Tb.size_tabV]) Tb.one_tabV ?_; rw [World.setRow_alloc_new]) | (at_builtin; go_must (refine wpList_append_bytes rfl (.tmp 25) (.tmp 26) 28 rfl 5 Try.underlying28 Try.info5 (w2.heap.size + 1) _ [] rfl (OwnB.made (g := w2.heap.size + 1) (Nat.le_refl _) (heap_alloc2_new _ _ _) rfl (by unfold maxLen; omega)) a ca l rfl (ha.below ?_) hca (by simp; omega) (by simp) ?_)))
  · exact ((hB1.trans (hB2.mono hB1.size)).alloc (by have := hB1.size; have := hB2.size; omega) _).alloc (by have := hB1.size; have := hB2.size; simp; omega) _
  · intro v3 w3 hown3 hgrow3
    have z1 := hB1.size
    have z2 := hB2.size
    have z3 := hgrow3.size
    simp only [World.size_alloc] at z3
    have hB3 : Below w.heap.size w w3 := by
      refine ((((hB1.trans (hB2.mono z1)).alloc (by omega) _).alloc (by simp; omega) _)).grown hgrow3 (by simp; omega) ?_
      intro k hk
      simp [Value.ownBlock] at hk
      omega
    have hT3 : w3.heap[w2.heap.size]? = some (.cells Tb.tabV 25 (0, 0)) := by
      rw [hgrow3.block _ (by simp; omega) (by simp [Value.ownBlock])]
      exact heap_alloc2_old _ _ _
    have hlt2 : w2.heap.size < w2.heap.size + 1 := Nat.lt_succ_self _
    have hle3 : w2.heap.size + 1 ≤ w3.heap.size := by omega
    have hle0 : w.heap.size ≤ w2.heap.size + 1 := by omega
    go_wp2_with (first | (at_builtin; go_must (refine wpList_append_bytes rfl (.tmp 27) (.tmp 28) 28 rfl 5 Try.underlying28 Try.info5 (w2.heap.size + 1) v3 l rfl hown3 b cb m rfl (hb.below hB3) hcb (by omega) hle3 ?_; intro v4 w4 hown4 hgrow4; have hb4 := hown3.grown hgrow4 hle3; have hT4 := (hb4.block _ hlt2).trans hT3; have hB4 := hB3.trans (hb4.mono hle0))) | (refine wpList_load_row rfl 25 _ rfl w2.heap.size rfl 25 _ _ _ hT4 Try.underlying25 rfl hI.out ?_) | (go_at_call 13; refine (raw_any a l ca _ (ha.below hB4) (by omega)).mono ?_; rintro e w5 ⟨rfl, hB5⟩))
    obtain ⟨bo, hbo⟩ : ∃ bo, bo = l ++ m := ⟨_, rfl⟩
    rw [← hbo] at hown4
    have HBO := Lib.hid hbo
    have hbol : bo.length ≤ 600 := by rw [hbo]; simp; omega
    clear hbo
    obtain ⟨p4, c4, rfl, BC4, hn4, _⟩ := hown4.bytes
    have B45 : Below w.heap.size w w5 := hB4.trans (hB5.mono hB4.size)
    have BB5 := Lib.hid (hb.below B45)
    have BA5 := Lib.hid (ha.below B45)
    have BC5 := Lib.hid (BC4.below hB5)
    have hg5 : w2.heap.size < w5.heap.size := by have := hB5.size; have := hb4.size; omega
    have hT5 : w5.heap[w2.heap.size]? = some (.cells Tb.tabV 25 (0, 0)) := (hB5.block _ (by have := hb4.size; omega)).trans hT4
    have hO0 : Crc.over 0 l < 2 ^ 32 := Crc.over_lt (by decide) ha.1
    clear hown3 hown4 hgrow3 hgrow4 hT3 hB3 hn4 hb4 BC4 hT4 hB5
    go_loopw [11, 35] (fun q i wr => ∃ k : Nat, k ≤ m.length ∧ i = .int .i64 k ∧ q = .int .u32 (Crc.over (Crc.over 0 l) (m.take k) : Nat) ∧ Below w5.heap.size w5 wr) (fun _ i _ => m.length - (intOf i).toNat)
    case atStart => exact ⟨0, by omega, rfl, rfl, Below.refl _ _⟩
    case round =>
      obtain ⟨k, hk, rfl, rfl, hB⟩ := hrel
      by_cases hlt : k < m.length
      · obtain ⟨b6, o6, c6, rfl, hbl, hc6, hc8, hlk⟩ := (BB5.out.below hB).at hlt
        have hT := (hB.block _ hg5).trans hT5
        have hs := Lib.hid (over_take_succ (Crc.over 0 l) m k c6 hlk)
        have hl32 := over_take_lt hO0 hb.1 k
        clear hlk
        generalize Crc.over (Crc.over 0 l) (m.take k) = q at *
        go_wp2_with (first | (refine wpList_load_row rfl 25 _ rfl w2.heap.size rfl 25 _ _ _ hT Try.underlying25 rfl hI.out ?_) | (go_at_call 14; refine (step_any _ _ hl32 hc8 _).mono ?_; rintro e w6 ⟨rfl, hB6⟩))
        go_roundw
        case rel => exact ⟨k + 1, by omega, by go_num, by rw [hs.out], hB.trans (hB6.mono hB.size)⟩
        case measure => simp [intOf]; omega
      · obtain rfl : k = m.length := by omega
        have e7 : Crc.over (Crc.over 0 l) (m.take m.length) = Crc.over 0 bo := by rw [List.take_length, ← Crc.over_append, ← HBO.out]
        rw [e7]
        have B7 : Below w.heap.size w wr := B45.trans (hB.mono B45.size)
        have BA := Lib.hid (BA5.out.below hB)
        have BC := Lib.hid (BC5.out.below hB)
        have HT := Lib.hid ((hB.block _ hg5).trans hT5)
        have hg7 : w2.heap.size < wr.heap.size := by have := hB.size; omega
        have HO := Lib.hid (fun (W : World) (a' : Option Addr) (c' : Nat) hb' => rover_any r a' [c] c' hr W hb' (by simp))
        rw [show Crc.over r [c] = Crc.step r c from rfl] at HO
        have HO0 := Lib.hid (fun (W : World) (a' : Option Addr) (c' : Nat) hb' => rover_any 0 a' [c] c' (by decide) W hb' (by simp))
        rw [show Crc.over 0 [c] = Crc.tab c by show Crc.hn 8 (0 ^^^ c) = _; rw [Nat.zero_xor]; rfl] at HO0
        have HRA := Lib.hid (fun (W : World) hb => raw_any a l ca W hb (by omega))
        have HOA := Lib.hid (fun (W : World) hb => rover_any 0 a l ca (by decide) W hb (by omega))
        have HSA := Lib.hid (fun (W : World) hb => sum_any a l ca W hb (by omega))
        have HTA := Lib.hid (fun (W : World) hb => rsum_any a l ca W hb (by omega))
        have HRC := Lib.hid (fun (W : World) hb => raw_any p4 bo c4 W hb (by omega))
        have HST := Lib.hid (fun (W : World) => step_any r c hr hc W)
        have htc := Tb.tabV_at c hc
        clear hlt hk e7 hT5 hB hg5 B45 BB5 BA5 BC5 hB4 hz hle0 hle3 hlt2 z1 z2 z3 ha hb hO0 hB1 hB2
        generalize Crc.step r c = sx at *
        generalize Crc.tab c = tc at *
        generalize Crc.over 0 l = ol at *
        generalize Crc.sum l = sl at *
        generalize Crc.over 0 bo = olm at *
        have q1 : ((sx : Int) == (sx : Int)) = true := beq_self_eq_true _
        have q2 : ((tc : Int) == (tc : Int)) = true := beq_self_eq_true _
        have q3 : ((ol : Int) == (ol : Int)) = true := beq_self_eq_true _
        have q4 : ((sl : Int) == (sl : Int)) = true := beq_self_eq_true _
        have q5 : ((olm : Int) == (olm : Int)) = true := beq_self_eq_true _
        go_wp2_with fail
        refine wp_region_conf 41 [Fact.eq ?x0, Fact.eq ?x1, Fact.eq ?x2, Fact.eq ?x3, Fact.eq ?x4, Fact.eq ?x5, Fact.bytes [c], Fact.eq ?x7, Fact.eq ?x8, Fact.eq ?x9, Fact.eq ?x10, Fact.eq ?x11, Fact.eq ?x12, Fact.eq ?x13, Fact.eq ?x14, Fact.eq ?x15, Fact.eq ?x16, Fact.eq ?x17, Fact.eq ?x18, Fact.eq ?x19, Fact.eq ?x20, Fact.eq ?x21, Fact.eq ?x22, Fact.eq ?x23, Fact.eq ?x24, Fact.eq ?x25, Fact.eq ?x26, Fact.eq ?x27, Fact.eq ?x28, Fact.eq ?x29, Fact.eq ?x30, Fact.eq ?x31, Fact.eq ?x32, Fact.eq ?x33, Fact.eq ?x34, Fact.eq ?x35, Fact.eq ?x36, Fact.bytes [c], Fact.eq ?x38, Fact.eq ?x39, Fact.eq ?x40] ?A (by kernel_rfl) (by kernel_rfl) ?hA ?ho ?hend
        case hA =>
          intro vv
          simp only [putRules, Nat.reduceAdd]
          rfl
        case ho =>
          refine ⟨?_, ?_, ?_, ?_, ?_, ?_, ?_, ?_, ?_, ?_, ?_, ?_, ?_, ?_, ?_, ?_, ?_, ?_, ?_, ?_, ?_, ?_, ?_, ?_, ?_, ?_, ?_, ?_, ?_, ?_, ?_, ?_, ?_, ?_, ?_, ?_, ?_, ?_, ?_, ?_, ?_, trivial⟩
          · intro vv W K hB hd hK
            simp only [confRules] at hK
            have HK := Lib.hid hK
            clear hK hd
            have hT := (hB.block w2.heap.size hg7).trans HT.out
            go_wp2_with (refine wpList_load_row rfl 25 _ rfl w2.heap.size rfl 25 _ _ _ hT Try.underlying25 rfl hI.out ?_)
            refine HK.out _ _ (Below.refl _ _) ?_
            rfl
          · intro vv W K hB hd hK
            simp only [confRules] at hK
            have HK := Lib.hid hK
            clear hK hd
            go_wp2
            refine HK.out _ _ (Below.refl _ _) ?_
            rfl
          · intro vv W K hB hd hK
            simp only [confRules] at hK
            have HK := Lib.hid hK
            clear hK hd
            go_wp2
            refine HK.out _ _ (Below.refl _ _) ?_
            rfl
          · intro vv W K hB hd hK
            simp only [confRules] at hd hK
            obtain ⟨h0, h1, h2⟩ := hd
            simp only [h0, h1, h2] at hK ⊢
            clear h0 h1 h2
            have HK := Lib.hid hK
            clear hK
            go_wp2_with (go_at_call 14; refine (HST.out _).mono ?_; rintro e w8 ⟨rfl, hB8⟩)
            refine HK.out _ _ hB8 ?_
            rfl
          · intro vv W K hB hd hK
            simp only [confRules] at hK
            have HK := Lib.hid hK
            clear hK hd
            go_wp2
            refine HK.out _ _ (Below.refl _ _) ?_
            rfl
          · intro vv W K hB hd hK
            simp only [confRules] at hK
            have HK := Lib.hid hK
            clear hK hd
            go_wp2
            refine HK.out _ _ (Below.refl _ _) ?_
            rfl
          · intro vv W K hB hd hK
            simp only [confRules] at hd hK
            have h5 := hd
            clear hd
            simp only [h5] at hK ⊢
            clear h5
            have HK := Lib.hid hK
            clear hK
            go_wp2
            refine HK.out _ _ ((Below.refl _ _).alloc (Nat.le_refl _) _) ?_
            exact ⟨_, _, rfl, one_byte W c hc, fun e => by cases e⟩
          · intro vv W K hB hd hK
            simp only [confRules] at hd hK
            obtain ⟨h4, ⟨a6, c6, h6, b6, z6⟩, h3⟩ := hd
            simp only [h4, h6, h3] at hK ⊢
            clear h4 h6 h3
            have HK := Lib.hid hK
            clear hK
            go_wp2_with (go_at_call 15; refine (HO.out _ a6 c6 b6).mono ?_; rintro e w8 ⟨rfl, rfl⟩)
            refine HK.out _ _ (Below.refl _ _) ?_
            rfl
          · intro vv W K hB hd hK
            simp only [confRules] at hd hK
            obtain ⟨h3, h7⟩ := hd
            simp only [h3, h7] at hK ⊢
            clear h3 h7
            have HK := Lib.hid hK
            clear hK
            go_wp2
            refine HK.out _ _ (Below.refl _ _) ?_
            rfl
          · intro vv W K hB hd hK
            simp only [confRules] at hd hK
            obtain ⟨h8, h7⟩ := hd
            simp only [h8, h7] at hK ⊢
            clear h8 h7
            have HK := Lib.hid hK
            clear hK
            go_wp2
            refine HK.out _ _ (Below.refl _ _) ?_
            rfl
          · intro vv W K hB hd hK
            simp only [confRules] at hd hK
            have h9 := hd
            clear hd
            simp only [h9] at hK ⊢
            clear h9
            have HK := Lib.hid hK
            clear hK
            refine wpList_guard_yes (by rfl) ?_
            have hT := (hB.block w2.heap.size hg7).trans HT.out
            go_wp2_with (refine wpList_load_row rfl 25 _ rfl w2.heap.size rfl 25 _ _ _ hT Try.underlying25 rfl hI.out ?_)
            refine HK.out _ _ (Below.refl _ _) ?_
            rfl
          · intro vv W K hB hd hK
            simp only [confRules] at hd hK
            have h9 := hd
            clear hd
            simp only [h9] at hK ⊢
            clear h9
            have HK := Lib.hid hK
            clear hK
            refine wpList_guard_yes (by rfl) ?_
            go_wp2
            refine HK.out _ _ (Below.refl _ _) ?_
            rfl
          · intro vv W K hB hd hK
            simp only [confRules] at hd hK
            obtain ⟨h10, h11, h9, _⟩ := hd
            simp only [h10, h11, h9] at hK ⊢
            clear h10 h11 h9
            have HK := Lib.hid hK
            clear hK
            refine wpList_guard_yes (by rfl) ?_
            go_wp2_with (go_at_call 13; refine (HRA.out _ (BA.out.below hB)).mono ?_; rintro e w8 ⟨rfl, hB8⟩)
            refine HK.out _ _ hB8 ?_
            rfl
          · intro vv W K hB hd hK
            simp only [confRules] at hd hK
            have h9 := hd
            clear hd
            simp only [h9] at hK ⊢
            clear h9
            have HK := Lib.hid hK
            clear hK
            refine wpList_guard_yes (by rfl) ?_
            go_wp2
            refine HK.out _ _ (Below.refl _ _) ?_
            rfl
          · intro vv W K hB hd hK
            simp only [confRules] at hd hK
            obtain ⟨h13, h12, h9⟩ := hd
            simp only [h13, h12, h9] at hK ⊢
            clear h13 h12 h9
            have HK := Lib.hid hK
            clear hK
            refine wpList_guard_yes (by rfl) ?_
            go_wp2_with (go_at_call 15; refine (HOA.out _ (BA.out.below hB)).mono ?_; rintro e w8 ⟨rfl, rfl⟩)
            refine HK.out _ _ (Below.refl _ _) ?_
            rfl
          · intro vv W K hB hd hK
            simp only [confRules] at hd hK
            obtain ⟨h12, h14, h9⟩ := hd
            simp only [h12, h14, h9] at hK ⊢
            clear h12 h14 h9
            have HK := Lib.hid hK
            clear hK
            refine wpList_guard_yes (by rfl) ?_
            go_wp2
            refine HK.out _ _ (Below.refl _ _) ?_
            rfl
          · intro vv W K hB hd hK
            simp only [confRules] at hd hK
            obtain ⟨h9, h15⟩ := hd
            simp only [h9, h15] at hK ⊢
            clear h9 h15
            have HK := Lib.hid hK
            clear hK
            go_wp2
            refine HK.out _ _ (Below.refl _ _) ?_
            rfl
          · intro vv W K hB hd hK
            simp only [confRules] at hd hK
            obtain ⟨h16, h14⟩ := hd
            simp only [h16, h14] at hK ⊢
            clear h16 h14
            have HK := Lib.hid hK
            clear hK
            go_wp2
            refine HK.out _ _ (Below.refl _ _) ?_
            rfl
          · intro vv W K hB hd hK
            simp only [confRules] at hd hK
            have h17 := hd
            clear hd
            simp only [h17] at hK ⊢
            clear h17
            have HK := Lib.hid hK
            clear hK
            refine wpList_guard_yes (by rfl) ?_
            have hT := (hB.block w2.heap.size hg7).trans HT.out
            go_wp2_with (refine wpList_load_row rfl 25 _ rfl w2.heap.size rfl 25 _ _ _ hT Try.underlying25 rfl hI.out ?_)
            refine HK.out _ _ (Below.refl _ _) ?_
            rfl
          · intro vv W K hB hd hK
            simp only [confRules] at hd hK
            have h17 := hd
            clear hd
            simp only [h17] at hK ⊢
            clear h17
            have HK := Lib.hid hK
            clear hK
            refine wpList_guard_yes (by rfl) ?_
            go_wp2
            refine HK.out _ _ (Below.refl _ _) ?_
            rfl
          · intro vv W K hB hd hK
            simp only [confRules] at hd hK
            obtain ⟨h18, h19, h17, _⟩ := hd
            simp only [h18, h19, h17] at hK ⊢
            clear h18 h19 h17
            have HK := Lib.hid hK
            clear hK
            refine wpList_guard_yes (by rfl) ?_
            go_wp2_with (go_at_call 16; refine (HSA.out _ (BA.out.below hB)).mono ?_; rintro e w8 ⟨rfl, hB8⟩)
            refine HK.out _ _ hB8 ?_
            rfl
          · intro vv W K hB hd hK
            simp only [confRules] at hd hK
            have h17 := hd
            clear hd
            simp only [h17] at hK ⊢
            clear h17
            have HK := Lib.hid hK
            clear hK
            refine wpList_guard_yes (by rfl) ?_
            go_wp2
            refine HK.out _ _ (Below.refl _ _) ?_
            rfl
          · intro vv W K hB hd hK
            simp only [confRules] at hd hK
            obtain ⟨h21, h20, h17⟩ := hd
            simp only [h21, h20, h17] at hK ⊢
            clear h21 h20 h17
            have HK := Lib.hid hK
            clear hK
            refine wpList_guard_yes (by rfl) ?_
            go_wp2_with (go_at_call 17; refine (HTA.out _ (BA.out.below hB)).mono ?_; rintro e w8 ⟨rfl, rfl⟩)
            refine HK.out _ _ (Below.refl _ _) ?_
            rfl
          · intro vv W K hB hd hK
            simp only [confRules] at hd hK
            obtain ⟨h20, h22, h17⟩ := hd
            simp only [h20, h22, h17] at hK ⊢
            clear h20 h22 h17
            have HK := Lib.hid hK
            clear hK
            refine wpList_guard_yes (by rfl) ?_
            go_wp2
            refine HK.out _ _ (Below.refl _ _) ?_
            rfl
          · intro vv W K hB hd hK
            simp only [confRules] at hd hK
            obtain ⟨h17, h23⟩ := hd
            simp only [h17, h23] at hK ⊢
            clear h17 h23
            have HK := Lib.hid hK
            clear hK
            go_wp2
            refine HK.out _ _ (Below.refl _ _) ?_
            rfl
          · intro vv W K hB hd hK
            simp only [confRules] at hd hK
            obtain ⟨h24, h22⟩ := hd
            simp only [h24, h22] at hK ⊢
            clear h24 h22
            have HK := Lib.hid hK
            clear hK
            go_wp2
            refine HK.out _ _ (Below.refl _ _) ?_
            rfl
          · intro vv W K hB hd hK
            simp only [confRules] at hd hK
            have h25 := hd
            clear hd
            simp only [h25] at hK ⊢
            clear h25
            have HK := Lib.hid hK
            clear hK
            refine wpList_guard_yes (by rfl) ?_
            have hT := (hB.block w2.heap.size hg7).trans HT.out
            go_wp2_with (refine wpList_load_row rfl 25 _ rfl w2.heap.size rfl 25 _ _ _ hT Try.underlying25 rfl hI.out ?_)
            refine HK.out _ _ (Below.refl _ _) ?_
            rfl
          · intro vv W K hB hd hK
            simp only [confRules] at hd hK
            have h25 := hd
            clear hd
            simp only [h25] at hK ⊢
            clear h25
            have HK := Lib.hid hK
            clear hK
            refine wpList_guard_yes (by rfl) ?_
            go_wp2
            refine HK.out _ _ (Below.refl _ _) ?_
            rfl
          · intro vv W K hB hd hK
            simp only [confRules] at hd hK
            obtain ⟨h26, h27, h25, _⟩ := hd
            simp only [h26, h27, h25] at hK ⊢
            clear h26 h27 h25
            have HK := Lib.hid hK
            clear hK
            refine wpList_guard_yes (by rfl) ?_
            go_wp2_with (go_at_call 13; refine (HRC.out _ (BC.out.below hB)).mono ?_; rintro e w8 ⟨rfl, hB8⟩)
            refine HK.out _ _ hB8 ?_
            rfl
          · intro vv W K hB hd hK
            simp only [confRules] at hd hK
            have h25 := hd
            clear hd
            simp only [h25] at hK ⊢
            clear h25
            have HK := Lib.hid hK
            clear hK
            refine wpList_guard_yes (by rfl) ?_
            go_wp2
            refine HK.out _ _ (Below.refl _ _) ?_
            rfl
          · intro vv W K hB hd hK
            simp only [confRules] at hd hK
            obtain ⟨h28, h29, h25⟩ := hd
            simp only [h28, h29, h25] at hK ⊢
            clear h28 h29 h25
            have HK := Lib.hid hK
            clear hK
            refine wpList_guard_yes (by rfl) ?_
            go_wp2
            refine HK.out _ _ (Below.refl _ _) ?_
            rfl
          · intro vv W K hB hd hK
            simp only [confRules] at hd hK
            obtain ⟨h25, h30⟩ := hd
            simp only [h25, h30] at hK ⊢
            clear h25 h30
            have HK := Lib.hid hK
            clear hK
            go_wp2
            refine HK.out _ _ (Below.refl _ _) ?_
            rfl
          · intro vv W K hB hd hK
            simp only [confRules] at hd hK
            obtain ⟨h31, h28⟩ := hd
            simp only [h31, h28] at hK ⊢
            clear h31 h28
            have HK := Lib.hid hK
            clear hK
            go_wp2
            refine HK.out _ _ (Below.refl _ _) ?_
            rfl
          · intro vv W K hB hd hK
            simp only [confRules] at hd hK
            have h32 := hd
            clear hd
            simp only [h32] at hK ⊢
            clear h32
            have HK := Lib.hid hK
            clear hK
            refine wpList_guard_yes (by rfl) ?_
            go_wp2
            refine HK.out _ _ (Below.refl _ _) ?_
            rfl
          · intro vv W K hB hd hK
            simp only [confRules] at hd hK
            obtain ⟨h33, h32⟩ := hd
            simp only [h33, h32] at hK ⊢
            clear h33 h32
            have HK := Lib.hid hK
            clear hK
            refine wpList_guard_yes (by rfl) ?_
            have hcI : (c : Int) < 256 := by omega
            go_wp2
            refine HK.out _ _ (Below.refl _ _) ?_
            rfl
          · intro vv W K hB hd hK
            simp only [confRules] at hd hK
            obtain ⟨h34, h32⟩ := hd
            simp only [h34, h32] at hK ⊢
            clear h34 h32
            have HK := Lib.hid hK
            clear hK
            refine wpList_guard_yes (by rfl) ?_
            have hT := (hB.block w2.heap.size hg7).trans HT.out
            have hcell : W.cell? ⟨w2.heap.size, c, none⟩ = some (.int .u32 (tc : Nat)) := (cell_of_row _ _ _ _ _ _ hT).trans htc
            clear hT
            go_wp2
            refine HK.out _ _ (Below.refl _ _) ?_
            rfl
          · intro vv W K hB hd hK
            simp only [confRules] at hd hK
            have h32 := hd
            clear hd
            simp only [h32] at hK ⊢
            clear h32
            have HK := Lib.hid hK
            clear hK
            refine wpList_guard_yes (by rfl) ?_
            go_wp2
            refine HK.out _ _ (Below.refl _ _) ?_
            rfl
          · intro vv W K hB hd hK
            simp only [confRules] at hd hK
            obtain ⟨h36, h32⟩ := hd
            simp only [h36, h32] at hK ⊢
            clear h36 h32
            have HK := Lib.hid hK
            clear hK
            refine wpList_guard_yes (by rfl) ?_
            go_wp2
            refine HK.out _ _ ((Below.refl _ _).alloc (Nat.le_refl _) _) ?_
            exact ⟨_, _, rfl, one_byte W c hc, fun e => by cases e⟩
          · intro vv W K hB hd hK
            simp only [confRules] at hd hK
            obtain ⟨⟨a37, c37, h37, b37, z37⟩, h32, _⟩ := hd
            simp only [h37, h32] at hK ⊢
            clear h37 h32
            have HK := Lib.hid hK
            clear hK
            refine wpList_guard_yes (by rfl) ?_
            go_wp2_with (go_at_call 15; refine (HO0.out _ a37 c37 b37).mono ?_; rintro e w8 ⟨rfl, rfl⟩)
            refine HK.out _ _ (Below.refl _ _) ?_
            rfl
          · intro vv W K hB hd hK
            simp only [confRules] at hd hK
            obtain ⟨h35, h38, h32⟩ := hd
            simp only [h35, h38, h32] at hK ⊢
            clear h35 h38 h32
            have HK := Lib.hid hK
            clear hK
            refine wpList_guard_yes (by rfl) ?_
            go_wp2
            refine HK.out _ _ (Below.refl _ _) ?_
            rfl
          · intro vv W K hB hd hK
            simp only [confRules] at hd hK
            obtain ⟨h32, h39⟩ := hd
            simp only [h32, h39] at hK ⊢
            clear h32 h39
            have HK := Lib.hid hK
            clear hK
            go_wp2
            refine HK.out _ _ (Below.refl _ _) ?_
            rfl
        case hend =>
          intro vv W hB hf
          have ev := hf 40 (by decide)
          simp only [endRules] at ev
          simp only [ev, dropRules]
          clear hf ev
          go_wp2
          go_ret
          exact ⟨rfl, B7.trans (hB.mono B7.size)⟩
end Go.Proofs.Ythabhmgolfoccaa
