/- Proved here: what the law CrcParts' text does: it answers true. -/
import Derived.Test.YthabhmgolfoccaaTwoWalk
import Derived.Test.YthabhmgolfoccaaMathC
import Derived.Test.YthabhmgolfoccaaConf
import Derived.Deep.DeepMust
namespace Go.Proofs.Ythabhmgolfoccaa
open Go.RowKit Go.Rv
set_option linter.unusedVariables false
theorem xor_bit (x i : Nat) (hx : x < 256) : bits .xor .u8 (x : Int) ((2 : Int) ^ (i % 8) % 256) = ((x ^^^ 2 ^ (i % 8) : Nat) : Int) := by
  have h8 : 2 ^ (i % 8) < 256 := Crc.two_pow_lt i
  have e : ((2 : Int) ^ (i % 8)) % 256 = ((2 ^ (i % 8) : Nat) : Int) := by
    have : ((2 ^ (i % 8) : Nat) : Int) = (2 : Int) ^ (i % 8) := by rw [Int.natCast_pow]; rfl
    rw [← this]
    exact Int.emod_eq_of_lt (Int.natCast_nonneg _) (Int.ofNat_lt.2 h8)
  rw [e]
  exact u8_xor_nat x _ hx h8
theorem Tb.extract_tabV : (Tb.tabV.extract 0 (0 + 256)).toList = Tb.tabV.toList := by
  rw [Nat.zero_add, ← Tb.size_tabV, Array.extract_size]
set_option maxRecDepth 100000 in
set_option maxHeartbeats 400000 in
theorem parts_walk (a : Option Addr) (l : List Nat) (cap p : Nat) (w : World) (hb : Bytes w a l) (hcap : a = none → cap = 0) (h0 : 0 < l.length) (h300 : l.length ≤ 300) (hp : p < 8 * l.length) :
    Calls Try.prog 6 #[.slice a l.length cap, .int .i64 p] w fun e w' => e = .returned (.bool true) ∧ Below w.heap.size w w' := by
  have hz := (zero_of_info Try.infoTab).1
  have hi : (Try.prog.info? 25).map (·.size) = some Tb.tabV.size := by rw [Tb.size_tabV]; exact (zero_of_info Try.infoTab).2
  have hI := Lib.hid hi
  clear hi
  have hl0 : ((l.length : Int) == 0) = false := by rw [beq_eq_false_iff_ne]; omega
  obtain ⟨x, hx⟩ : ∃ x, x = l.getD (p / 8) 0 := ⟨_, rfl⟩
  have hx8 : x < 256 := by rw [hx]; exact Crc.getD_lt hb.1 _
  have e1 := xor_bit x p hx8
  obtain ⟨v, hv⟩ : ∃ v, v = x ^^^ 2 ^ (p % 8) := ⟨_, rfl⟩
  rw [← hv] at e1
  have hv8 : v < 256 := by rw [hv]; exact Nat.xor_lt_two_pow (n := 8) hx8 (Crc.two_pow_lt p)
  obtain ⟨m, hm⟩ : ∃ m, m = Crc.xorAt l p := ⟨_, rfl⟩
  have hml : m.length = l.length := by rw [hm, Crc.length_xorAt]
  have hset : l.set (p / 8) v = m := by rw [hm, hv, hx]; rfl
  have n1 := Lib.hid (show Crc.sum m ≠ Crc.sum l by rw [hm]; exact Crc.sum_xorAt l hb.1 p hp)
  have n2 := Lib.hid (show Crc.over 0 m ≠ Crc.over 0 l by rw [hm]; exact Crc.over_xorAt l hb.1 0 p hp)
  have HS := Lib.hid hset
  have HX := Lib.hid hx
  have HM := Lib.hid hml
  clear hx hv hm hml hset
  go_enter Try.func6, Try.ntmps6
  go_wp2_with (first | (go_at_call 11; refine (anchor_any _).mono ?_; rintro e w1 ⟨rfl, hB1⟩) | (go_at_call 12; refine (new_any _).mono ?_; rintro e w2 ⟨rfl, hB2⟩) | (refine wpList_store_row rfl 25 _ _ rfl w2.heap.size Tb.tabV rfl rfl 25 Tb.zero (heap_alloc_new w2 _) hI.out (by rw [Tb.size_zero, Tb.size_tabV]) Tb.one_tabV ?_; rw [World.setRow_alloc_new]) | (at_builtin; go_must (refine wpList_append_bytes rfl (.tmp 29) (.tmp 30) 28 rfl 5 Try.underlying28 Try.info5 (w2.heap.size + 1) _ [] rfl (OwnB.made (g := w2.heap.size + 1) (Nat.le_refl _) (heap_alloc2_new _ _ _) rfl (by unfold maxLen; omega)) a cap l rfl (hb.below ?_) hcap (by simp; omega) (by simp) ?_)))
  · exact ((hB1.trans (hB2.mono hB1.size)).alloc (by have := hB1.size; have := hB2.size; omega) _).alloc (by have := hB1.size; have := hB2.size; simp; omega) _
  · intro v' w3 hown hgrow
    obtain ⟨g, c3, rfl, hbg, hgl, hnc, hcm, hc, hf⟩ := hown.open h0
    have hcx : w3.cell? ⟨g, p / 8, none⟩ = some (.int .u8 (x : Nat)) := by rw [hc _ (by omega), HX.out]
    have hfx := hf (p / 8)
    have own2 := hown.set (p / 8) v hv8
    rw [HS.out] at own2
    have hg3 : (w2.heap.size + 1) ≤ g := hbg
    have hT3 : (w3.setCell ⟨g, p / 8, none⟩ (.int .u8 (v : Nat))).heap[w2.heap.size]? = some (.cells Tb.tabV 25 (0, 0)) := by
      rw [heap_setCell_other _ _ _ _ (by simp; omega), hgrow.block _ (by simp; omega) (by simp [Value.ownBlock])]
      exact heap_alloc2_old _ _ _
    have hB3 : Below w.heap.size w (w3.setCell ⟨g, p / 8, none⟩ (.int .u8 (v : Nat))) := by
      have z1 := hB1.size
      have z2 := hB2.size
      refine Below.setCell (((((hB1.trans (hB2.mono z1)).alloc (by omega) _).alloc (by simp; omega) _)).grown hgrow (by simp; omega) ?_) (by simp; omega) _
      intro k hk
      simp [Value.ownBlock] at hk
      omega
    have bl := hb.below hB3
    have bm : Bytes (w3.setCell ⟨g, p / 8, none⟩ (.int .u8 (v : Nat))) (some ⟨g, 0, none⟩) m := by
      have hm := HM.out; rw [← hm] at own2; obtain ⟨a', c', e', hb', _⟩ := own2.bytes
      cases e'
      exact hb'
    clear own2 hown hc hf hgrow
    go_wp2
    generalize w3.setCell ⟨g, p / 8, none⟩ (.int .u8 (v : Nat)) = W4 at *
    have b1 : ((Crc.sum m : Int) != (Crc.sum l : Int)) = true := by rw [bne_iff_ne]; have := n1.out; omega
    have b2 : ((Crc.over 0 m : Int) != (Crc.over 0 l : Int)) = true := by rw [bne_iff_ne]; have := n2.out; omega
    have cs := Lib.hid (fun (W : World) hb => sum_any a l cap W hb (by omega))
    have cr := Lib.hid (fun (W : World) hb => raw_any a l cap W hb (by omega))
    have csm := Lib.hid (fun (W : World) hb => sum_any (some ⟨g, 0, none⟩) m c3 W hb (by have := HM.out; omega))
    have crm := Lib.hid (fun (W : World) hb => raw_any (some ⟨g, 0, none⟩) m c3 W hb (by have := HM.out; omega))
    rw [HM.out] at csm crm
    have BL := Lib.hid bl
    have BM := Lib.hid bm
    clear bl bm hgl hnc hcm hfx hcx HS HX hz
    generalize Crc.sum m = sm at *
    generalize Crc.sum l = sl at *
    generalize Crc.over 0 m = om at *
    generalize Crc.over 0 l = ol at *
    have HT := Lib.hid hT3
    clear hT3
    have hlt2 : w2.heap.size < W4.heap.size := (Array.getElem?_eq_some_iff.1 HT.out).1
    refine wp_region_conf 16 [Fact.eq ?x0, Fact.eq ?x1, Fact.eq ?x2, Fact.eq ?x3, Fact.eq ?x4, Fact.eq ?x5, Fact.eq ?x6, Fact.eq ?x7, Fact.eq ?x8, Fact.eq ?x9, Fact.eq ?x10, Fact.eq ?x11, Fact.eq ?x12, Fact.eq ?x13, Fact.eq ?x14, Fact.eq ?x15] ?A (by kernel_rfl) (by kernel_rfl) ?hA ?ho ?hend
    case hA =>
      intro vv
      simp only [putRules, Nat.reduceAdd]
      rfl
    case ho =>
      refine ⟨?_, ?_, ?_, ?_, ?_, ?_, ?_, ?_, ?_, ?_, ?_, ?_, ?_, ?_, ?_, ?_, trivial⟩
      · intro vv W K hB hd hK
        simp only [confRules] at hd hK
        have HK := Lib.hid hK
        clear hK
        have hT := (hB.block w2.heap.size (by simpa using hlt2)).trans HT.out
        go_wp2_with (refine wpList_load_row rfl 25 _ rfl w2.heap.size rfl 25 _ _ _ hT Try.underlying25 rfl hI.out ?_)
        refine HK.out _ _ (Below.refl _ _) ?_
        rfl
      · intro vv W K hB hd hK
        simp only [confRules] at hd hK
        have HK := Lib.hid hK
        clear hK
        go_wp2
        refine HK.out _ _ (Below.refl _ _) ?_
        rfl
      · intro vv W K hB hd hK
        simp only [confRules] at hd hK
        simp only [hd] at hK ⊢
        have HK := Lib.hid hK
        clear hK
        go_wp2_with (go_at_call 16; refine (csm.out _ (BM.out.below hB)).mono ?_; rintro e w5 ⟨rfl, hB5⟩)
        refine HK.out _ _ hB5 ?_
        rfl
      · intro vv W K hB hd hK
        simp only [confRules] at hd hK
        have HK := Lib.hid hK
        clear hK
        have hT := (hB.block w2.heap.size (by simpa using hlt2)).trans HT.out
        go_wp2_with (refine wpList_load_row rfl 25 _ rfl w2.heap.size rfl 25 _ _ _ hT Try.underlying25 rfl hI.out ?_)
        refine HK.out _ _ (Below.refl _ _) ?_
        rfl
      · intro vv W K hB hd hK
        simp only [confRules] at hd hK
        have HK := Lib.hid hK
        clear hK
        go_wp2
        refine HK.out _ _ (Below.refl _ _) ?_
        rfl
      · intro vv W K hB hd hK
        simp only [confRules] at hd hK
        simp only [hd] at hK ⊢
        have HK := Lib.hid hK
        clear hK
        go_wp2_with (go_at_call 16; refine (cs.out _ (BL.out.below hB)).mono ?_; rintro e w5 ⟨rfl, hB5⟩)
        refine HK.out _ _ hB5 ?_
        rfl
      · intro vv W K hB hd hK
        simp only [confRules] at hd hK
        simp only [hd] at hK ⊢
        have HK := Lib.hid hK
        clear hK
        go_wp2
        refine HK.out _ _ (Below.refl _ _) ?_
        rfl
      · intro vv W K hB hd hK
        simp only [confRules] at hd hK
        simp only [hd] at hK ⊢
        have HK := Lib.hid hK
        clear hK
        go_wp2
        refine HK.out _ _ (Below.refl _ _) ?_
        rfl
      · intro vv W K hB hd hK
        simp only [confRules] at hd hK
        simp only [hd] at hK ⊢
        have HK := Lib.hid hK
        clear hK
        refine wpList_guard_yes (by rfl) ?_
        have hT := (hB.block w2.heap.size (by simpa using hlt2)).trans HT.out
        go_wp2_with (refine wpList_load_row rfl 25 _ rfl w2.heap.size rfl 25 _ _ _ hT Try.underlying25 rfl hI.out ?_)
        refine HK.out _ _ (Below.refl _ _) ?_
        rfl
      · intro vv W K hB hd hK
        simp only [confRules] at hd hK
        simp only [hd] at hK ⊢
        have HK := Lib.hid hK
        clear hK
        refine wpList_guard_yes (by rfl) ?_
        go_wp2
        refine HK.out _ _ (Below.refl _ _) ?_
        rfl
      · intro vv W K hB hd hK
        simp only [confRules] at hd hK
        simp only [hd] at hK ⊢
        have HK := Lib.hid hK
        clear hK
        refine wpList_guard_yes (by rfl) ?_
        go_wp2_with (go_at_call 13; refine (crm.out _ (BM.out.below hB)).mono ?_; rintro e w5 ⟨rfl, hB5⟩)
        refine HK.out _ _ hB5 ?_
        rfl
      · intro vv W K hB hd hK
        simp only [confRules] at hd hK
        simp only [hd] at hK ⊢
        have HK := Lib.hid hK
        clear hK
        refine wpList_guard_yes (by rfl) ?_
        have hT := (hB.block w2.heap.size (by simpa using hlt2)).trans HT.out
        go_wp2_with (refine wpList_load_row rfl 25 _ rfl w2.heap.size rfl 25 _ _ _ hT Try.underlying25 rfl hI.out ?_)
        refine HK.out _ _ (Below.refl _ _) ?_
        rfl
      · intro vv W K hB hd hK
        simp only [confRules] at hd hK
        simp only [hd] at hK ⊢
        have HK := Lib.hid hK
        clear hK
        refine wpList_guard_yes (by rfl) ?_
        go_wp2
        refine HK.out _ _ (Below.refl _ _) ?_
        rfl
      · intro vv W K hB hd hK
        simp only [confRules] at hd hK
        simp only [hd] at hK ⊢
        have HK := Lib.hid hK
        clear hK
        refine wpList_guard_yes (by rfl) ?_
        go_wp2_with (go_at_call 13; refine (cr.out _ (BL.out.below hB)).mono ?_; rintro e w5 ⟨rfl, hB5⟩)
        refine HK.out _ _ hB5 ?_
        rfl
      · intro vv W K hB hd hK
        simp only [confRules] at hd hK
        simp only [hd] at hK ⊢
        have HK := Lib.hid hK
        clear hK
        refine wpList_guard_yes (by rfl) ?_
        go_wp2
        refine HK.out _ _ (Below.refl _ _) ?_
        rfl
      · intro vv W K hB hd hK
        simp only [confRules] at hd hK
        simp only [hd] at hK ⊢
        have HK := Lib.hid hK
        clear hK
        go_wp2
        refine HK.out _ _ (Below.refl _ _) ?_
        rfl
    case hend =>
      intro vv W hB hf
      have ev := hf 15 (by decide)
      simp only [endRules] at ev
      simp only [ev, dropRules]
      clear hf ev
      go_wp2
      go_ret
      exact ⟨rfl, hB3.trans (hB.mono hB3.size)⟩
end Go.Proofs.Ythabhmgolfoccaa
