/- Proved here: what the text of the law CodecNumbers does: it answers true. -/
import Derived.Test.YtihngpibccodfaaCodAnchor
import Derived.Test.YtihngpibccodfaaFits
import Derived.Test.YtihngpibccodfaaRd
namespace Go.Proofs.Ytihngpibccodfaa
open Go.RowKit Go.Rv
set_option linter.unusedVariables false
set_option maxRecDepth 100000 in
set_option maxHeartbeats 400000 in
theorem numbers_no1 (width a b : Int) (w : World) (ha : -9223372036854775808 ≤ a ∧ a ≤ 9223372036854775807) (hf : Cod.fits width a = false) :
    Calls Try.prog 5 #[.int .i64 width, .int .i64 a, .int .i64 b] w fun e w' => e = .returned (.bool true) ∧ Below w.heap.size w w' := by
  have H1 := Lib.hid (fun W => rfits_any width a W ha.1 ha.2)
  rw [hf] at H1
  clear hf
  go_enter Try.func5, Try.ntmps5
  go_wp2_with (first | (go_at_call 8; refine (anchor_any _).mono ?_; rintro e w1 ⟨rfl, hB1⟩) | (go_at_call 10; refine (H1.out _).mono ?_; rintro e w2 ⟨rfl, rfl⟩))
  go_ret
  exact ⟨rfl, hB1⟩
set_option maxRecDepth 100000 in
set_option maxHeartbeats 400000 in
theorem numbers_no2 (width a b : Int) (w : World) (ha : -9223372036854775808 ≤ a ∧ a ≤ 9223372036854775807) (hb : -9223372036854775808 ≤ b ∧ b ≤ 9223372036854775807) (hf : Cod.fits width a = true) (hg : Cod.fits width b = false) :
    Calls Try.prog 5 #[.int .i64 width, .int .i64 a, .int .i64 b] w fun e w' => e = .returned (.bool true) ∧ Below w.heap.size w w' := by
  have H1 := Lib.hid (fun W => rfits_any width a W ha.1 ha.2)
  have H2 := Lib.hid (fun W => rfits_any width b W hb.1 hb.2)
  rw [hf] at H1
  rw [hg] at H2
  clear hf hg
  go_enter Try.func5, Try.ntmps5
  go_wp2_with (go_at_call 8; refine (anchor_any _).mono ?_; rintro e w1 ⟨rfl, hB1⟩)
  refine (H1.out _).mono ?_
  rintro e w2 ⟨rfl, rfl⟩
  go_wp2_with fail
  refine (H2.out _).mono ?_
  rintro e w2 ⟨rfl, rfl⟩
  go_wp2
  go_ret
  exact ⟨rfl, hB1⟩
set_option maxRecDepth 100000 in
set_option maxHeartbeats 1000000 in
theorem numbers_yes (k n m : Nat) (w : World) (hk1 : 1 ≤ k) (hk7 : k ≤ 7) (hn : n < 256 ^ k) (hm : m < 256 ^ k) :
    Calls Try.prog 5 #[.int .i64 k, .int .i64 n, .int .i64 m] w fun e w' => e = .returned (.bool true) ∧ Below w.heap.size w w' := by
  have hn63 : n < 9223372036854775808 := by have := (Cod.pow_le k hk7).1; omega
  have hm63 : m < 9223372036854775808 := by have := (Cod.pow_le k hk7).1; omega
  have H1 := Lib.hid (fun W => rfits_any k n W (by omega) (by omega))
  have H2 := Lib.hid (fun W => rfits_any k m W (by omega) (by omega))
  rw [(Cod.fits_iff k n).2 ⟨k, n, rfl, rfl, hk1, hk7, hn⟩] at H1
  rw [(Cod.fits_iff k m).2 ⟨k, m, rfl, rfl, hk1, hk7, hm⟩] at H2
  have HP := Lib.hid (fun g f W hP => pen_num_yes g f [] false k n W hP hk1 hk7 hn (by simp))
  have HQ := Lib.hid (fun g f W hP => pen_num_yes g f [] false k m W hP hk1 hk7 hm (by simp))
  simp only [List.nil_append] at HP HQ
  have hl1 := Cod.leN_length k n
  have hl2 := Cod.leN_length k m
  have hb1 := Cod.leN_lt k n
  have hb2 := Cod.leN_lt k m
  have hr := Cod.rd_leN k n hn
  obtain ⟨d, hd1, hd2⟩ : ∃ d : Bool, decide (Cod.leN k n = Cod.leN k m) = d ∧ ((n : Int) == (m : Int)) = d := by
    refine ⟨_, rfl, ?_⟩
    rw [Bool.eq_iff_iff, beq_iff_eq, decide_eq_true_eq]
    constructor
    · intro h; rw [show n = m by omega]
    · intro h; rw [Cod.leN_inj hn hm h]
  have hnn : ((n : Int) == (n : Int)) = true := beq_self_eq_true _
  have hkk : ((k : Int) == (k : Int)) = true := beq_self_eq_true _
  have hdd : (d == d) = true := beq_self_eq_true _
  generalize Cod.leN k n = l at *
  generalize Cod.leN k m = l' at *
  have HL1 := Lib.hid hl1
  have HL2 := Lib.hid hl2
  have HR := Lib.hid hr
  have HD := Lib.hid hd1
  clear hn hm hl1 hl2 hr hd1
  go_enter Try.func5, Try.ntmps5
  go_wp2_with (go_at_call 8; refine (anchor_any _).mono ?_; rintro e w1 ⟨rfl, hB1⟩)
  refine (H1.out _).mono ?_
  rintro e w2 ⟨rfl, rfl⟩
  go_wp2_with fail
  refine (H2.out _).mono ?_
  rintro e w2 ⟨rfl, rfl⟩
  go_wp2_with fail
  have z1 := hB1.size
  have hp := (PenAt.new w1).below ((Below.refl _ _).alloc (Nat.le_refl _) (.cells #[.slice none 0 0, .bool false] 30))
  have hq := PenAt.new (w1.alloc (.cells #[.slice none 0 0, .bool false] 30))
  rw [World.size_alloc] at hq
  have hBa : Below w.heap.size w ((w1.alloc (.cells #[.slice none 0 0, .bool false] 30)).alloc (.cells #[.slice none 0 0, .bool false] 30)) := (hB1.alloc z1 _).alloc (by simp; omega) _
  refine (HP.out _ _ _ hp).mono ?_
  rintro e w2 ⟨rfl, f1, hp2, hO2, hf1⟩
  have hq2 := hq.only hO2 (by simp) (by simp)
  have hB2 : Below w.heap.size w w2 := hBa.trans (hO2.below (by simp; omega) (by simp; omega))
  have z2 := hO2.size
  simp only [World.size_alloc] at z2
  go_wp2_with fail
  refine (HQ.out _ _ _ hq2).mono ?_
  rintro e w3 ⟨rfl, f2, hq3, hO3, hf2⟩
  have hp3 := hp2.only hO3 (by simp) (by
    intro j hj
    rcases hf1 with h | ⟨j', h, hj'⟩
    · rw [h] at hj; cases hj
    · rw [h] at hj; cases hj; simp at hj' ⊢; omega)
  have hB3 : Below w.heap.size w w3 := hB2.trans (hO3.below (by simp; omega) (by omega))
  go_wp2_with fail
  refine (pen_out _ _ _ _ _ hp3 (by rw [HL1.out]; omega)).mono ?_
  rintro e w4 ⟨⟨v4, rfl, hown4, -⟩, hB4⟩
  have hB4' := hB3.trans (hB4.mono hB3.size)
  have hq4 := hq3.below hB4
  simp only [Bool.false_eq_true, if_false] at hown4
  obtain ⟨a4, c4, rfl, hb4, hn4, -⟩ := hown4.bytes
  go_wp2_with fail
  refine (pen_out _ _ _ _ _ hq4 (by rw [HL2.out]; omega)).mono ?_
  rintro e w5 ⟨⟨v5, rfl, hown5, -⟩, hB5⟩
  have hB5' := hB4'.trans (hB5.mono hB4'.size)
  have hb4' := hb4.below hB5
  simp only [Bool.false_eq_true, if_false] at hown5
  obtain ⟨a5, c5, rfl, hb5, hn5, -⟩ := hown5.bytes
  rw [HL1.out, HL2.out]
  have HNW := Lib.hid (rd_new a4 l c4 w5 hb4' hn4 (by rw [HL1.out]; omega))
  rw [HL1.out] at HNW
  go_wp2_with fail
  refine HNW.out.mono ?_
  rintro e w6 ⟨g6, rfl, hg6, hR6, hB6⟩
  have hB6' := hB5'.trans (hB6.mono hB5'.size)
  go_wp2_with fail
  refine (rd_num_yes g6 l k w6 hR6 hk1 hk7 (by rw [HL1.out]; omega)).mono ?_
  rintro e w7 ⟨rfl, hR7, hO7⟩
  rw [List.take_of_length_le (by rw [HL1.out]; omega), HR.out]
  have hB7' : Below w.heap.size w w7 := hB6'.trans (hO7.below (by simp; have := hB5'.size; omega) hB6'.size)
  have hB57 : Below w5.heap.size w5 w7 := hB6.trans (hO7.below (by simp; omega) hB6.size)
  have HS := Lib.hid (fun W h1 h2 => rsame_b a4 a5 l l' c4 c5 W h1 h2 (by rw [HL1.out]; omega) (by rw [HL2.out]; omega) d HD.out)
  rw [HL1.out, HL2.out] at HS
  go_wp2_with fail
  refine (HS.out _ (hb4'.below hB57) (hb5.below hB57)).mono ?_
  rintro e w8 ⟨rfl, hB8⟩
  go_wp2
  go_ret
  exact ⟨rfl, hB7'.trans (hB8.mono hB7'.size)⟩
end Go.Proofs.Ytihngpibccodfaa
