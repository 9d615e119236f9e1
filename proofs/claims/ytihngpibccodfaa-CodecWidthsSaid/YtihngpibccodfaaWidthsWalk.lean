/- Proved here: what the text of the law CodecWidths does: it answers true. -/
import Derived.Test.YtihngpibccodfaaCodAnchor
import Derived.Test.YtihngpibccodfaaFits
namespace Go.Proofs.Ytihngpibccodfaa
open Go.RowKit Go.Rv
set_option linter.unusedVariables false
theorem widths_math (n : Nat) (hn : n < 72057594037927936) : Cod.fits (Cod.widN n : Nat) n = true ∧ (Cod.widN n = 1 ∨ Cod.fits ((Cod.widN n : Nat) - 1 : Int) n = false) := by
  have hp := Cod.widN_pos n
  have h7 : Cod.widN n ≤ 7 := (Cod.widN_le n 7 (by omega) (by omega)).2 (by simp only [Nat.reducePow]; exact hn)
  refine ⟨(Cod.fits_iff _ _).2 ⟨_, n, rfl, rfl, hp.1, h7, (Cod.widN_le n _ hp.1 h7).1 (Nat.le_refl _)⟩, ?_⟩
  by_cases h1 : Cod.widN n = 1
  · exact .inl h1
  · right
    rw [Bool.eq_false_iff]
    intro h
    obtain ⟨k, m, hk, hm, hk1, hk7, hlt⟩ := (Cod.fits_iff _ _).1 h
    have hmn : m = n := by omega
    subst hmn
    have := (Cod.widN_le m k hk1 hk7).2 hlt
    omega
set_option maxRecDepth 100000 in
set_option maxHeartbeats 400000 in
theorem widths_walk (v : Int) (w : World) (h1 : -9223372036854775808 ≤ v) (h2 : v ≤ 9223372036854775807) :
    Calls Try.prog 3 #[.int .i64 v] w fun e w' => e = .returned (.bool true) ∧ Below w.heap.size w w' := by
  have HW := Lib.hid (fun W => width_any v W h1 h2)
  by_cases hv : v < 0
  · rw [show Cod.wid v = 8 by unfold Cod.wid; rw [if_pos hv]] at HW
    go_enter Try.func3, Try.ntmps3
    go_wp2_with (first | (go_at_call 8; refine (anchor_any _).mono ?_; rintro e w1 ⟨rfl, hB1⟩) | (go_at_call 9; refine (HW.out _).mono ?_; rintro e w2 ⟨rfl, rfl⟩))
    go_ret
    exact ⟨rfl, hB1⟩
  · have hd : decide (v < 0) = false := decide_eq_false hv
    obtain ⟨n, rfl⟩ := Int.eq_ofNat_of_zero_le (show 0 ≤ v by omega)
    rw [show Cod.wid (n : Int) = (Cod.widN n : Nat) by unfold Cod.wid; rw [if_neg hv, Int.toNat_natCast]] at HW
    by_cases hb : 72057594037927936 ≤ n
    · have h8 : Cod.widN n = 8 := by
        have hp := Cod.widN_pos n
        have := Cod.widN_le n 7 (by omega) (by omega)
        simp only [Nat.reducePow] at this
        omega
      rw [h8] at HW
      have hbi : (72057594037927936 : Int) ≤ (n : Int) := by omega
      clear h8
      go_enter Try.func3, Try.ntmps3
      go_wp2_with (first | (go_at_call 8; refine (anchor_any _).mono ?_; rintro e w1 ⟨rfl, hB1⟩) | (go_at_call 9; refine (HW.out _).mono ?_; rintro e w2 ⟨rfl, rfl⟩))
      go_ret
      exact ⟨rfl, hB1⟩
    · obtain ⟨hf1, hf2⟩ := widths_math n (by omega)
      have hp := Cod.widN_pos n
      have HF1 := Lib.hid (fun W => rfits_any (Cod.widN n : Nat) n W h1 h2)
      have HF2 := Lib.hid (fun W => rfits_any ((Cod.widN n : Nat) - 1 : Int) n W h1 h2)
      rw [hf1] at HF1
      have hd2 : decide ((72057594037927936 : Int) ≤ (n : Int)) = false := decide_eq_false (by omega)
      clear hb
      by_cases h1' : Cod.widN n = 1
      · rw [h1'] at HW HF1
        clear hf1 hf2 HF2 hp h1'
        go_enter Try.func3, Try.ntmps3
        go_wp2_with (first | (go_at_call 8; refine (anchor_any _).mono ?_; rintro e w1 ⟨rfl, hB1⟩) | (go_at_call 9; refine (HW.out _).mono ?_; rintro e w2 ⟨rfl, rfl⟩) | (go_at_call 10; refine (HF1.out _).mono ?_; rintro e w2 ⟨rfl, rfl⟩))
        go_ret
        exact ⟨rfl, hB1⟩
      · rw [show Cod.fits ((Cod.widN n : Nat) - 1 : Int) n = false by rcases hf2 with h | h; exact absurd h h1'; exact h] at HF2
        have hne : ((Cod.widN n : Nat) == (1 : Int)) = false := by rw [beq_eq_false_iff_ne]; omega
        clear hf1 hf2
        generalize Cod.widN n = k at *
        clear h1'
        have tok1 : True := trivial
        go_enter Try.func3, Try.ntmps3
        go_wp2_with (first | (go_at_call 8; refine (anchor_any _).mono ?_; rintro e w1 ⟨rfl, hB1⟩) | (go_at_call 9; refine (HW.out _).mono ?_; rintro e w2 ⟨rfl, rfl⟩) | (go_at_call 10; have _t := tok1; refine (HF1.out _).mono ?_; rintro e w2 ⟨rfl, rfl⟩; clear tok1; have tok2 : True := trivial) | (go_at_call 10; have _t := tok2; refine (HF2.out _).mono ?_; rintro e w2 ⟨rfl, rfl⟩))
        go_ret
        exact ⟨rfl, hB1⟩
end Go.Proofs.Ytihngpibccodfaa
