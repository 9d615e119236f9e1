/- Proved here: contracts of the document's Power and Fits. -/
import Derived.Test.YtihngpibccodfaaCodNum
namespace Go.Proofs.Ytihngpibccodfaa
open Go.RowKit Go.Rv
set_option linter.unusedVariables false
set_option maxRecDepth 100000 in
set_option maxHeartbeats 400000 in
theorem power_any (k : Nat) (hk : k ≤ 7) (w : World) :
    Calls Try.prog 22 #[.int .i64 k] w fun e w' => e = .returned (.int .i64 (Cod.pw k : Nat)) ∧ w = w' := by
  go_enter Try.func22, Try.ntmps22
  go_wp2
  go_loop [3, 4] (fun p i => ∃ j : Nat, j ≤ k ∧ i = .int .i64 j ∧ p = .int .i64 (Cod.pw j : Nat)) (fun _ i => k - (intOf i).toNat)
  case atStart => exact ⟨0, by omega, rfl, rfl⟩
  case round =>
    obtain ⟨j, hj, rfl, rfl⟩ := hrel
    by_cases hlt : j < k
    · have hp := Cod.pw_le6 j (by omega)
      have hs := Lib.hid (Cod.pw_succ j)
      generalize Cod.pw j = x at *
      go_wp2
      go_round
      case rel => exact ⟨j + 1, by omega, by go_num, by rw [hs.out]; go_num⟩
      case measure => simp [intOf]; omega
    · obtain rfl : j = k := by omega
      go_wp2
      go_ret
      exact ⟨rfl, rfl⟩
set_option maxRecDepth 100000 in
set_option maxHeartbeats 400000 in
theorem rfits_any (width v : Int) (w : World) (h1 : -9223372036854775808 ≤ v) (h2 : v ≤ 9223372036854775807) :
    Calls Try.prog 10 #[.int .i64 width, .int .i64 v] w fun e w' => e = .returned (.bool (Cod.fits width v)) ∧ w = w' := by
  by_cases hw1 : 1 ≤ width
  · by_cases hw7 : width ≤ 7
    · by_cases hv : 0 ≤ v
      · obtain ⟨k, rfl⟩ := Int.eq_ofNat_of_zero_le (show 0 ≤ width by omega)
        have hp := Cod.pw_le k (by omega)
        have hf : Cod.fits k v = decide (v ≤ (Cod.pw k : Int) - 1) := by
          unfold Cod.fits
          rw [decide_eq_true hw1, decide_eq_true hw7, decide_eq_true hv, Int.toNat_natCast, ← Cod.pow_cast]
          show decide (v < (Cod.pw k : Int)) = _
          rw [decide_eq_decide]
          omega
        rw [hf]
        have HP := Lib.hid (fun W => power_any k (by omega) W)
        generalize Cod.pw k = x at *
        clear hf
        go_enter Try.func10, Try.ntmps10
        go_wp2_with (go_at_call 22; refine (HP.out _).mono ?_; rintro e w' ⟨rfl, rfl⟩)
        go_ret
        exact ⟨rfl, rfl⟩
      · have hf : Cod.fits width v = false := by unfold Cod.fits; rw [decide_eq_false hv]; simp
        rw [hf]
        have hd : decide ((0 : Int) ≤ v) = false := decide_eq_false hv
        clear hf
        go_enter Try.func10, Try.ntmps10
        go_wp2
        go_ret
        exact ⟨rfl, rfl⟩
    · have hf : Cod.fits width v = false := by unfold Cod.fits; rw [decide_eq_false hw7]; simp
      rw [hf]
      have hd : decide (width ≤ 7) = false := decide_eq_false hw7
      clear hf
      go_enter Try.func10, Try.ntmps10
      go_wp2
      go_ret
      exact ⟨rfl, rfl⟩
  · have hf : Cod.fits width v = false := by unfold Cod.fits; rw [decide_eq_false hw1]; simp
    rw [hf]
    have hd : decide (1 ≤ width) = false := decide_eq_false hw1
    clear hf
    go_enter Try.func10, Try.ntmps10
    go_wp2
    go_ret
    exact ⟨rfl, rfl⟩
end Go.Proofs.Ytihngpibccodfaa
