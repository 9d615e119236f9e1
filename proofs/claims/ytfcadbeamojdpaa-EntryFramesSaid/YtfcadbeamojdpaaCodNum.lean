/- Proved here: contracts of the codec's Width and within. -/
import Derived.Test.YtfcadbeamojdpaaProg
import Derived.Test.YtfcadbeamojdpaaCodMath
import Derived.Test.YtfcadbeamojdpaaKit2
import Derived.BigQuiet
import Derived.Deep.QuietTactic
namespace Go.Proofs.Ytfcadbeamojdpaa
open Go.RowKit Go.Rv
set_option linter.unusedVariables false
theorem Try.infoU8 : (Try.prog.info? 5).map (fun i => (i.zero, i.size, i.bytes)) = some (some (.int .u8 0), 1, 1) := by kernel_rfl
theorem div_succ (n k : Nat) : n / 256 ^ k / 256 = n / 256 ^ (k + 1) := by rw [Nat.div_div_eq_div_mul, Nat.pow_succ]
theorem div_le (n k : Nat) : n / 256 ^ k ≤ n := Nat.div_le_self _ _
set_option maxRecDepth 100000 in
set_option maxHeartbeats 400000 in
theorem width_neg (v : Int) (w : World) (h1 : -9223372036854775808 ≤ v) (h2 : v < 0) :
    Calls Try.prog 55 #[.int .i64 v] w fun e w' => e = .returned (.int .i64 8) ∧ w = w' := by
  go_enter Try.func55, Try.ntmps55
  go_wp2
  refine wp_loop_rounds 1 ?_
  rw [rounds_succ]
  go_wp2
  go_ret
  exact ⟨rfl, rfl⟩
set_option maxRecDepth 100000 in
set_option maxHeartbeats 400000 in
theorem width_nat (n : Nat) (w : World) (hn : n < 9223372036854775808) :
    Calls Try.prog 55 #[.int .i64 n] w fun e w' => e = .returned (.int .i64 (Cod.widN n : Nat)) ∧ w = w' := by
  go_enter Try.func55, Try.ntmps55
  go_wp2
  go_loop [0, 3] (fun x c => ∃ k : Nat, k ≤ 7 ∧ x = .int .i64 (n / 256 ^ k : Nat) ∧ c = .int .i64 (k + 1 : Nat) ∧ (k = 0 ∨ 0 < n / 256 ^ k)) (fun _ c => 9 - (intOf c).toNat)
  case atStart => exact ⟨0, by omega, by simp, rfl, .inl rfl⟩
  case round =>
    obtain ⟨k, hk, rfl, rfl, hor⟩ := hrel
    have hs := Lib.hid (div_succ n k)
    have hle := div_le n k
    have hsm := Cod.width_small n (k + 1) hn
    have hw := fun h1 => Cod.widN_of n k hk h1 hor
    rw [← hs.out] at hsm
    have HSM := Lib.hid hsm
    have HW := Lib.hid hw
    clear hsm hor hw
    generalize n / 256 ^ k = x at *
    by_cases hx : 0 < x / 256
    · have hk7 := HSM.out hx
      go_wp2
      go_round
      case rel => exact ⟨k + 1, by omega, by rw [← hs.out]; go_num, by go_num, .inr (by rw [← hs.out]; exact hx)⟩
      case measure => simp [intOf]; omega
    · have hx0 : x / 256 = 0 := by omega
      have hwk := HW.out hx0
      have HWK := Lib.hid hwk
      clear hwk hx0
      by_cases h7 : k = 7
      · subst h7
        go_wp2
        go_ret
        exact ⟨by rw [HWK.out]; rfl, rfl⟩
      · go_wp2
        go_ret
        exact ⟨by rw [HWK.out]; rfl, rfl⟩
theorem width_any (v : Int) (w : World) (h1 : -9223372036854775808 ≤ v) (h2 : v ≤ 9223372036854775807) :
    Calls Try.prog 55 #[.int .i64 v] w fun e w' => e = .returned (.int .i64 (Cod.wid v)) ∧ w = w' := by
  unfold Cod.wid
  by_cases hv : v < 0
  · rw [if_pos hv]
    exact width_neg v w h1 hv
  · rw [if_neg hv]
    obtain ⟨n, rfl⟩ := Int.eq_ofNat_of_zero_le (show 0 ≤ v by omega)
    rw [Int.toNat_natCast]
    exact width_nat n w (by omega)
theorem within_yes (v : Int) (w : World) (h1 : 1 ≤ v) (h7 : v ≤ 7) :
    Calls Try.prog 54 #[.int .i64 v] w fun e w' => e = .returned (.bool true) ∧ w = w' := by
  go_enter Try.func54, Try.ntmps54
  go_wp2
  go_ret
  exact ⟨rfl, rfl⟩
theorem within_no (v : Int) (w : World) (h : v < 1 ∨ 7 < v) :
    Calls Try.prog 54 #[.int .i64 v] w fun e w' => e = .returned (.bool false) ∧ w = w' := by
  rcases h with h | h
  · go_enter Try.func54, Try.ntmps54
    go_wp2
    go_ret
    exact ⟨rfl, rfl⟩
  · go_enter Try.func54, Try.ntmps54
    go_wp2
    go_ret
    refine ⟨?_, rfl⟩
    show Ending.returned (.bool (decide (v ≤ 7))) = _
    rw [decide_eq_false (by omega)]
end Go.Proofs.Ytfcadbeamojdpaa
