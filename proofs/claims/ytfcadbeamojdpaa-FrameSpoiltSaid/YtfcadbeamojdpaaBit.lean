/- Proved here: the contract of Bit: which bit of the bytes it answers, and that it writes nothing. -/
import Derived.Test.YtfcadbeamojdpaaStep
import Derived.Test.YtfcadbeamojdpaaKit
namespace Go.Proofs.Ytfcadbeamojdpaa
open Go.RowKit Go.Rv
set_option linter.unusedVariables false
theorem half_pow (c n : Nat) : c / 2 ^ n / 2 = c / 2 ^ (n + 1) := by rw [Nat.div_div_eq_div_mul, Nat.pow_succ]
theorem half_lt {c : Nat} (n : Nat) (hc : c < 256) : c / 2 ^ n < 256 := Nat.lt_of_le_of_lt (Nat.div_le_self _ _) hc
set_option maxRecDepth 100000 in
set_option maxHeartbeats 400000 in
theorem bit_any (a : Option Addr) (l : List Nat) (cap i : Nat) (w : World) (hb : Bytes w a l) (hi : i < 8 * l.length) (hlen : l.length ≤ 1000) :
    Calls Try.prog 49 #[.slice a l.length cap, .int .i64 i] w fun e w' => e = .returned (.int .i64 ((Crc.bitOf l i).toNat : Nat)) ∧ w = w' := by
  obtain ⟨b, o, c, rfl, hbl, hc, hc8, hlk⟩ := hb.at (k := i / 8) (by omega)
  have hbit : (Crc.bitOf l i).toNat = c / 2 ^ (i % 8) % 2 := by
    unfold Crc.bitOf
    rw [List.getD_eq_getElem?_getD, hlk, Nat.toNat_testBit]
    rfl
  rw [hbit]
  clear hbit hlk hb
  go_enter Try.func49, Try.ntmps49
  go_wp2
  go_loopw [5, 6] (fun x k wr => ∃ n : Nat, n ≤ i % 8 ∧ k = .int .i64 n ∧ x = .int .i64 (c / 2 ^ n : Nat) ∧ wr = w) (fun _ k _ => 8 - (intOf k).toNat)
  case atStart => exact ⟨0, by omega, rfl, by simp, rfl⟩
  case round =>
    obtain ⟨n, hn, rfl, rfl, rfl⟩ := hrel
    have hx := half_lt n hc8
    have hp := Lib.hid (half_pow c n)
    generalize hq : c / 2 ^ n = x at *
    replace hq := Lib.hid hq
    by_cases hlt : n < i % 8
    · go_wp2
      go_roundw
      case rel =>
        refine ⟨n + 1, by omega, by go_num, ?_, by trivial⟩
        rw [← hp.out]
        simp
      case measure => simp [intOf]; omega
    · obtain rfl : n = i % 8 := by omega
      go_wp2
      go_ret
      refine ⟨?_, rfl⟩
      rw [hq.out]
      simp [Array.getD]
end Go.Proofs.Ytfcadbeamojdpaa
