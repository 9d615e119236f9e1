/- Proved here: the contract of the document's Read: the number of bytes. -/
import Derived.Test.YtfcadbeamojdpaaCodNum
namespace Go.Proofs.Ytfcadbeamojdpaa
open Go.RowKit Go.Rv
set_option linter.unusedVariables false
set_option maxRecDepth 100000 in
set_option maxHeartbeats 400000 in
theorem rread_any (a : Option Addr) (l : List Nat) (cap : Nat) (w : World) (hb : Bytes w a l) (hlen : l.length ≤ 7) :
    Calls Try.prog 47 #[.slice a l.length cap] w fun e w' => e = .returned (.int .i64 (Cod.rd l : Nat)) ∧ w = w' := by
  go_enter Try.func47, Try.ntmps47
  go_wp2
  go_loop [3, 4] (fun v i => ∃ k : Nat, k ≤ l.length ∧ i = .int .i64 ((k : Int) - 1) ∧ v = .int .i64 (Cod.rd (l.drop k) : Nat)) (fun _ i => (intOf i + 1).toNat)
  case atStart => exact ⟨l.length, by omega, rfl, by simp [Cod.rd]⟩
  case round =>
    obtain ⟨k, hk, rfl, rfl⟩ := hrel
    by_cases hlt : 0 < k
    · obtain ⟨j, rfl⟩ : ∃ j, k = j + 1 := ⟨k - 1, by omega⟩
      obtain ⟨b1, o1, c, rfl, hbl, hc, hc8, hlk⟩ := hb.at (show j < l.length by omega)
      have hs := Lib.hid (Cod.rd_drop l j c hlk)
      have hlt := Cod.rd_drop_lt l hb.1 (j + 1)
      have hpw := (Cod.pow_le (l.length - (j + 1)) (by omega)).1
      have hpw6 := Cod.pw_le6 (l.length - (j + 1)) (by omega)
      unfold Cod.pw at hpw6
      have hx : Cod.rd (l.drop (j + 1)) < 281474976710656 := Nat.lt_of_lt_of_le hlt hpw6
      clear hlt hpw hpw6 hlk
      generalize Cod.rd (l.drop (j + 1)) = x at *
      have e1 : ((j + 1 : Nat) : Int) - 1 = (j : Int) := by omega
      rw [e1]
      go_wp2
      go_round
      case rel => exact ⟨j, by omega, rfl, by rw [hs.out]; go_num⟩
      case measure => simp [intOf]
    · obtain rfl : k = 0 := by omega
      go_wp2
      go_ret
      exact ⟨by simp, rfl⟩
end Go.Proofs.Ytfcadbeamojdpaa
