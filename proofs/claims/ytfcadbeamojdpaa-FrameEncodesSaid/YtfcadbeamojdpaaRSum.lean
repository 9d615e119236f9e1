/- Proved here: the contracts of the document's own functions (Over, Sum): what each answers, and that it leaves the world alone. -/
import Derived.Test.YtfcadbeamojdpaaOver
import Derived.Deep.QuietTactic
import Derived.BigQuiet
namespace Go.Proofs.Ytfcadbeamojdpaa
open Go.RowKit Go.Rv
set_option linter.unusedVariables false
theorem xorG2 (a : Nat) (ha : a < 2 ^ 32) : bits .xor .u32 ((a : Int) / 2) 2197175160 = (((a / 2) ^^^ Crc.G : Nat) : Int) := xorG a ha
theorem xor_rc (r c : Nat) (hr : r < 2 ^ 32) (hc : c < 256) : bits .xor .u32 (r : Int) (c : Int) = ((r ^^^ c : Nat) : Int) :=
  u32_xor_nat r c (by simpa using hr) (by omega)
set_option maxRecDepth 100000 in
set_option maxHeartbeats 400000 in
theorem rstep_any (r c : Nat) (hr : r < 2 ^ 32) (hc : c < 256) (w : World) :
    Calls Try.prog 60 #[.int .u32 r, .int .u8 c] w fun e w' => e = .returned (.int .u32 (Crc.step r c : Nat)) ∧ w = w' := by
  have ex := xor_rc r c hr hc
  have hq : r ^^^ c < 2 ^ 32 := Nat.xor_lt_two_pow hr (by omega)
  have hst : Crc.step r c = Crc.hn 8 (r ^^^ c) := rfl
  rw [hst]
  clear hst
  generalize r ^^^ c = q at *
  go_enter Try.func60, Try.ntmps60
  go_wp2
  go_loop [0, 5] (fun t i => ∃ m : Nat, m ≤ 8 ∧ i = .int .i64 m ∧ t = .int .u32 (Crc.hn m q : Nat)) (fun _ i => 8 - (intOf i).toNat)
  case atStart => exact ⟨0, by omega, rfl, rfl⟩
  case round =>
    obtain ⟨m, hm, rfl, rfl⟩ := hrel
    have hl := Crc.hn_lt m hq
    by_cases hm8 : m < 8
    · have hs : Hid (Crc.hn (m + 1) q = if Crc.hn m q % 2 = 1 then (Crc.hn m q / 2) ^^^ Crc.G else Crc.hn m q / 2) := by
        show Crc.hn (m + 1) q = _
        rw [Crc.hn_add]; rfl
      by_cases h1 : Crc.hn m q % 2 = 1
      · have e2 := xorG _ hl
        have e1 : (((Crc.hn m q : Nat) : Int) % 2 == 1) = true := by simp; omega
        have h1' := Lib.hid h1
        clear h1
        go_wp2
        go_round
        case rel => exact ⟨m + 1, by omega, by go_num, by rw [hs.out, if_pos h1'.out]⟩
        case measure => simp [intOf]; omega
      · have e1 : (((Crc.hn m q : Nat) : Int) % 2 == 1) = false := by simp; omega
        go_wp2
        go_round
        case rel => exact ⟨m + 1, by omega, by go_num, by rw [hs.out, if_neg h1]; rfl⟩
        case measure => simp [intOf]; omega
    · obtain rfl : m = 8 := by omega
      go_wp2
      go_ret
      exact ⟨rfl, rfl⟩
set_option maxRecDepth 100000 in
set_option maxHeartbeats 400000 in
theorem rover_any (r : Nat) (a : Option Addr) (l : List Nat) (cap : Nat) (hr : r < 2 ^ 32) (w : World) (hb : Bytes w a l) (hlen : l.length ≤ 9223372036854775807) :
    Calls Try.prog 58 #[.int .u32 r, .slice a l.length cap] w fun e w' => e = .returned (.int .u32 (Crc.over r l : Nat)) ∧ w = w' := by
  go_enter Try.func58, Try.ntmps58
  go_wp2
  go_loop [0, 5] (fun q i => ∃ k : Nat, k ≤ l.length ∧ i = .int .i64 k ∧ q = .int .u32 (Crc.over r (l.take k) : Nat)) (fun _ i => l.length - (intOf i).toNat)
  case atStart => exact ⟨0, by omega, rfl, rfl⟩
  case round =>
    obtain ⟨k, hk, rfl, rfl⟩ := hrel
    by_cases hlt : k < l.length
    · obtain ⟨b, o, c, rfl, hbl, hc, hc8, hlk⟩ := hb.at hlt
      have hs := Lib.hid (over_take_succ r l k c hlk)
      have hl32 := over_take_lt hr hb.1 k
      clear hlk
      generalize Crc.over r (l.take k) = q at *
      go_wp2_with (first | (go_at_call 60; refine (rstep_any _ _ hl32 hc8 _).mono ?_; rintro e w1 ⟨rfl, rfl⟩))
      go_round
      case rel => exact ⟨k + 1, by omega, by go_num, by rw [hs.out]⟩
      case measure => simp [intOf]; omega
    · obtain rfl : k = l.length := by omega
      go_wp2
      go_ret
      exact ⟨by first | rfl | (rw [List.take_length]; rfl), rfl⟩
theorem sub_ones_i (x : Nat) (hx : x < 2 ^ 32) : (4294967295 : Int) - (x : Int) = ((x ^^^ Crc.ones : Nat) : Int) := by
  rw [← Crc.sub_ones hx]
  unfold Crc.ones
  omega
set_option maxRecDepth 100000 in
set_option maxHeartbeats 400000 in
theorem rsum_any (a : Option Addr) (l : List Nat) (cap : Nat) (w : World) (hb : Bytes w a l) (hlen : l.length ≤ 9223372036854775807) :
    Calls Try.prog 48 #[.slice a l.length cap] w fun e w' => e = .returned (.int .u32 (Crc.sum l : Nat)) ∧ w = w' := by
  have ho : Crc.over Crc.ones l < 2 ^ 32 := Crc.over_lt Crc.ones_lt hb.1
  have hx := sub_ones_i (Crc.over Crc.ones l) ho
  have hs : Crc.sum l = Crc.over Crc.ones l ^^^ Crc.ones := rfl
  rw [← hs] at hx
  have HX := Lib.hid hx
  clear hs hx
  have hc := fun w0 h0 => rover_any 4294967295 a l cap (by omega) w0 h0 hlen
  rw [show Crc.over 4294967295 l = Crc.over Crc.ones l from rfl] at hc
  generalize Crc.over Crc.ones l = q at *
  have HC := Lib.hid hc
  clear hc
  go_enter Try.func48, Try.ntmps48
  go_wp2_with (go_at_call 58; refine (HC.out _ hb).mono ?_; rintro e w1 ⟨rfl, rfl⟩)
  go_ret
  refine ⟨?_, rfl⟩
  rw [← HX.out]
  rfl
end Go.Proofs.Ytfcadbeamojdpaa
