/- Proved here: the contract of Step: what it answers of any word and byte. -/
import Derived.Test.YtfcadbeamojdpaaNew
namespace Go.Proofs.Ytfcadbeamojdpaa
open Go.RowKit
set_option linter.unusedVariables false
theorem byte_xor (r c : Nat) (hc : c < 256) : bits .xor .u8 ((r : Int) % 256) (c : Int) = ((r % 256 ^^^ c : Nat) : Int) := by
  have := u8_xor_nat (r % 256) c (by omega) hc
  simpa using this
theorem word_xor (r t : Nat) (hr : r < 2 ^ 32) (ht : t < 2 ^ 32) : bits .xor .u32 ((r : Int) / 256) (t : Int) = ((r / 256 ^^^ t : Nat) : Int) := by
  have := u32_xor_nat (r / 256) t (by omega) (by simpa using ht)
  simpa using this
set_option maxRecDepth 100000 in
set_option maxHeartbeats 400000 in
theorem step_any (r c : Nat) (hr : r < 2 ^ 32) (hc : c < 256) (w : World) :
    Calls Try.prog 61 #[.agg Tb.tabV, .int .u32 r, .int .u8 c] w fun e w' => e = .returned (.int .u32 (Crc.step r c : Nat)) ∧ Below w.heap.size w w' := by
  obtain ⟨x, hx⟩ : ∃ x, x = r % 256 ^^^ c := ⟨_, rfl⟩
  have hx8 : x < 256 := by rw [hx]; exact Nat.xor_lt_two_pow (n := 8) (by omega) hc
  have e1 := byte_xor r c hc
  rw [← hx] at e1
  have HX := Lib.hid hx
  clear hx
  have ht := Tb.tabV_at x hx8
  obtain ⟨t, hT⟩ : ∃ t, t = Crc.tab x := ⟨_, rfl⟩
  rw [← hT] at ht
  have ht32 : t < 2 ^ 32 := by rw [hT]; exact Crc.tab_lt (by omega)
  have HT := Lib.hid hT
  clear hT
  have e2 := word_xor r t hr ht32
  go_enter Try.func61, Try.ntmps61
  go_wp2
  go_ret
  refine ⟨?_, (Below.refl _ _).alloc (Nat.le_refl _) _⟩
  rw [Crc.step_tab, ← HX.out, ← HT.out]; rfl
end Go.Proofs.Ytfcadbeamojdpaa
