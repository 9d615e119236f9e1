/- Proved here: what the law CrcTwo's text does: it answers true. -/
import Derived.Test.YthabhmgolfoccaaRef
import Derived.Deep.OwnRows
namespace Go.Proofs.Ythabhmgolfoccaa
open Go.RowKit Go.Rv
set_option linter.unusedVariables false
theorem Try.info5 : (Try.prog.info? 5).map (fun i => (i.zero, i.size, i.bytes)) = some (some (.int .u8 0), 1, 1) := by kernel_rfl
theorem or_bit (x i : Nat) (hx : x < 256) : bits .or .u8 (x : Int) ((2 : Int) ^ (i % 8) % 256) = ((x ||| 2 ^ (i % 8) : Nat) : Int) := by
  have h8 : 2 ^ (i % 8) < 256 := Crc.two_pow_lt i
  have e : ((2 : Int) ^ (i % 8)) % 256 = ((2 ^ (i % 8) : Nat) : Int) := by
    have : ((2 ^ (i % 8) : Nat) : Int) = (2 : Int) ^ (i % 8) := by rw [Int.natCast_pow]; rfl
    rw [← this]
    exact Int.emod_eq_of_lt (Int.natCast_nonneg _) (Int.ofNat_lt.2 h8)
  rw [e]
  exact u8_or_nat x _ hx h8
/-- what the walk is told of a row in which one bit is set -/
theorem or_step (L : List Nat) (i : Nat) (hL : ∀ c ∈ L, c < 256) (hi : i < 8 * L.length) : ∃ x v : Nat, x = L.getD (i / 8) 0 ∧ (byteCells L)[i / 8]? = some (.int .u8 (x : Nat)) ∧ bits .or .u8 (x : Int) ((2 : Int) ^ (i % 8) % 256) = (v : Int) ∧
    (byteCells L).setIfInBounds (i / 8) (.int .u8 (v : Nat)) = byteCells (Crc.orAt L i) :=
  ⟨_, _, rfl, byteCells_at _ _ (by omega), or_bit _ i (Crc.getD_lt hL _), byteCells_set _ _ _⟩
set_option maxRecDepth 100000 in
set_option maxHeartbeats 400000 in
theorem two_walk (n a b : Nat) (hn : 1 ≤ n) (hn5 : n ≤ 500) (hab : a < b) (hb8 : b < 8 * n) (w : World) :
    Calls Try.prog 8 #[.int .i64 n, .int .i64 a, .int .i64 b] w fun e w' => e = .returned (.bool true) ∧ Below w.heap.size w w' := by
  have hmk := run_make_bytes (P := Try.prog) 28 5 Try.underlying28 Try.info5 n (by omega)
  have hfin := Crc.two_bits n a b hab hb8 (by omega)
  have hl0 := Crc.zeros_lt n
  have hlen0 : (List.replicate n 0).length = n := by simp
  generalize List.replicate n 0 = L0 at *
  obtain ⟨x0, v0, hx0, h0, e0, s0⟩ := or_step L0 a hl0 (by omega)
  have hl1 := Crc.orAt_lt hl0 a
  have hlen1 := Crc.length_orAt L0 a
  generalize Crc.orAt L0 a = L1 at *
  obtain ⟨x1, v1, hx1, h1, e1, s1⟩ := or_step L1 b hl1 (by omega)
  have hl2 := Crc.orAt_lt hl1 b
  have hlen2 := Crc.length_orAt L1 b
  generalize Crc.orAt L1 b = L2 at *
  have hL2 : L2.length = n := by omega
  have HF := Lib.hid (decide_eq_false hfin)
  clear hfin
  have HL := Lib.hid hL2
  have HM := Lib.hid (fun (g : Nat) (W : World) hb => multiple_any (some ⟨g, 0, none⟩) L2 n W hb (by omega))
  rw [hL2] at HM
  clear hx0 hx1 hlen0 hlen1 hlen2 hL2 hl0 hl1
  go_enter Try.func8, Try.ntmps8
  go_wp2_with (first | (go_at_call 11; refine (anchor_any _).mono ?_; rintro e w1 ⟨rfl, hB1⟩) | (go_at_call 12; refine (new_any _).mono ?_; rintro e w2 ⟨rfl, hB2⟩) | (go_at_call 18; refine (HM.out w1.heap.size _ (byteCells_row ((hB2.block _ (by simp)).trans (heap_alloc_new w1 _)) hl2)).mono ?_; rw [HF.out]; rintro e w3 ⟨rfl, hB3⟩))
  go_ret
  have z1 := hB1.size
  have z2 := hB2.size
  simp only [World.size_alloc] at z2
  exact ⟨rfl, ((hB1.alloc z1 _).trans (hB2.mono (by simp; omega))).trans (hB3.mono (by omega))⟩
end Go.Proofs.Ythabhmgolfoccaa
