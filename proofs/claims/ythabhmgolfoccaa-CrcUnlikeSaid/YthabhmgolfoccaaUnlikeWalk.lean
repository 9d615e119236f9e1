import Derived.Test.YthabhmgolfoccaaAnchor
import Derived.Deep.QuietTactic
import Derived.BigQuiet
namespace Go.Proofs.Ythabhmgolfoccaa
open Go.RowKit
set_option linter.unusedVariables false
theorem tab_xor (x y : Nat) : Crc.tab (x ^^^ y) = Crc.tab x ^^^ Crc.tab y := Crc.hn_xor 8 x y
theorem tab_eq (x y : Nat) (hx : x < 256) (hy : y < 256) : ((Crc.tab x : Int) == (Crc.tab y : Int)) = ((x : Int) == (y : Int)) := by
  rw [Bool.eq_iff_iff, beq_iff_eq, beq_iff_eq]
  constructor
  · intro h
    have := Crc.hn_inj 8 (a := x) (b := y) (by omega) (by omega) (by unfold Crc.tab at h; omega)
    omega
  · intro h
    have : x = y := by omega
    rw [this]
set_option maxRecDepth 100000 in
set_option maxHeartbeats 400000 in
theorem unlike_walk (x y : Nat) (hx : x < 256) (hy : y < 256) (w : World) :
    Calls Try.prog 3 #[.int .u8 x, .int .u8 y] w fun e w' => e = .returned (.bool true) ∧ Below w.heap.size w w' := by
  have hz := (zero_of_info Try.infoTab).1
  have hi : (Try.prog.info? 25).map (·.size) = some Tb.tabV.size := by rw [Tb.size_tabV]; exact (zero_of_info Try.infoTab).2
  have hI := Lib.hid hi
  clear hi
  obtain ⟨z, hzz⟩ : ∃ z, z = x ^^^ y := ⟨_, rfl⟩
  have hz8 : z < 256 := by rw [hzz]; exact Nat.xor_lt_two_pow (n := 8) hx hy
  have e1 : bits .xor .u8 (x : Int) (y : Int) = (z : Int) := by rw [hzz]; exact u8_xor_nat x y hx hy
  have tx := Tb.tabV_at x hx
  have ty := Tb.tabV_at y hy
  have tz := Tb.tabV_at z hz8
  have hexy := tab_eq x y hx hy
  have hZ : Crc.tab z = Crc.tab x ^^^ Crc.tab y := by rw [hzz, tab_xor]
  have lx : Crc.tab x < 2 ^ 32 := Crc.tab_lt (by omega)
  have ly : Crc.tab y < 2 ^ 32 := Crc.tab_lt (by omega)
  have e2 : bits .xor .u32 (Crc.tab x : Int) (Crc.tab y : Int) = (Crc.tab z : Int) := by rw [hZ]; exact u32_xor_nat _ _ (by simpa using lx) (by simpa using ly)
  clear hzz hZ lx ly
  generalize Crc.tab x = X at *
  generalize Crc.tab y = Y at *
  generalize Crc.tab z = Z at *
  have bx : (x : Int) < 256 := by omega
  have by' : (y : Int) < 256 := by omega
  have bz : (z : Int) < 256 := by omega
  go_enter Try.func3, Try.ntmps3
  go_wp2_with (first | (go_at_call 11; refine (anchor_any _).mono ?_; rintro e w1 ⟨rfl, hB1⟩) | (go_at_call 12; refine (new_any _).mono ?_; rintro e w2 ⟨rfl, hB2⟩) | (refine wpList_store_row rfl 25 _ _ rfl w2.heap.size Tb.tabV rfl rfl 25 Tb.zero (heap_alloc_new w2 _) hI.out (by rw [Tb.size_zero, Tb.size_tabV]) Tb.one_tabV ?_; rw [World.setRow_alloc_new]))
  go_quiet (fail)
  go_wp2
  go_ret
  exact ⟨rfl, below_drewN ((hB1.trans (hB2.mono hB1.size)).alloc (by have := hB1.size; have := hB2.size; omega) _) _⟩
end Go.Proofs.Ythabhmgolfoccaa
