/- Proved here: the contract of the document's Num: a number's bytes, in memory of the call's own. -/
import Derived.Test.YtfcadbeamojdpaaCodNum
namespace Go.Proofs.Ytfcadbeamojdpaa
open Go.RowKit Go.Rv
set_option linter.unusedVariables false
set_option maxRecDepth 100000 in
set_option maxHeartbeats 400000 in
theorem rnum_any (k n : Nat) (hk : k ≤ 1000) (hn : n < 9223372036854775808) (w : World) :
    Calls Try.prog 51 #[.int .i64 k, .int .i64 n] w fun e w' => ∃ v, e = .returned v ∧ OwnB w' 5 w.heap.size v (Cod.leN k n) ∧ Below w.heap.size w w' := by
  go_enter Try.func51, Try.ntmps51
  go_wp2
  go_loopw [1, 5, 6] (fun x o i wr => ∃ j : Nat, j ≤ k ∧ i = .int .i64 j ∧ x = .int .i64 (n / 256 ^ j : Nat) ∧ OwnB wr 5 w.heap.size o (Cod.leN j n) ∧ Below w.heap.size w wr) (fun _ _ i _ => k - (intOf i).toNat)
  case atStart => exact ⟨0, by omega, rfl, by simp, OwnB.nil _ _ _, Below.refl _ _⟩
  case round =>
    obtain ⟨j, hj, rfl, rfl, ho, hB⟩ := hrel
    by_cases hlt : j < k
    · have hs := Lib.hid (div_succ n j)
      have hle := div_le n j
      have hsn := Lib.hid (Cod.leN_snoc j n)
      have hjl := Lib.hid (Cod.leN_length j n)
      generalize n / 256 ^ j = x at *
      have hx8 : x % 256 < 256 := Nat.mod_lt _ (by omega)
      have hz := hB.size
      go_wp2_with (at_builtin; refine wpList_append_bytes rfl (.tmp 12) (.tmp 16) 47 rfl 5 Try.underlying47 Try.infoU8 w.heap.size _ (Cod.leN j n) rfl (ho.below ((Below.refl _ _).alloc (Nat.le_refl _) _)) (some ⟨wr.heap.size, 0, none⟩) 1 [x % 256] rfl (one_byte_row wr _ _ hx8) (fun e => by cases e) (by rw [hjl.out]; simp; omega) (by simp; omega) ?_; intro v' w' hv hg)
      have hb2 := (hB.alloc hz _).trans ((ho.below ((Below.refl _ _).alloc (Nat.le_refl _) _)).grown hg (by simp; omega))
      go_roundw
      case rel => exact ⟨j + 1, by omega, by go_num, by rw [← hs.out]; go_num, by rw [hsn.out]; exact hv, hb2⟩
      case measure => simp [intOf]; omega
    · obtain rfl : j = k := by omega
      go_wp2
      go_ret
      exact ⟨_, rfl, ho, hB⟩
end Go.Proofs.Ytfcadbeamojdpaa
