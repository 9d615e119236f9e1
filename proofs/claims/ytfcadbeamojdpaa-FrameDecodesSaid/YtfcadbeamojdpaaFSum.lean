/- Proved here: the contract of the frame's Sum. -/
import Derived.Test.YtfcadbeamojdpaaDecode
namespace Go.Proofs.Ytfcadbeamojdpaa
open Go.RowKit Go.Rv Frm
set_option linter.unusedVariables false
set_option maxRecDepth 100000 in
set_option maxHeartbeats 1000000 in
theorem fsum_any (s : List Nat) (w : World) (hl : s.length = 64) (hs : ∀ c ∈ s, c < 256) :
    Calls Try.prog 20 #[.agg (byteCells s)] w fun e w' => e = .returned (.int .i64 (Cod.rd (s.drop 60) : Nat)) ∧ Below w.heap.size w w' := by
  have h0 := heap_alloc_new w (.cells (byteCells s) 31)
  have hB0 := (Below.refl w.heap.size w).alloc (Nat.le_refl _) (.cells (byteCells s) 31)
  have hb := (byteCells_row h0 hs).drop 60
  rw [Nat.zero_add] at hb
  have hbl : (s.drop 60).length = 4 := by rw [List.length_drop, hl]
  obtain ⟨m, hm⟩ : ∃ m, s.drop 60 = m := ⟨_, rfl⟩
  rw [hm] at hb hbl ⊢
  have HN := Lib.hid (fun W h => rd_new (some ⟨w.heap.size, 60, none⟩) m 4 W h (fun e => by cases e) (by omega))
  rw [hbl] at HN
  have HL := Lib.hid hbl
  clear h0 hm hbl
  generalize byteCells s = SC at *
  go_enter Try.func20, Try.ntmps20
  go_wp2_with fail
  refine (HN.out _ hb).mono ?_
  rintro e w1 ⟨g, rfl, hg, hR, hB1⟩
  have hK := rd_to g m (m.drop 4) (Cod.rd m) 4 4 w1 hR rfl (by omega) (by omega) (by rw [HL.out]; omega) (by rw [List.take_of_length_le (by rw [HL.out]; omega)]) rfl
  go_wp2_with fail
  refine hK.mono ?_
  rintro e w2 ⟨rfl, hR2, hO2⟩
  go_wp2
  go_ret
  have z1 := hB1.size
  rw [World.size_alloc] at hg z1
  exact ⟨rfl, (hB0.trans (hB1.mono hB0.size)).trans (hO2.below (by simp; omega) (by omega))⟩
end Go.Proofs.Ytfcadbeamojdpaa
