/- Proved here: the contract of the laws' anchor: it answers true. -/
import Derived.Test.YtihngpibccodfaaPen
import Derived.Test.YtihngpibccodfaaSame
namespace Go.Proofs.Ytihngpibccodfaa
open Go.RowKit Go.Rv
set_option linter.unusedVariables false
set_option maxRecDepth 100000 in
set_option maxHeartbeats 400000 in
theorem anchor_any (w : World) : Calls Try.prog 8 #[] w fun e w' => e = .returned (.bool true) ∧ Below w.heap.size w w' := by
  have hP := PenAt.new w
  have HN := Lib.hid (fun W hP => pen_num_yes w.heap.size none [] false 2 258 W hP (by omega) (by omega) (by decide) (by simp))
  rw [show [] ++ Cod.leN 2 258 = [2, 1] from rfl] at HN
  go_enter Try.func8, Try.ntmps8
  go_wp2_with fail
  refine (HN.out _ hP).mono ?_
  rintro e w1 ⟨rfl, f1, hP1, hO1, hf1⟩
  have hB1 : Below w.heap.size w w1 := ((Below.refl _ _).alloc (Nat.le_refl _) _).trans (hO1.below (by simp) (by simp))
  go_wp2_with fail
  refine (pen_out _ _ _ _ _ hP1 (by simp)).mono ?_
  rintro e w2 ⟨⟨v2, rfl, hown2, -⟩, hB2⟩
  have hB2' := hB1.trans (hB2.mono hB1.size)
  obtain ⟨a2, c2, rfl, hb2, hn2, -⟩ := hown2.bytes
  go_wp2_with fail
  refine (rsame_b a2 (some ⟨w2.heap.size, 0, none⟩) [2, 1] [2, 1] c2 2 _ (hb2.below ((Below.refl _ _).alloc (Nat.le_refl _) _)) (byteCells_row (heap_alloc_new w2 _) (by decide)) (by simp) (by simp) true rfl).mono ?_
  rintro e w3 ⟨rfl, hB3⟩
  go_wp2
  go_ret
  exact ⟨rfl, (hB2'.alloc hB2'.size _).trans (hB3.mono (by have := hB2'.size; simp; omega))⟩
end Go.Proofs.Ytihngpibccodfaa
