/- Proved here: contracts of the frame's within and Right, and of the document's Right. -/
import Derived.Test.YtfcadbeamojdpaaFrm
namespace Go.Proofs.Ytfcadbeamojdpaa
open Go.RowKit Go.Rv Frm
set_option linter.unusedVariables false
/-- is it one from a to b? -/
def inB (n a b : Int) : Bool := decide (a ≤ n) && decide (n ≤ b)
set_option maxRecDepth 100000 in
set_option maxHeartbeats 400000 in
theorem fwithin_any (n a b : Int) (w : World) :
    Calls Try.prog 50 #[.int .i64 n, .int .i64 a, .int .i64 b] w fun e w' => e = .returned (.bool (inB n a b)) ∧ w = w' := by
  unfold inB
  cases h1 : decide (a ≤ n)
  · go_enter Try.func50, Try.ntmps50
    go_wp2
    go_ret
    exact ⟨rfl, rfl⟩
  · go_enter Try.func50, Try.ntmps50
    go_wp2
    go_ret
    exact ⟨rfl, rfl⟩
theorem right_eq (f : Fr) : rightF f = (inB f.kind 1 5 && inB f.zone 0 65535 && inB f.off 0 65535 && inB f.epoch 1 4294967295 && inB f.seq 0 281474976710655) := by
  rw [Bool.eq_iff_iff]
  simp only [rightF, inB, Bool.and_eq_true, decide_eq_true_eq]
  constructor
  · rintro ⟨h1, h2, h3, h4, h5, h6, h7, h8, h9, h10⟩
    exact ⟨⟨⟨⟨⟨h1, h2⟩, ⟨h3, h4⟩⟩, ⟨h5, h6⟩⟩, ⟨h7, h8⟩⟩, ⟨h9, h10⟩⟩
  · rintro ⟨⟨⟨⟨⟨h1, h2⟩, ⟨h3, h4⟩⟩, ⟨h5, h6⟩⟩, ⟨h7, h8⟩⟩, ⟨h9, h10⟩⟩
    exact ⟨h1, h2, h3, h4, h5, h6, h7, h8, h9, h10⟩
set_option maxRecDepth 100000 in
set_option maxHeartbeats 1000000 in
theorem fright_any (f : Fr) (w : World) :
    Calls Try.prog 23 #[.agg (FC f)] w fun e w' => e = .returned (.bool (rightF f)) ∧ Below w.heap.size w w' := by
  have hg := heap_alloc_new w (.cells (FC f) 24)
  obtain ⟨c0, c1, c2, c3, c4⟩ := frame_cells hg
  have hB : Below w.heap.size w (w.alloc (.cells (FC f) 24)) := (Below.refl _ _).alloc (Nat.le_refl _) _
  have HR := Lib.hid (right_eq f)
  have H0 := Lib.hid (fun W => fwithin_any f.kind 1 5 W)
  have H1 := Lib.hid (fun W => fwithin_any f.zone 0 65535 W)
  have H2 := Lib.hid (fun W => fwithin_any f.off 0 65535 W)
  have H3 := Lib.hid (fun W => fwithin_any f.epoch 1 4294967295 W)
  have H4 := Lib.hid (fun W => fwithin_any f.seq 0 281474976710655 W)
  generalize inB f.kind 1 5 = b0 at *
  generalize inB f.zone 0 65535 = b1 at *
  generalize inB f.off 0 65535 = b2 at *
  generalize inB f.epoch 1 4294967295 = b3 at *
  generalize inB f.seq 0 281474976710655 = b4 at *
  generalize FC f = C at *
  clear hg
  go_enter Try.func23, Try.ntmps23
  go_wp2_with fail
  refine (H0.out _).mono ?_
  rintro e w' ⟨rfl, rfl⟩
  cases b0
  · go_wp2
    go_ret
    exact ⟨by rw [HR.out]; rfl, hB⟩
  · go_wp2_with fail
    refine (H1.out _).mono ?_
    rintro e w' ⟨rfl, rfl⟩
    cases b1
    · go_wp2
      go_ret
      exact ⟨by rw [HR.out]; rfl, hB⟩
    · go_wp2_with fail
      refine (H2.out _).mono ?_
      rintro e w' ⟨rfl, rfl⟩
      cases b2
      · go_wp2
        go_ret
        exact ⟨by rw [HR.out]; rfl, hB⟩
      · go_wp2_with fail
        refine (H3.out _).mono ?_
        rintro e w' ⟨rfl, rfl⟩
        cases b3
        · go_wp2
          go_ret
          exact ⟨by rw [HR.out]; rfl, hB⟩
        · go_wp2_with fail
          refine (H4.out _).mono ?_
          rintro e w' ⟨rfl, rfl⟩
          go_wp2
          go_ret
          exact ⟨by rw [HR.out]; rfl, hB⟩
end Go.Proofs.Ytfcadbeamojdpaa
