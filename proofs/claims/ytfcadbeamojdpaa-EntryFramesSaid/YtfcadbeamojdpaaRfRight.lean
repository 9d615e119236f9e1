/- Proved here: the contract of the document's Right of a frame. -/
import Derived.Test.YtfcadbeamojdpaaFrRight
namespace Go.Proofs.Ytfcadbeamojdpaa
open Go.RowKit Go.Rv Frm
set_option linter.unusedVariables false
set_option maxRecDepth 100000 in
set_option maxHeartbeats 4000000 in
theorem rfright_at (k z o e s : Int) (C : Array Value) (d : Bool) (hd : d = decide (1 ≤ k ∧ k ≤ 5 ∧ 0 ≤ z ∧ z ≤ 65535 ∧ 0 ≤ o ∧ o ≤ 65535 ∧ 1 ≤ e ∧ e ≤ 4294967295 ∧ 0 ≤ s ∧ s ≤ 281474976710655)) (w : World)
    (c0 : (w.alloc (.cells C 40)).cell? ⟨w.heap.size, 0, none⟩ = some (.int .i64 k)) (c1 : (w.alloc (.cells C 40)).cell? ⟨w.heap.size, 1, none⟩ = some (.int .i64 z)) (c2 : (w.alloc (.cells C 40)).cell? ⟨w.heap.size, 2, none⟩ = some (.int .i64 o)) (c3 : (w.alloc (.cells C 40)).cell? ⟨w.heap.size, 3, none⟩ = some (.int .i64 e)) (c4 : (w.alloc (.cells C 40)).cell? ⟨w.heap.size, 4, none⟩ = some (.int .i64 s)) :
    Calls Try.prog 24 #[.agg C] w fun e w' => e = .returned (.bool d) ∧ Below w.heap.size w w' := by
  have hB : Below w.heap.size w (w.alloc (.cells C 40)) := (Below.refl _ _).alloc (Nat.le_refl _) _
  by_cases h0 : 1 ≤ k
  case neg =>
    have HD : Hid (d = false) := by rw [hd]; exact decide_eq_false (by rintro ⟨a0, a1, a2, a3, a4, a5, a6, a7, a8, a9⟩; exact h0 a0)
    have t0 : decide (1 ≤ k) = false := decide_eq_false h0
    clear hd h0
    go_enter Try.func24, Try.ntmps24
    go_wp2
    go_ret
    exact ⟨by rw [HD.out]; rfl, hB⟩
  by_cases h1 : k ≤ 5
  case neg =>
    have HD : Hid (d = false) := by rw [hd]; exact decide_eq_false (by rintro ⟨a0, a1, a2, a3, a4, a5, a6, a7, a8, a9⟩; exact h1 a1)
    have t0 : decide (1 ≤ k) = true := decide_eq_true h0
    have t1 : decide (k ≤ 5) = false := decide_eq_false h1
    clear hd h0 h1
    go_enter Try.func24, Try.ntmps24
    go_wp2
    go_ret
    exact ⟨by rw [HD.out]; rfl, hB⟩
  by_cases h2 : 0 ≤ z
  case neg =>
    have HD : Hid (d = false) := by rw [hd]; exact decide_eq_false (by rintro ⟨a0, a1, a2, a3, a4, a5, a6, a7, a8, a9⟩; exact h2 a2)
    have t0 : decide (1 ≤ k) = true := decide_eq_true h0
    have t1 : decide (k ≤ 5) = true := decide_eq_true h1
    have t2 : decide (0 ≤ z) = false := decide_eq_false h2
    clear hd h0 h1 h2
    go_enter Try.func24, Try.ntmps24
    go_wp2
    go_ret
    exact ⟨by rw [HD.out]; rfl, hB⟩
  by_cases h3 : z ≤ 65535
  case neg =>
    have HD : Hid (d = false) := by rw [hd]; exact decide_eq_false (by rintro ⟨a0, a1, a2, a3, a4, a5, a6, a7, a8, a9⟩; exact h3 a3)
    have t0 : decide (1 ≤ k) = true := decide_eq_true h0
    have t1 : decide (k ≤ 5) = true := decide_eq_true h1
    have t2 : decide (0 ≤ z) = true := decide_eq_true h2
    have t3 : decide (z ≤ 65535) = false := decide_eq_false h3
    clear hd h0 h1 h2 h3
    go_enter Try.func24, Try.ntmps24
    go_wp2
    go_ret
    exact ⟨by rw [HD.out]; rfl, hB⟩
  by_cases h4 : 0 ≤ o
  case neg =>
    have HD : Hid (d = false) := by rw [hd]; exact decide_eq_false (by rintro ⟨a0, a1, a2, a3, a4, a5, a6, a7, a8, a9⟩; exact h4 a4)
    have t0 : decide (1 ≤ k) = true := decide_eq_true h0
    have t1 : decide (k ≤ 5) = true := decide_eq_true h1
    have t2 : decide (0 ≤ z) = true := decide_eq_true h2
    have t3 : decide (z ≤ 65535) = true := decide_eq_true h3
    have t4 : decide (0 ≤ o) = false := decide_eq_false h4
    clear hd h0 h1 h2 h3 h4
    go_enter Try.func24, Try.ntmps24
    go_wp2
    go_ret
    exact ⟨by rw [HD.out]; rfl, hB⟩
  by_cases h5 : o ≤ 65535
  case neg =>
    have HD : Hid (d = false) := by rw [hd]; exact decide_eq_false (by rintro ⟨a0, a1, a2, a3, a4, a5, a6, a7, a8, a9⟩; exact h5 a5)
    have t0 : decide (1 ≤ k) = true := decide_eq_true h0
    have t1 : decide (k ≤ 5) = true := decide_eq_true h1
    have t2 : decide (0 ≤ z) = true := decide_eq_true h2
    have t3 : decide (z ≤ 65535) = true := decide_eq_true h3
    have t4 : decide (0 ≤ o) = true := decide_eq_true h4
    have t5 : decide (o ≤ 65535) = false := decide_eq_false h5
    clear hd h0 h1 h2 h3 h4 h5
    go_enter Try.func24, Try.ntmps24
    go_wp2
    go_ret
    exact ⟨by rw [HD.out]; rfl, hB⟩
  by_cases h6 : 1 ≤ e
  case neg =>
    have HD : Hid (d = false) := by rw [hd]; exact decide_eq_false (by rintro ⟨a0, a1, a2, a3, a4, a5, a6, a7, a8, a9⟩; exact h6 a6)
    have t0 : decide (1 ≤ k) = true := decide_eq_true h0
    have t1 : decide (k ≤ 5) = true := decide_eq_true h1
    have t2 : decide (0 ≤ z) = true := decide_eq_true h2
    have t3 : decide (z ≤ 65535) = true := decide_eq_true h3
    have t4 : decide (0 ≤ o) = true := decide_eq_true h4
    have t5 : decide (o ≤ 65535) = true := decide_eq_true h5
    have t6 : decide (1 ≤ e) = false := decide_eq_false h6
    clear hd h0 h1 h2 h3 h4 h5 h6
    go_enter Try.func24, Try.ntmps24
    go_wp2
    go_ret
    exact ⟨by rw [HD.out]; rfl, hB⟩
  by_cases h7 : e ≤ 4294967295
  case neg =>
    have HD : Hid (d = false) := by rw [hd]; exact decide_eq_false (by rintro ⟨a0, a1, a2, a3, a4, a5, a6, a7, a8, a9⟩; exact h7 a7)
    have t0 : decide (1 ≤ k) = true := decide_eq_true h0
    have t1 : decide (k ≤ 5) = true := decide_eq_true h1
    have t2 : decide (0 ≤ z) = true := decide_eq_true h2
    have t3 : decide (z ≤ 65535) = true := decide_eq_true h3
    have t4 : decide (0 ≤ o) = true := decide_eq_true h4
    have t5 : decide (o ≤ 65535) = true := decide_eq_true h5
    have t6 : decide (1 ≤ e) = true := decide_eq_true h6
    have t7 : decide (e ≤ 4294967295) = false := decide_eq_false h7
    clear hd h0 h1 h2 h3 h4 h5 h6 h7
    go_enter Try.func24, Try.ntmps24
    go_wp2
    go_ret
    exact ⟨by rw [HD.out]; rfl, hB⟩
  by_cases h8 : 0 ≤ s
  case neg =>
    have HD : Hid (d = false) := by rw [hd]; exact decide_eq_false (by rintro ⟨a0, a1, a2, a3, a4, a5, a6, a7, a8, a9⟩; exact h8 a8)
    have t0 : decide (1 ≤ k) = true := decide_eq_true h0
    have t1 : decide (k ≤ 5) = true := decide_eq_true h1
    have t2 : decide (0 ≤ z) = true := decide_eq_true h2
    have t3 : decide (z ≤ 65535) = true := decide_eq_true h3
    have t4 : decide (0 ≤ o) = true := decide_eq_true h4
    have t5 : decide (o ≤ 65535) = true := decide_eq_true h5
    have t6 : decide (1 ≤ e) = true := decide_eq_true h6
    have t7 : decide (e ≤ 4294967295) = true := decide_eq_true h7
    have t8 : decide (0 ≤ s) = false := decide_eq_false h8
    clear hd h0 h1 h2 h3 h4 h5 h6 h7 h8
    go_enter Try.func24, Try.ntmps24
    go_wp2
    go_ret
    exact ⟨by rw [HD.out]; rfl, hB⟩
  by_cases h9 : s ≤ 281474976710655
  case neg =>
    have HD : Hid (d = false) := by rw [hd]; exact decide_eq_false (by rintro ⟨a0, a1, a2, a3, a4, a5, a6, a7, a8, a9⟩; exact h9 a9)
    have t0 : decide (1 ≤ k) = true := decide_eq_true h0
    have t1 : decide (k ≤ 5) = true := decide_eq_true h1
    have t2 : decide (0 ≤ z) = true := decide_eq_true h2
    have t3 : decide (z ≤ 65535) = true := decide_eq_true h3
    have t4 : decide (0 ≤ o) = true := decide_eq_true h4
    have t5 : decide (o ≤ 65535) = true := decide_eq_true h5
    have t6 : decide (1 ≤ e) = true := decide_eq_true h6
    have t7 : decide (e ≤ 4294967295) = true := decide_eq_true h7
    have t8 : decide (0 ≤ s) = true := decide_eq_true h8
    have t9 : decide (s ≤ 281474976710655) = false := decide_eq_false h9
    clear hd h0 h1 h2 h3 h4 h5 h6 h7 h8 h9
    go_enter Try.func24, Try.ntmps24
    go_wp2
    go_ret
    exact ⟨by rw [HD.out]; rfl, hB⟩
  have HD : Hid (d = true) := by rw [hd]; exact decide_eq_true ⟨h0, h1, h2, h3, h4, h5, h6, h7, h8, h9⟩
  have t0 : decide (1 ≤ k) = true := decide_eq_true h0
  have t1 : decide (k ≤ 5) = true := decide_eq_true h1
  have t2 : decide (0 ≤ z) = true := decide_eq_true h2
  have t3 : decide (z ≤ 65535) = true := decide_eq_true h3
  have t4 : decide (0 ≤ o) = true := decide_eq_true h4
  have t5 : decide (o ≤ 65535) = true := decide_eq_true h5
  have t6 : decide (1 ≤ e) = true := decide_eq_true h6
  have t7 : decide (e ≤ 4294967295) = true := decide_eq_true h7
  have t8 : decide (0 ≤ s) = true := decide_eq_true h8
  have t9 : decide (s ≤ 281474976710655) = true := decide_eq_true h9
  clear hd h0 h1 h2 h3 h4 h5 h6 h7 h8 h9
  go_enter Try.func24, Try.ntmps24
  go_wp2
  go_ret
  exact ⟨by rw [HD.out]; rfl, hB⟩
theorem rfright_any (f : Fr) (w : World) :
    Calls Try.prog 24 #[.agg (FC f)] w fun e w' => e = .returned (.bool (rightF f)) ∧ Below w.heap.size w w' := by
  obtain ⟨c0, c1, c2, c3, c4⟩ := frame_cells (heap_alloc_new w (.cells (FC f) 40))
  exact rfright_at f.kind f.zone f.off f.epoch f.seq (FC f) (rightF f) rfl w c0 c1 c2 c3 c4
end Go.Proofs.Ytfcadbeamojdpaa
