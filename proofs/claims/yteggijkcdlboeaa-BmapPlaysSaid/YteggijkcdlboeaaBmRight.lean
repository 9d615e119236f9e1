/- Proved here: the contract of an entry's Right. -/
import Derived.Test.YteggijkcdlboeaaBmCnt
import Derived.Test.YteggijkcdlboeaaEq0
namespace Go.Proofs.Yteggijkcdlboeaa
open Go.RowKit Go.Rv
set_option linter.unusedVariables false
def beLive (g : Geo.G) (e : BE) : Bool := holdsG g e.z e.o && (holdsG g e.m e.o && (decide (domOf g e.z ≠ domOf g e.m) && (decide (1 ≤ e.q) && (decide (e.q ≤ 281474976710655) && (decide (0 ≤ e.s) && decide (e.s ≤ 4294967295))))))
/-- may an entry be? -/
def beRight (g : Geo.G) (e : BE) : Bool := if e.st = 0 ∨ e.st = 2 then decide (e = ⟨e.st, 0, 0, 0, 0, 0⟩) else if e.st = 1 then beLive g e else false
theorem bright_setup (C D : Array Value) (w : World) : ∃ W0, (w.alloc (.cells C 41)).alloc (.cells D 23) = W0 ∧ Below w.heap.size w W0 ∧ W0.heap[w.heap.size]? = some (.cells C 41 (0, 0)) ∧ W0.heap[w.heap.size + 1]? = some (.cells D 23 (0, 0)) ∧ w.heap.size + 1 < W0.heap.size := by
  refine ⟨_, rfl, ((Below.refl _ w).alloc (Nat.le_refl _) _).alloc (by simp) _, ?_, ?_, by simp⟩
  · exact (alloc_old _ _ (by simp)).trans (alloc_new _ _ rfl)
  · exact alloc_new _ _ (by simp)

set_option maxRecDepth 100000 in
set_option maxHeartbeats 2000000 in
theorem bright_1 (C D : Array Value) (z m o q s d1 d2 : Int) (w : World)
    (hC : ∀ (W : World), W.heap[w.heap.size]? = some (.cells C 41 (0, 0)) → W.cell? ⟨w.heap.size, 0, none⟩ = some (.int .i64 1) ∧ W.cell? ⟨w.heap.size, 1, none⟩ = some (.int .i64 z) ∧ W.cell? ⟨w.heap.size, 2, none⟩ = some (.int .i64 m) ∧ W.cell? ⟨w.heap.size, 3, none⟩ = some (.int .i64 o) ∧ W.cell? ⟨w.heap.size, 4, none⟩ = some (.int .i64 q) ∧ W.cell? ⟨w.heap.size, 5, none⟩ = some (.int .i64 s))
    (hI : (Try.prog.info? 23).map (·.size) = some D.size)
    (h1 : ∀ W, Calls Try.prog 21 #[.agg D, .int .i64 z, .int .i64 o] W fun e w' => e = .returned (.bool false) ∧ Below W.heap.size W w') :
    Calls Try.prog 33 #[.agg C, .agg D] w fun e w' => e = .returned (.bool false) ∧ Below w.heap.size w w' := by
  obtain ⟨W0, hW0, hB0, hE, hG, hz0⟩ := bright_setup C D w
  obtain ⟨k0, -⟩ := hC _ hE
  have HW0 := Lib.hid hW0
  have HE := Lib.hid hE
  have HG := Lib.hid hG
  have HI := Lib.hid hI
  have HQ := Lib.hid (fun W hh => (hC W hh).2)
  have H1 := Lib.hid h1
  clear hW0 hE hG hI hC h1
  go_enter Try.func33, Try.ntmps33
  go_upto_region 1 with (fail)
  rw [HW0.out]
  go_wp2
  refine wp_region_conf2 45 [Fact.eq ?rax0, Fact.eq ?rax1, Fact.eq ?rax2, Fact.eq ?rax3, Fact.eq ?rax4, Fact.eq ?rax5, Fact.eq ?rax6, Fact.eq undef, Fact.eq undef, Fact.eq undef, Fact.eq undef, Fact.eq undef, Fact.eq undef, Fact.eq ?rax13, Fact.eq ?rax14, Fact.eq undef, Fact.eq undef, Fact.eq undef, Fact.eq undef, Fact.eq undef, Fact.eq undef, Fact.eq undef, Fact.eq undef, Fact.eq undef, Fact.eq ?rax24, Fact.eq ?rax25, Fact.eq undef, Fact.eq undef, Fact.eq undef, Fact.eq ?rax29, Fact.eq ?rax30, Fact.eq undef, Fact.eq undef, Fact.eq undef, Fact.eq ?rax34, Fact.eq ?rax35, Fact.eq undef, Fact.eq undef, Fact.eq undef, Fact.eq ?rax39, Fact.eq ?rax40, Fact.eq undef, Fact.eq undef, Fact.eq undef, Fact.eq ?rax44] ?raA (by kernel_rfl) (by kernel_rfl) ?rahA ?raho ?rahend
  case rahA =>
    intro vv
    simp only [putRules, Nat.reduceAdd]
    rfl
  case raho =>
    refine ⟨?_, ?_, ?_, ?_, ?_, ?_, ?_, ?_, ?_, ?_, ?_, ?_, ?_, ?_, ?_, ?_, ?_, ?_, ?_, ?_, ?_, ?_, ?_, ?_, ?_, ?_, ?_, ?_, ?_, ?_, ?_, ?_, ?_, ?_, ?_, ?_, ?_, ?_, ?_, ?_, ?_, ?_, ?_, ?_, ?_, trivial⟩
    · intro vv W K hB hd HK
      simp only [confRules] at HK
      clear hd
      have hT := (hB.block (w.heap.size + 1) hz0).trans HG.out
      go_wp2_with (refine wpList_row_on (by rfl) 23 _ rfl (w.heap.size + 1) rfl 23 _ _ _ hT Try.underlying23 rfl HI.out ?_)
      refine HK.out _ _ (Below.refl _ _) ?_
      rfl
    · intro vv W K hB hd HK
      simp only [confRules] at HK
      clear hd
      go_wp2
      refine HK.out _ _ (Below.refl _ _) ?_
      rfl
    · intro vv W K hB hd HK
      simp only [confRules] at hd HK
      have h1 := hd
      clear hd
      simp only [h1] at HK ⊢
      clear h1
      have hT := (hB.block w.heap.size (by omega)).trans HE.out
      obtain ⟨k1, k2, k3, k4, k5⟩ := HQ.out _ hT
      clear hT
      go_wp2
      refine HK.out _ _ (Below.refl _ _) ?_
      rfl
    · intro vv W K hB hd HK
      simp only [confRules] at HK
      clear hd
      go_wp2
      refine HK.out _ _ (Below.refl _ _) ?_
      rfl
    · intro vv W K hB hd HK
      simp only [confRules] at hd HK
      have h3 := hd
      clear hd
      simp only [h3] at HK ⊢
      clear h3
      have hT := (hB.block w.heap.size (by omega)).trans HE.out
      obtain ⟨k1, k2, k3, k4, k5⟩ := HQ.out _ hT
      clear hT
      go_wp2
      refine HK.out _ _ (Below.refl _ _) ?_
      rfl
    · intro vv W K hB hd HK
      simp only [confRules] at hd HK
      obtain ⟨h0, h2, h4⟩ := hd
      simp only [h0, h2, h4] at HK ⊢
      clear h0 h2 h4
      go_wp2_with (refine (H1.out _).mono ?_; rintro e w9 ⟨rfl, hB9⟩)
      refine HK.out _ _ hB9 ?_
      rfl
    · intro vv W K hB hd HK
      simp only [confRules] at hd HK
      obtain ⟨h5, _⟩ := hd
      simp only [h5] at HK ⊢
      clear h5
      go_wp2
      refine HK.out _ _ (Below.refl _ _) ?_
      rfl
    · intro vv W K hB hd HK
      simp only [confRules] at hd HK
      have h6 := hd
      clear hd
      simp only [h6] at HK ⊢
      clear h6
      refine wpList_guard_no (by rfl) ?_
      refine HK.out _ _ (Below.refl _ _) ?_
      rfl
    · intro vv W K hB hd HK
      simp only [confRules] at hd HK
      have h6 := hd
      clear hd
      simp only [h6] at HK ⊢
      clear h6
      refine wpList_guard_no (by rfl) ?_
      refine HK.out _ _ (Below.refl _ _) ?_
      rfl
    · intro vv W K hB hd HK
      simp only [confRules] at hd HK
      obtain ⟨h8, h6⟩ := hd
      simp only [h8, h6] at HK ⊢
      clear h8 h6
      refine wpList_guard_no (by rfl) ?_
      refine HK.out _ _ (Below.refl _ _) ?_
      rfl
    · intro vv W K hB hd HK
      simp only [confRules] at hd HK
      have h6 := hd
      clear hd
      simp only [h6] at HK ⊢
      clear h6
      refine wpList_guard_no (by rfl) ?_
      refine HK.out _ _ (Below.refl _ _) ?_
      rfl
    · intro vv W K hB hd HK
      simp only [confRules] at hd HK
      obtain ⟨h10, h6⟩ := hd
      simp only [h10, h6] at HK ⊢
      clear h10 h6
      refine wpList_guard_no (by rfl) ?_
      refine HK.out _ _ (Below.refl _ _) ?_
      rfl
    · intro vv W K hB hd HK
      simp only [confRules] at hd HK
      obtain ⟨h7, h9, h11, h6, _⟩ := hd
      simp only [h7, h9, h11, h6] at HK ⊢
      clear h7 h9 h11 h6
      refine wpList_guard_no (by rfl) ?_
      refine HK.out _ _ (Below.refl _ _) ?_
      rfl
    · intro vv W K hB hd HK
      simp only [confRules] at hd HK
      obtain ⟨h6, h12⟩ := hd
      simp only [h6, h12] at HK ⊢
      clear h6 h12
      go_wp2
      refine HK.out _ _ (Below.refl _ _) ?_
      rfl
    · intro vv W K hB hd HK
      simp only [confRules] at hd HK
      obtain ⟨h13, h12⟩ := hd
      simp only [h13, h12] at HK ⊢
      clear h13 h12
      go_wp2
      refine HK.out _ _ (Below.refl _ _) ?_
      rfl
    · intro vv W K hB hd HK
      simp only [confRules] at hd HK
      have h14 := hd
      clear hd
      simp only [h14] at HK ⊢
      clear h14
      refine wpList_guard_no (by rfl) ?_
      refine HK.out _ _ (Below.refl _ _) ?_
      rfl
    · intro vv W K hB hd HK
      simp only [confRules] at hd HK
      have h14 := hd
      clear hd
      simp only [h14] at HK ⊢
      clear h14
      refine wpList_guard_no (by rfl) ?_
      refine HK.out _ _ (Below.refl _ _) ?_
      rfl
    · intro vv W K hB hd HK
      simp only [confRules] at hd HK
      obtain ⟨h16, h14⟩ := hd
      simp only [h16, h14] at HK ⊢
      clear h16 h14
      refine wpList_guard_no (by rfl) ?_
      refine HK.out _ _ (Below.refl _ _) ?_
      rfl
    · intro vv W K hB hd HK
      simp only [confRules] at hd HK
      obtain ⟨h15, h17, h14, _⟩ := hd
      simp only [h15, h17, h14] at HK ⊢
      clear h15 h17 h14
      refine wpList_guard_no (by rfl) ?_
      refine HK.out _ _ (Below.refl _ _) ?_
      rfl
    · intro vv W K hB hd HK
      simp only [confRules] at hd HK
      have h14 := hd
      clear hd
      simp only [h14] at HK ⊢
      clear h14
      refine wpList_guard_no (by rfl) ?_
      refine HK.out _ _ (Below.refl _ _) ?_
      rfl
    · intro vv W K hB hd HK
      simp only [confRules] at hd HK
      have h14 := hd
      clear hd
      simp only [h14] at HK ⊢
      clear h14
      refine wpList_guard_no (by rfl) ?_
      refine HK.out _ _ (Below.refl _ _) ?_
      rfl
    · intro vv W K hB hd HK
      simp only [confRules] at hd HK
      obtain ⟨h20, h14⟩ := hd
      simp only [h20, h14] at HK ⊢
      clear h20 h14
      refine wpList_guard_no (by rfl) ?_
      refine HK.out _ _ (Below.refl _ _) ?_
      rfl
    · intro vv W K hB hd HK
      simp only [confRules] at hd HK
      obtain ⟨h19, h21, h18, h14⟩ := hd
      simp only [h19, h21, h18, h14] at HK ⊢
      clear h19 h21 h18 h14
      refine wpList_guard_no (by rfl) ?_
      refine HK.out _ _ (Below.refl _ _) ?_
      rfl
    · intro vv W K hB hd HK
      simp only [confRules] at hd HK
      obtain ⟨h18, h22, h14⟩ := hd
      simp only [h18, h22, h14] at HK ⊢
      clear h18 h22 h14
      refine wpList_guard_no (by rfl) ?_
      refine HK.out _ _ (Below.refl _ _) ?_
      rfl
    · intro vv W K hB hd HK
      simp only [confRules] at hd HK
      obtain ⟨h14, h23⟩ := hd
      simp only [h14, h23] at HK ⊢
      clear h14 h23
      go_wp2
      refine HK.out _ _ (Below.refl _ _) ?_
      rfl
    · intro vv W K hB hd HK
      simp only [confRules] at hd HK
      obtain ⟨h24, h22⟩ := hd
      simp only [h24, h22] at HK ⊢
      clear h24 h22
      go_wp2
      refine HK.out _ _ (Below.refl _ _) ?_
      rfl
    · intro vv W K hB hd HK
      simp only [confRules] at hd HK
      have h25 := hd
      clear hd
      simp only [h25] at HK ⊢
      clear h25
      refine wpList_guard_no (by rfl) ?_
      refine HK.out _ _ (Below.refl _ _) ?_
      rfl
    · intro vv W K hB hd HK
      simp only [confRules] at hd HK
      obtain ⟨h26, h25⟩ := hd
      simp only [h26, h25] at HK ⊢
      clear h26 h25
      refine wpList_guard_no (by rfl) ?_
      refine HK.out _ _ (Below.refl _ _) ?_
      rfl
    · intro vv W K hB hd HK
      simp only [confRules] at hd HK
      obtain ⟨h27, h25⟩ := hd
      simp only [h27, h25] at HK ⊢
      clear h27 h25
      refine wpList_guard_no (by rfl) ?_
      refine HK.out _ _ (Below.refl _ _) ?_
      rfl
    · intro vv W K hB hd HK
      simp only [confRules] at hd HK
      obtain ⟨h25, h28⟩ := hd
      simp only [h25, h28] at HK ⊢
      clear h25 h28
      go_wp2
      refine HK.out _ _ (Below.refl _ _) ?_
      rfl
    · intro vv W K hB hd HK
      simp only [confRules] at hd HK
      obtain ⟨h29, h25⟩ := hd
      simp only [h29, h25] at HK ⊢
      clear h29 h25
      go_wp2
      refine HK.out _ _ (Below.refl _ _) ?_
      rfl
    · intro vv W K hB hd HK
      simp only [confRules] at hd HK
      have h30 := hd
      clear hd
      simp only [h30] at HK ⊢
      clear h30
      refine wpList_guard_no (by rfl) ?_
      refine HK.out _ _ (Below.refl _ _) ?_
      rfl
    · intro vv W K hB hd HK
      simp only [confRules] at hd HK
      obtain ⟨h31, h30⟩ := hd
      simp only [h31, h30] at HK ⊢
      clear h31 h30
      refine wpList_guard_no (by rfl) ?_
      refine HK.out _ _ (Below.refl _ _) ?_
      rfl
    · intro vv W K hB hd HK
      simp only [confRules] at hd HK
      obtain ⟨h32, h30⟩ := hd
      simp only [h32, h30] at HK ⊢
      clear h32 h30
      refine wpList_guard_no (by rfl) ?_
      refine HK.out _ _ (Below.refl _ _) ?_
      rfl
    · intro vv W K hB hd HK
      simp only [confRules] at hd HK
      obtain ⟨h30, h33⟩ := hd
      simp only [h30, h33] at HK ⊢
      clear h30 h33
      go_wp2
      refine HK.out _ _ (Below.refl _ _) ?_
      rfl
    · intro vv W K hB hd HK
      simp only [confRules] at hd HK
      obtain ⟨h34, h30⟩ := hd
      simp only [h34, h30] at HK ⊢
      clear h34 h30
      go_wp2
      refine HK.out _ _ (Below.refl _ _) ?_
      rfl
    · intro vv W K hB hd HK
      simp only [confRules] at hd HK
      have h35 := hd
      clear hd
      simp only [h35] at HK ⊢
      clear h35
      refine wpList_guard_no (by rfl) ?_
      refine HK.out _ _ (Below.refl _ _) ?_
      rfl
    · intro vv W K hB hd HK
      simp only [confRules] at hd HK
      obtain ⟨h36, h35⟩ := hd
      simp only [h36, h35] at HK ⊢
      clear h36 h35
      refine wpList_guard_no (by rfl) ?_
      refine HK.out _ _ (Below.refl _ _) ?_
      rfl
    · intro vv W K hB hd HK
      simp only [confRules] at hd HK
      obtain ⟨h37, h35⟩ := hd
      simp only [h37, h35] at HK ⊢
      clear h37 h35
      refine wpList_guard_no (by rfl) ?_
      refine HK.out _ _ (Below.refl _ _) ?_
      rfl
    · intro vv W K hB hd HK
      simp only [confRules] at hd HK
      obtain ⟨h35, h38⟩ := hd
      simp only [h35, h38] at HK ⊢
      clear h35 h38
      go_wp2
      refine HK.out _ _ (Below.refl _ _) ?_
      rfl
    · intro vv W K hB hd HK
      simp only [confRules] at hd HK
      obtain ⟨h39, h35⟩ := hd
      simp only [h39, h35] at HK ⊢
      clear h39 h35
      go_wp2
      refine HK.out _ _ (Below.refl _ _) ?_
      rfl
    · intro vv W K hB hd HK
      simp only [confRules] at hd HK
      have h40 := hd
      clear hd
      simp only [h40] at HK ⊢
      clear h40
      refine wpList_guard_no (by rfl) ?_
      refine HK.out _ _ (Below.refl _ _) ?_
      rfl
    · intro vv W K hB hd HK
      simp only [confRules] at hd HK
      obtain ⟨h41, h40⟩ := hd
      simp only [h41, h40] at HK ⊢
      clear h41 h40
      refine wpList_guard_no (by rfl) ?_
      refine HK.out _ _ (Below.refl _ _) ?_
      rfl
    · intro vv W K hB hd HK
      simp only [confRules] at hd HK
      obtain ⟨h42, h40⟩ := hd
      simp only [h42, h40] at HK ⊢
      clear h42 h40
      refine wpList_guard_no (by rfl) ?_
      refine HK.out _ _ (Below.refl _ _) ?_
      rfl
    · intro vv W K hB hd HK
      simp only [confRules] at hd HK
      obtain ⟨h40, h43⟩ := hd
      simp only [h40, h43] at HK ⊢
      clear h40 h43
      go_wp2
      refine HK.out _ _ (Below.refl _ _) ?_
      rfl
  case rahend =>
    intro vv W hB hf
    have e44 := hf 44 (by decide)
    simp only [endRules] at e44
    simp only [e44, dropRules]
    clear hf e44
    go_wp2
    go_ret
    exact ⟨rfl, hB0.trans (hB.mono (by omega))⟩
set_option maxRecDepth 100000 in
set_option maxHeartbeats 2000000 in
theorem bright_2 (C D : Array Value) (z m o q s d1 d2 : Int) (w : World)
    (hC : ∀ (W : World), W.heap[w.heap.size]? = some (.cells C 41 (0, 0)) → W.cell? ⟨w.heap.size, 0, none⟩ = some (.int .i64 1) ∧ W.cell? ⟨w.heap.size, 1, none⟩ = some (.int .i64 z) ∧ W.cell? ⟨w.heap.size, 2, none⟩ = some (.int .i64 m) ∧ W.cell? ⟨w.heap.size, 3, none⟩ = some (.int .i64 o) ∧ W.cell? ⟨w.heap.size, 4, none⟩ = some (.int .i64 q) ∧ W.cell? ⟨w.heap.size, 5, none⟩ = some (.int .i64 s))
    (hI : (Try.prog.info? 23).map (·.size) = some D.size)
    (h1 : ∀ W, Calls Try.prog 21 #[.agg D, .int .i64 z, .int .i64 o] W fun e w' => e = .returned (.bool true) ∧ Below W.heap.size W w')
    (h2 : ∀ W, Calls Try.prog 21 #[.agg D, .int .i64 m, .int .i64 o] W fun e w' => e = .returned (.bool false) ∧ Below W.heap.size W w') :
    Calls Try.prog 33 #[.agg C, .agg D] w fun e w' => e = .returned (.bool false) ∧ Below w.heap.size w w' := by
  obtain ⟨W0, hW0, hB0, hE, hG, hz0⟩ := bright_setup C D w
  obtain ⟨k0, -⟩ := hC _ hE
  have HW0 := Lib.hid hW0
  have HE := Lib.hid hE
  have HG := Lib.hid hG
  have HI := Lib.hid hI
  have HQ := Lib.hid (fun W hh => (hC W hh).2)
  have H1 := Lib.hid h1
  have H2 := Lib.hid h2
  clear hW0 hE hG hI hC h1 h2
  go_enter Try.func33, Try.ntmps33
  go_upto_region 1 with (fail)
  rw [HW0.out]
  go_wp2
  refine wp_region_conf2 45 [Fact.eq ?rax0, Fact.eq ?rax1, Fact.eq ?rax2, Fact.eq ?rax3, Fact.eq ?rax4, Fact.eq ?rax5, Fact.eq ?rax6, Fact.eq ?rax7, Fact.eq ?rax8, Fact.eq ?rax9, Fact.eq ?rax10, Fact.eq ?rax11, Fact.eq ?rax12, Fact.eq ?rax13, Fact.eq ?rax14, Fact.eq undef, Fact.eq undef, Fact.eq undef, Fact.eq undef, Fact.eq undef, Fact.eq undef, Fact.eq undef, Fact.eq undef, Fact.eq undef, Fact.eq ?rax24, Fact.eq ?rax25, Fact.eq undef, Fact.eq undef, Fact.eq undef, Fact.eq ?rax29, Fact.eq ?rax30, Fact.eq undef, Fact.eq undef, Fact.eq undef, Fact.eq ?rax34, Fact.eq ?rax35, Fact.eq undef, Fact.eq undef, Fact.eq undef, Fact.eq ?rax39, Fact.eq ?rax40, Fact.eq undef, Fact.eq undef, Fact.eq undef, Fact.eq ?rax44] ?raA (by kernel_rfl) (by kernel_rfl) ?rahA ?raho ?rahend
  case rahA =>
    intro vv
    simp only [putRules, Nat.reduceAdd]
    rfl
  case raho =>
    refine ⟨?_, ?_, ?_, ?_, ?_, ?_, ?_, ?_, ?_, ?_, ?_, ?_, ?_, ?_, ?_, ?_, ?_, ?_, ?_, ?_, ?_, ?_, ?_, ?_, ?_, ?_, ?_, ?_, ?_, ?_, ?_, ?_, ?_, ?_, ?_, ?_, ?_, ?_, ?_, ?_, ?_, ?_, ?_, ?_, ?_, trivial⟩
    · intro vv W K hB hd HK
      simp only [confRules] at HK
      clear hd
      have hT := (hB.block (w.heap.size + 1) hz0).trans HG.out
      go_wp2_with (refine wpList_row_on (by rfl) 23 _ rfl (w.heap.size + 1) rfl 23 _ _ _ hT Try.underlying23 rfl HI.out ?_)
      refine HK.out _ _ (Below.refl _ _) ?_
      rfl
    · intro vv W K hB hd HK
      simp only [confRules] at HK
      clear hd
      go_wp2
      refine HK.out _ _ (Below.refl _ _) ?_
      rfl
    · intro vv W K hB hd HK
      simp only [confRules] at hd HK
      have h1 := hd
      clear hd
      simp only [h1] at HK ⊢
      clear h1
      have hT := (hB.block w.heap.size (by omega)).trans HE.out
      obtain ⟨k1, k2, k3, k4, k5⟩ := HQ.out _ hT
      clear hT
      go_wp2
      refine HK.out _ _ (Below.refl _ _) ?_
      rfl
    · intro vv W K hB hd HK
      simp only [confRules] at HK
      clear hd
      go_wp2
      refine HK.out _ _ (Below.refl _ _) ?_
      rfl
    · intro vv W K hB hd HK
      simp only [confRules] at hd HK
      have h3 := hd
      clear hd
      simp only [h3] at HK ⊢
      clear h3
      have hT := (hB.block w.heap.size (by omega)).trans HE.out
      obtain ⟨k1, k2, k3, k4, k5⟩ := HQ.out _ hT
      clear hT
      go_wp2
      refine HK.out _ _ (Below.refl _ _) ?_
      rfl
    · intro vv W K hB hd HK
      simp only [confRules] at hd HK
      obtain ⟨h0, h2, h4⟩ := hd
      simp only [h0, h2, h4] at HK ⊢
      clear h0 h2 h4
      go_wp2_with (refine (H1.out _).mono ?_; rintro e w9 ⟨rfl, hB9⟩)
      refine HK.out _ _ hB9 ?_
      rfl
    · intro vv W K hB hd HK
      simp only [confRules] at hd HK
      obtain ⟨h5, _⟩ := hd
      simp only [h5] at HK ⊢
      clear h5
      go_wp2
      refine HK.out _ _ (Below.refl _ _) ?_
      rfl
    · intro vv W K hB hd HK
      simp only [confRules] at hd HK
      have h6 := hd
      clear hd
      simp only [h6] at HK ⊢
      clear h6
      refine wpList_guard_yes (by rfl) ?_
      have hT := (hB.block (w.heap.size + 1) hz0).trans HG.out
      go_wp2_with (refine wpList_row_on (by rfl) 23 _ rfl (w.heap.size + 1) rfl 23 _ _ _ hT Try.underlying23 rfl HI.out ?_)
      refine HK.out _ _ (Below.refl _ _) ?_
      rfl
    · intro vv W K hB hd HK
      simp only [confRules] at hd HK
      have h6 := hd
      clear hd
      simp only [h6] at HK ⊢
      clear h6
      refine wpList_guard_yes (by rfl) ?_
      go_wp2
      refine HK.out _ _ (Below.refl _ _) ?_
      rfl
    · intro vv W K hB hd HK
      simp only [confRules] at hd HK
      obtain ⟨h8, h6⟩ := hd
      simp only [h8, h6] at HK ⊢
      clear h8 h6
      refine wpList_guard_yes (by rfl) ?_
      have hT := (hB.block w.heap.size (by omega)).trans HE.out
      obtain ⟨k1, k2, k3, k4, k5⟩ := HQ.out _ hT
      clear hT
      go_wp2
      refine HK.out _ _ (Below.refl _ _) ?_
      rfl
    · intro vv W K hB hd HK
      simp only [confRules] at hd HK
      have h6 := hd
      clear hd
      simp only [h6] at HK ⊢
      clear h6
      refine wpList_guard_yes (by rfl) ?_
      go_wp2
      refine HK.out _ _ (Below.refl _ _) ?_
      rfl
    · intro vv W K hB hd HK
      simp only [confRules] at hd HK
      obtain ⟨h10, h6⟩ := hd
      simp only [h10, h6] at HK ⊢
      clear h10 h6
      refine wpList_guard_yes (by rfl) ?_
      have hT := (hB.block w.heap.size (by omega)).trans HE.out
      obtain ⟨k1, k2, k3, k4, k5⟩ := HQ.out _ hT
      clear hT
      go_wp2
      refine HK.out _ _ (Below.refl _ _) ?_
      rfl
    · intro vv W K hB hd HK
      simp only [confRules] at hd HK
      obtain ⟨h7, h9, h11, h6, _⟩ := hd
      simp only [h7, h9, h11, h6] at HK ⊢
      clear h7 h9 h11 h6
      refine wpList_guard_yes (by rfl) ?_
      go_wp2_with (refine (H2.out _).mono ?_; rintro e w9 ⟨rfl, hB9⟩)
      refine HK.out _ _ hB9 ?_
      rfl
    · intro vv W K hB hd HK
      simp only [confRules] at hd HK
      obtain ⟨h6, h12⟩ := hd
      simp only [h6, h12] at HK ⊢
      clear h6 h12
      go_wp2
      refine HK.out _ _ (Below.refl _ _) ?_
      rfl
    · intro vv W K hB hd HK
      simp only [confRules] at hd HK
      obtain ⟨h13, h12⟩ := hd
      simp only [h13, h12] at HK ⊢
      clear h13 h12
      go_wp2
      refine HK.out _ _ (Below.refl _ _) ?_
      rfl
    · intro vv W K hB hd HK
      simp only [confRules] at hd HK
      have h14 := hd
      clear hd
      simp only [h14] at HK ⊢
      clear h14
      refine wpList_guard_no (by rfl) ?_
      refine HK.out _ _ (Below.refl _ _) ?_
      rfl
    · intro vv W K hB hd HK
      simp only [confRules] at hd HK
      have h14 := hd
      clear hd
      simp only [h14] at HK ⊢
      clear h14
      refine wpList_guard_no (by rfl) ?_
      refine HK.out _ _ (Below.refl _ _) ?_
      rfl
    · intro vv W K hB hd HK
      simp only [confRules] at hd HK
      obtain ⟨h16, h14⟩ := hd
      simp only [h16, h14] at HK ⊢
      clear h16 h14
      refine wpList_guard_no (by rfl) ?_
      refine HK.out _ _ (Below.refl _ _) ?_
      rfl
    · intro vv W K hB hd HK
      simp only [confRules] at hd HK
      obtain ⟨h15, h17, h14, _⟩ := hd
      simp only [h15, h17, h14] at HK ⊢
      clear h15 h17 h14
      refine wpList_guard_no (by rfl) ?_
      refine HK.out _ _ (Below.refl _ _) ?_
      rfl
    · intro vv W K hB hd HK
      simp only [confRules] at hd HK
      have h14 := hd
      clear hd
      simp only [h14] at HK ⊢
      clear h14
      refine wpList_guard_no (by rfl) ?_
      refine HK.out _ _ (Below.refl _ _) ?_
      rfl
    · intro vv W K hB hd HK
      simp only [confRules] at hd HK
      have h14 := hd
      clear hd
      simp only [h14] at HK ⊢
      clear h14
      refine wpList_guard_no (by rfl) ?_
      refine HK.out _ _ (Below.refl _ _) ?_
      rfl
    · intro vv W K hB hd HK
      simp only [confRules] at hd HK
      obtain ⟨h20, h14⟩ := hd
      simp only [h20, h14] at HK ⊢
      clear h20 h14
      refine wpList_guard_no (by rfl) ?_
      refine HK.out _ _ (Below.refl _ _) ?_
      rfl
    · intro vv W K hB hd HK
      simp only [confRules] at hd HK
      obtain ⟨h19, h21, h18, h14⟩ := hd
      simp only [h19, h21, h18, h14] at HK ⊢
      clear h19 h21 h18 h14
      refine wpList_guard_no (by rfl) ?_
      refine HK.out _ _ (Below.refl _ _) ?_
      rfl
    · intro vv W K hB hd HK
      simp only [confRules] at hd HK
      obtain ⟨h18, h22, h14⟩ := hd
      simp only [h18, h22, h14] at HK ⊢
      clear h18 h22 h14
      refine wpList_guard_no (by rfl) ?_
      refine HK.out _ _ (Below.refl _ _) ?_
      rfl
    · intro vv W K hB hd HK
      simp only [confRules] at hd HK
      obtain ⟨h14, h23⟩ := hd
      simp only [h14, h23] at HK ⊢
      clear h14 h23
      go_wp2
      refine HK.out _ _ (Below.refl _ _) ?_
      rfl
    · intro vv W K hB hd HK
      simp only [confRules] at hd HK
      obtain ⟨h24, h22⟩ := hd
      simp only [h24, h22] at HK ⊢
      clear h24 h22
      go_wp2
      refine HK.out _ _ (Below.refl _ _) ?_
      rfl
    · intro vv W K hB hd HK
      simp only [confRules] at hd HK
      have h25 := hd
      clear hd
      simp only [h25] at HK ⊢
      clear h25
      refine wpList_guard_no (by rfl) ?_
      refine HK.out _ _ (Below.refl _ _) ?_
      rfl
    · intro vv W K hB hd HK
      simp only [confRules] at hd HK
      obtain ⟨h26, h25⟩ := hd
      simp only [h26, h25] at HK ⊢
      clear h26 h25
      refine wpList_guard_no (by rfl) ?_
      refine HK.out _ _ (Below.refl _ _) ?_
      rfl
    · intro vv W K hB hd HK
      simp only [confRules] at hd HK
      obtain ⟨h27, h25⟩ := hd
      simp only [h27, h25] at HK ⊢
      clear h27 h25
      refine wpList_guard_no (by rfl) ?_
      refine HK.out _ _ (Below.refl _ _) ?_
      rfl
    · intro vv W K hB hd HK
      simp only [confRules] at hd HK
      obtain ⟨h25, h28⟩ := hd
      simp only [h25, h28] at HK ⊢
      clear h25 h28
      go_wp2
      refine HK.out _ _ (Below.refl _ _) ?_
      rfl
    · intro vv W K hB hd HK
      simp only [confRules] at hd HK
      obtain ⟨h29, h25⟩ := hd
      simp only [h29, h25] at HK ⊢
      clear h29 h25
      go_wp2
      refine HK.out _ _ (Below.refl _ _) ?_
      rfl
    · intro vv W K hB hd HK
      simp only [confRules] at hd HK
      have h30 := hd
      clear hd
      simp only [h30] at HK ⊢
      clear h30
      refine wpList_guard_no (by rfl) ?_
      refine HK.out _ _ (Below.refl _ _) ?_
      rfl
    · intro vv W K hB hd HK
      simp only [confRules] at hd HK
      obtain ⟨h31, h30⟩ := hd
      simp only [h31, h30] at HK ⊢
      clear h31 h30
      refine wpList_guard_no (by rfl) ?_
      refine HK.out _ _ (Below.refl _ _) ?_
      rfl
    · intro vv W K hB hd HK
      simp only [confRules] at hd HK
      obtain ⟨h32, h30⟩ := hd
      simp only [h32, h30] at HK ⊢
      clear h32 h30
      refine wpList_guard_no (by rfl) ?_
      refine HK.out _ _ (Below.refl _ _) ?_
      rfl
    · intro vv W K hB hd HK
      simp only [confRules] at hd HK
      obtain ⟨h30, h33⟩ := hd
      simp only [h30, h33] at HK ⊢
      clear h30 h33
      go_wp2
      refine HK.out _ _ (Below.refl _ _) ?_
      rfl
    · intro vv W K hB hd HK
      simp only [confRules] at hd HK
      obtain ⟨h34, h30⟩ := hd
      simp only [h34, h30] at HK ⊢
      clear h34 h30
      go_wp2
      refine HK.out _ _ (Below.refl _ _) ?_
      rfl
    · intro vv W K hB hd HK
      simp only [confRules] at hd HK
      have h35 := hd
      clear hd
      simp only [h35] at HK ⊢
      clear h35
      refine wpList_guard_no (by rfl) ?_
      refine HK.out _ _ (Below.refl _ _) ?_
      rfl
    · intro vv W K hB hd HK
      simp only [confRules] at hd HK
      obtain ⟨h36, h35⟩ := hd
      simp only [h36, h35] at HK ⊢
      clear h36 h35
      refine wpList_guard_no (by rfl) ?_
      refine HK.out _ _ (Below.refl _ _) ?_
      rfl
    · intro vv W K hB hd HK
      simp only [confRules] at hd HK
      obtain ⟨h37, h35⟩ := hd
      simp only [h37, h35] at HK ⊢
      clear h37 h35
      refine wpList_guard_no (by rfl) ?_
      refine HK.out _ _ (Below.refl _ _) ?_
      rfl
    · intro vv W K hB hd HK
      simp only [confRules] at hd HK
      obtain ⟨h35, h38⟩ := hd
      simp only [h35, h38] at HK ⊢
      clear h35 h38
      go_wp2
      refine HK.out _ _ (Below.refl _ _) ?_
      rfl
    · intro vv W K hB hd HK
      simp only [confRules] at hd HK
      obtain ⟨h39, h35⟩ := hd
      simp only [h39, h35] at HK ⊢
      clear h39 h35
      go_wp2
      refine HK.out _ _ (Below.refl _ _) ?_
      rfl
    · intro vv W K hB hd HK
      simp only [confRules] at hd HK
      have h40 := hd
      clear hd
      simp only [h40] at HK ⊢
      clear h40
      refine wpList_guard_no (by rfl) ?_
      refine HK.out _ _ (Below.refl _ _) ?_
      rfl
    · intro vv W K hB hd HK
      simp only [confRules] at hd HK
      obtain ⟨h41, h40⟩ := hd
      simp only [h41, h40] at HK ⊢
      clear h41 h40
      refine wpList_guard_no (by rfl) ?_
      refine HK.out _ _ (Below.refl _ _) ?_
      rfl
    · intro vv W K hB hd HK
      simp only [confRules] at hd HK
      obtain ⟨h42, h40⟩ := hd
      simp only [h42, h40] at HK ⊢
      clear h42 h40
      refine wpList_guard_no (by rfl) ?_
      refine HK.out _ _ (Below.refl _ _) ?_
      rfl
    · intro vv W K hB hd HK
      simp only [confRules] at hd HK
      obtain ⟨h40, h43⟩ := hd
      simp only [h40, h43] at HK ⊢
      clear h40 h43
      go_wp2
      refine HK.out _ _ (Below.refl _ _) ?_
      rfl
  case rahend =>
    intro vv W hB hf
    have e44 := hf 44 (by decide)
    simp only [endRules] at e44
    simp only [e44, dropRules]
    clear hf e44
    go_wp2
    go_ret
    exact ⟨rfl, hB0.trans (hB.mono (by omega))⟩
set_option maxRecDepth 100000 in
set_option maxHeartbeats 2000000 in
theorem bright_3 (C D : Array Value) (z m o q s d1 d2 : Int) (w : World)
    (hC : ∀ (W : World), W.heap[w.heap.size]? = some (.cells C 41 (0, 0)) → W.cell? ⟨w.heap.size, 0, none⟩ = some (.int .i64 1) ∧ W.cell? ⟨w.heap.size, 1, none⟩ = some (.int .i64 z) ∧ W.cell? ⟨w.heap.size, 2, none⟩ = some (.int .i64 m) ∧ W.cell? ⟨w.heap.size, 3, none⟩ = some (.int .i64 o) ∧ W.cell? ⟨w.heap.size, 4, none⟩ = some (.int .i64 q) ∧ W.cell? ⟨w.heap.size, 5, none⟩ = some (.int .i64 s))
    (hI : (Try.prog.info? 23).map (·.size) = some D.size)
    (h1 : ∀ W, Calls Try.prog 21 #[.agg D, .int .i64 z, .int .i64 o] W fun e w' => e = .returned (.bool true) ∧ Below W.heap.size W w')
    (h2 : ∀ W, Calls Try.prog 21 #[.agg D, .int .i64 m, .int .i64 o] W fun e w' => e = .returned (.bool true) ∧ Below W.heap.size W w')
    (hd1 : ∀ W, Calls Try.prog 23 #[.agg D, .int .i64 z] W fun e w' => e = .returned (.int .i64 d1) ∧ Below W.heap.size W w') (hd2 : ∀ W, Calls Try.prog 23 #[.agg D, .int .i64 m] W fun e w' => e = .returned (.int .i64 d1) ∧ Below W.heap.size W w') :
    Calls Try.prog 33 #[.agg C, .agg D] w fun e w' => e = .returned (.bool false) ∧ Below w.heap.size w w' := by
  obtain ⟨W0, hW0, hB0, hE, hG, hz0⟩ := bright_setup C D w
  obtain ⟨k0, -⟩ := hC _ hE
  have HW0 := Lib.hid hW0
  have HE := Lib.hid hE
  have HG := Lib.hid hG
  have HI := Lib.hid hI
  have HQ := Lib.hid (fun W hh => (hC W hh).2)
  have H1 := Lib.hid h1
  have H2 := Lib.hid h2
  have D1 := Lib.hid hd1
  have D2 := Lib.hid hd2
  clear hW0 hE hG hI hC h1 h2 hd1 hd2
  go_enter Try.func33, Try.ntmps33
  go_upto_region 1 with (fail)
  rw [HW0.out]
  go_wp2
  refine wp_region_conf2 45 [Fact.eq ?rax0, Fact.eq ?rax1, Fact.eq ?rax2, Fact.eq ?rax3, Fact.eq ?rax4, Fact.eq ?rax5, Fact.eq ?rax6, Fact.eq ?rax7, Fact.eq ?rax8, Fact.eq ?rax9, Fact.eq ?rax10, Fact.eq ?rax11, Fact.eq ?rax12, Fact.eq ?rax13, Fact.eq ?rax14, Fact.eq ?rax15, Fact.eq ?rax16, Fact.eq ?rax17, Fact.eq ?rax18, Fact.eq ?rax19, Fact.eq ?rax20, Fact.eq ?rax21, Fact.eq ?rax22, Fact.eq ?rax23, Fact.eq ?rax24, Fact.eq ?rax25, Fact.eq undef, Fact.eq undef, Fact.eq undef, Fact.eq ?rax29, Fact.eq ?rax30, Fact.eq undef, Fact.eq undef, Fact.eq undef, Fact.eq ?rax34, Fact.eq ?rax35, Fact.eq undef, Fact.eq undef, Fact.eq undef, Fact.eq ?rax39, Fact.eq ?rax40, Fact.eq undef, Fact.eq undef, Fact.eq undef, Fact.eq ?rax44] ?raA (by kernel_rfl) (by kernel_rfl) ?rahA ?raho ?rahend
  case rahA =>
    intro vv
    simp only [putRules, Nat.reduceAdd]
    rfl
  case raho =>
    refine ⟨?_, ?_, ?_, ?_, ?_, ?_, ?_, ?_, ?_, ?_, ?_, ?_, ?_, ?_, ?_, ?_, ?_, ?_, ?_, ?_, ?_, ?_, ?_, ?_, ?_, ?_, ?_, ?_, ?_, ?_, ?_, ?_, ?_, ?_, ?_, ?_, ?_, ?_, ?_, ?_, ?_, ?_, ?_, ?_, ?_, trivial⟩
    · intro vv W K hB hd HK
      simp only [confRules] at HK
      clear hd
      have hT := (hB.block (w.heap.size + 1) hz0).trans HG.out
      go_wp2_with (refine wpList_row_on (by rfl) 23 _ rfl (w.heap.size + 1) rfl 23 _ _ _ hT Try.underlying23 rfl HI.out ?_)
      refine HK.out _ _ (Below.refl _ _) ?_
      rfl
    · intro vv W K hB hd HK
      simp only [confRules] at HK
      clear hd
      go_wp2
      refine HK.out _ _ (Below.refl _ _) ?_
      rfl
    · intro vv W K hB hd HK
      simp only [confRules] at hd HK
      have h1 := hd
      clear hd
      simp only [h1] at HK ⊢
      clear h1
      have hT := (hB.block w.heap.size (by omega)).trans HE.out
      obtain ⟨k1, k2, k3, k4, k5⟩ := HQ.out _ hT
      clear hT
      go_wp2
      refine HK.out _ _ (Below.refl _ _) ?_
      rfl
    · intro vv W K hB hd HK
      simp only [confRules] at HK
      clear hd
      go_wp2
      refine HK.out _ _ (Below.refl _ _) ?_
      rfl
    · intro vv W K hB hd HK
      simp only [confRules] at hd HK
      have h3 := hd
      clear hd
      simp only [h3] at HK ⊢
      clear h3
      have hT := (hB.block w.heap.size (by omega)).trans HE.out
      obtain ⟨k1, k2, k3, k4, k5⟩ := HQ.out _ hT
      clear hT
      go_wp2
      refine HK.out _ _ (Below.refl _ _) ?_
      rfl
    · intro vv W K hB hd HK
      simp only [confRules] at hd HK
      obtain ⟨h0, h2, h4⟩ := hd
      simp only [h0, h2, h4] at HK ⊢
      clear h0 h2 h4
      go_wp2_with (refine (H1.out _).mono ?_; rintro e w9 ⟨rfl, hB9⟩)
      refine HK.out _ _ hB9 ?_
      rfl
    · intro vv W K hB hd HK
      simp only [confRules] at hd HK
      obtain ⟨h5, _⟩ := hd
      simp only [h5] at HK ⊢
      clear h5
      go_wp2
      refine HK.out _ _ (Below.refl _ _) ?_
      rfl
    · intro vv W K hB hd HK
      simp only [confRules] at hd HK
      have h6 := hd
      clear hd
      simp only [h6] at HK ⊢
      clear h6
      refine wpList_guard_yes (by rfl) ?_
      have hT := (hB.block (w.heap.size + 1) hz0).trans HG.out
      go_wp2_with (refine wpList_row_on (by rfl) 23 _ rfl (w.heap.size + 1) rfl 23 _ _ _ hT Try.underlying23 rfl HI.out ?_)
      refine HK.out _ _ (Below.refl _ _) ?_
      rfl
    · intro vv W K hB hd HK
      simp only [confRules] at hd HK
      have h6 := hd
      clear hd
      simp only [h6] at HK ⊢
      clear h6
      refine wpList_guard_yes (by rfl) ?_
      go_wp2
      refine HK.out _ _ (Below.refl _ _) ?_
      rfl
    · intro vv W K hB hd HK
      simp only [confRules] at hd HK
      obtain ⟨h8, h6⟩ := hd
      simp only [h8, h6] at HK ⊢
      clear h8 h6
      refine wpList_guard_yes (by rfl) ?_
      have hT := (hB.block w.heap.size (by omega)).trans HE.out
      obtain ⟨k1, k2, k3, k4, k5⟩ := HQ.out _ hT
      clear hT
      go_wp2
      refine HK.out _ _ (Below.refl _ _) ?_
      rfl
    · intro vv W K hB hd HK
      simp only [confRules] at hd HK
      have h6 := hd
      clear hd
      simp only [h6] at HK ⊢
      clear h6
      refine wpList_guard_yes (by rfl) ?_
      go_wp2
      refine HK.out _ _ (Below.refl _ _) ?_
      rfl
    · intro vv W K hB hd HK
      simp only [confRules] at hd HK
      obtain ⟨h10, h6⟩ := hd
      simp only [h10, h6] at HK ⊢
      clear h10 h6
      refine wpList_guard_yes (by rfl) ?_
      have hT := (hB.block w.heap.size (by omega)).trans HE.out
      obtain ⟨k1, k2, k3, k4, k5⟩ := HQ.out _ hT
      clear hT
      go_wp2
      refine HK.out _ _ (Below.refl _ _) ?_
      rfl
    · intro vv W K hB hd HK
      simp only [confRules] at hd HK
      obtain ⟨h7, h9, h11, h6, _⟩ := hd
      simp only [h7, h9, h11, h6] at HK ⊢
      clear h7 h9 h11 h6
      refine wpList_guard_yes (by rfl) ?_
      go_wp2_with (refine (H2.out _).mono ?_; rintro e w9 ⟨rfl, hB9⟩)
      refine HK.out _ _ hB9 ?_
      rfl
    · intro vv W K hB hd HK
      simp only [confRules] at hd HK
      obtain ⟨h6, h12⟩ := hd
      simp only [h6, h12] at HK ⊢
      clear h6 h12
      go_wp2
      refine HK.out _ _ (Below.refl _ _) ?_
      rfl
    · intro vv W K hB hd HK
      simp only [confRules] at hd HK
      obtain ⟨h13, h12⟩ := hd
      simp only [h13, h12] at HK ⊢
      clear h13 h12
      go_wp2
      refine HK.out _ _ (Below.refl _ _) ?_
      rfl
    · intro vv W K hB hd HK
      simp only [confRules] at hd HK
      have h14 := hd
      clear hd
      simp only [h14] at HK ⊢
      clear h14
      refine wpList_guard_yes (by rfl) ?_
      have hT := (hB.block (w.heap.size + 1) hz0).trans HG.out
      go_wp2_with (refine wpList_row_on (by rfl) 23 _ rfl (w.heap.size + 1) rfl 23 _ _ _ hT Try.underlying23 rfl HI.out ?_)
      refine HK.out _ _ (Below.refl _ _) ?_
      rfl
    · intro vv W K hB hd HK
      simp only [confRules] at hd HK
      have h14 := hd
      clear hd
      simp only [h14] at HK ⊢
      clear h14
      refine wpList_guard_yes (by rfl) ?_
      go_wp2
      refine HK.out _ _ (Below.refl _ _) ?_
      rfl
    · intro vv W K hB hd HK
      simp only [confRules] at hd HK
      obtain ⟨h16, h14⟩ := hd
      simp only [h16, h14] at HK ⊢
      clear h16 h14
      refine wpList_guard_yes (by rfl) ?_
      have hT := (hB.block w.heap.size (by omega)).trans HE.out
      obtain ⟨k1, k2, k3, k4, k5⟩ := HQ.out _ hT
      clear hT
      go_wp2
      refine HK.out _ _ (Below.refl _ _) ?_
      rfl
    · intro vv W K hB hd HK
      simp only [confRules] at hd HK
      obtain ⟨h15, h17, h14, _⟩ := hd
      simp only [h15, h17, h14] at HK ⊢
      clear h15 h17 h14
      refine wpList_guard_yes (by rfl) ?_
      go_wp2_with (refine (D1.out _).mono ?_; rintro e w9 ⟨rfl, hB9⟩)
      refine HK.out _ _ hB9 ?_
      rfl
    · intro vv W K hB hd HK
      simp only [confRules] at hd HK
      have h14 := hd
      clear hd
      simp only [h14] at HK ⊢
      clear h14
      refine wpList_guard_yes (by rfl) ?_
      have hT := (hB.block (w.heap.size + 1) hz0).trans HG.out
      go_wp2_with (refine wpList_row_on (by rfl) 23 _ rfl (w.heap.size + 1) rfl 23 _ _ _ hT Try.underlying23 rfl HI.out ?_)
      refine HK.out _ _ (Below.refl _ _) ?_
      rfl
    · intro vv W K hB hd HK
      simp only [confRules] at hd HK
      have h14 := hd
      clear hd
      simp only [h14] at HK ⊢
      clear h14
      refine wpList_guard_yes (by rfl) ?_
      go_wp2
      refine HK.out _ _ (Below.refl _ _) ?_
      rfl
    · intro vv W K hB hd HK
      simp only [confRules] at hd HK
      obtain ⟨h20, h14⟩ := hd
      simp only [h20, h14] at HK ⊢
      clear h20 h14
      refine wpList_guard_yes (by rfl) ?_
      have hT := (hB.block w.heap.size (by omega)).trans HE.out
      obtain ⟨k1, k2, k3, k4, k5⟩ := HQ.out _ hT
      clear hT
      go_wp2
      refine HK.out _ _ (Below.refl _ _) ?_
      rfl
    · intro vv W K hB hd HK
      simp only [confRules] at hd HK
      obtain ⟨h19, h21, h18, h14⟩ := hd
      simp only [h19, h21, h18, h14] at HK ⊢
      clear h19 h21 h18 h14
      refine wpList_guard_yes (by rfl) ?_
      go_wp2_with (refine (D2.out _).mono ?_; rintro e w9 ⟨rfl, hB9⟩)
      refine HK.out _ _ hB9 ?_
      rfl
    · intro vv W K hB hd HK
      simp only [confRules] at hd HK
      obtain ⟨h18, h22, h14⟩ := hd
      simp only [h18, h22, h14] at HK ⊢
      clear h18 h22 h14
      refine wpList_guard_yes (by rfl) ?_
      go_wp2
      refine HK.out _ _ (Below.refl _ _) ?_
      rfl
    · intro vv W K hB hd HK
      simp only [confRules] at hd HK
      obtain ⟨h14, h23⟩ := hd
      simp only [h14, h23] at HK ⊢
      clear h14 h23
      go_wp2
      refine HK.out _ _ (Below.refl _ _) ?_
      rfl
    · intro vv W K hB hd HK
      simp only [confRules] at hd HK
      obtain ⟨h24, h22⟩ := hd
      simp only [h24, h22] at HK ⊢
      clear h24 h22
      go_wp2
      refine HK.out _ _ (Below.refl _ _) ?_
      rfl
    · intro vv W K hB hd HK
      simp only [confRules] at hd HK
      have h25 := hd
      clear hd
      simp only [h25] at HK ⊢
      clear h25
      refine wpList_guard_no (by rfl) ?_
      refine HK.out _ _ (Below.refl _ _) ?_
      rfl
    · intro vv W K hB hd HK
      simp only [confRules] at hd HK
      obtain ⟨h26, h25⟩ := hd
      simp only [h26, h25] at HK ⊢
      clear h26 h25
      refine wpList_guard_no (by rfl) ?_
      refine HK.out _ _ (Below.refl _ _) ?_
      rfl
    · intro vv W K hB hd HK
      simp only [confRules] at hd HK
      obtain ⟨h27, h25⟩ := hd
      simp only [h27, h25] at HK ⊢
      clear h27 h25
      refine wpList_guard_no (by rfl) ?_
      refine HK.out _ _ (Below.refl _ _) ?_
      rfl
    · intro vv W K hB hd HK
      simp only [confRules] at hd HK
      obtain ⟨h25, h28⟩ := hd
      simp only [h25, h28] at HK ⊢
      clear h25 h28
      go_wp2
      refine HK.out _ _ (Below.refl _ _) ?_
      rfl
    · intro vv W K hB hd HK
      simp only [confRules] at hd HK
      obtain ⟨h29, h25⟩ := hd
      simp only [h29, h25] at HK ⊢
      clear h29 h25
      go_wp2
      refine HK.out _ _ (Below.refl _ _) ?_
      rfl
    · intro vv W K hB hd HK
      simp only [confRules] at hd HK
      have h30 := hd
      clear hd
      simp only [h30] at HK ⊢
      clear h30
      refine wpList_guard_no (by rfl) ?_
      refine HK.out _ _ (Below.refl _ _) ?_
      rfl
    · intro vv W K hB hd HK
      simp only [confRules] at hd HK
      obtain ⟨h31, h30⟩ := hd
      simp only [h31, h30] at HK ⊢
      clear h31 h30
      refine wpList_guard_no (by rfl) ?_
      refine HK.out _ _ (Below.refl _ _) ?_
      rfl
    · intro vv W K hB hd HK
      simp only [confRules] at hd HK
      obtain ⟨h32, h30⟩ := hd
      simp only [h32, h30] at HK ⊢
      clear h32 h30
      refine wpList_guard_no (by rfl) ?_
      refine HK.out _ _ (Below.refl _ _) ?_
      rfl
    · intro vv W K hB hd HK
      simp only [confRules] at hd HK
      obtain ⟨h30, h33⟩ := hd
      simp only [h30, h33] at HK ⊢
      clear h30 h33
      go_wp2
      refine HK.out _ _ (Below.refl _ _) ?_
      rfl
    · intro vv W K hB hd HK
      simp only [confRules] at hd HK
      obtain ⟨h34, h30⟩ := hd
      simp only [h34, h30] at HK ⊢
      clear h34 h30
      go_wp2
      refine HK.out _ _ (Below.refl _ _) ?_
      rfl
    · intro vv W K hB hd HK
      simp only [confRules] at hd HK
      have h35 := hd
      clear hd
      simp only [h35] at HK ⊢
      clear h35
      refine wpList_guard_no (by rfl) ?_
      refine HK.out _ _ (Below.refl _ _) ?_
      rfl
    · intro vv W K hB hd HK
      simp only [confRules] at hd HK
      obtain ⟨h36, h35⟩ := hd
      simp only [h36, h35] at HK ⊢
      clear h36 h35
      refine wpList_guard_no (by rfl) ?_
      refine HK.out _ _ (Below.refl _ _) ?_
      rfl
    · intro vv W K hB hd HK
      simp only [confRules] at hd HK
      obtain ⟨h37, h35⟩ := hd
      simp only [h37, h35] at HK ⊢
      clear h37 h35
      refine wpList_guard_no (by rfl) ?_
      refine HK.out _ _ (Below.refl _ _) ?_
      rfl
    · intro vv W K hB hd HK
      simp only [confRules] at hd HK
      obtain ⟨h35, h38⟩ := hd
      simp only [h35, h38] at HK ⊢
      clear h35 h38
      go_wp2
      refine HK.out _ _ (Below.refl _ _) ?_
      rfl
    · intro vv W K hB hd HK
      simp only [confRules] at hd HK
      obtain ⟨h39, h35⟩ := hd
      simp only [h39, h35] at HK ⊢
      clear h39 h35
      go_wp2
      refine HK.out _ _ (Below.refl _ _) ?_
      rfl
    · intro vv W K hB hd HK
      simp only [confRules] at hd HK
      have h40 := hd
      clear hd
      simp only [h40] at HK ⊢
      clear h40
      refine wpList_guard_no (by rfl) ?_
      refine HK.out _ _ (Below.refl _ _) ?_
      rfl
    · intro vv W K hB hd HK
      simp only [confRules] at hd HK
      obtain ⟨h41, h40⟩ := hd
      simp only [h41, h40] at HK ⊢
      clear h41 h40
      refine wpList_guard_no (by rfl) ?_
      refine HK.out _ _ (Below.refl _ _) ?_
      rfl
    · intro vv W K hB hd HK
      simp only [confRules] at hd HK
      obtain ⟨h42, h40⟩ := hd
      simp only [h42, h40] at HK ⊢
      clear h42 h40
      refine wpList_guard_no (by rfl) ?_
      refine HK.out _ _ (Below.refl _ _) ?_
      rfl
    · intro vv W K hB hd HK
      simp only [confRules] at hd HK
      obtain ⟨h40, h43⟩ := hd
      simp only [h40, h43] at HK ⊢
      clear h40 h43
      go_wp2
      refine HK.out _ _ (Below.refl _ _) ?_
      rfl
  case rahend =>
    intro vv W hB hf
    have e44 := hf 44 (by decide)
    simp only [endRules] at e44
    simp only [e44, dropRules]
    clear hf e44
    go_wp2
    go_ret
    exact ⟨rfl, hB0.trans (hB.mono (by omega))⟩
set_option maxRecDepth 100000 in
set_option maxHeartbeats 2000000 in
theorem bright_4 (C D : Array Value) (z m o q s d1 d2 : Int) (w : World)
    (hC : ∀ (W : World), W.heap[w.heap.size]? = some (.cells C 41 (0, 0)) → W.cell? ⟨w.heap.size, 0, none⟩ = some (.int .i64 1) ∧ W.cell? ⟨w.heap.size, 1, none⟩ = some (.int .i64 z) ∧ W.cell? ⟨w.heap.size, 2, none⟩ = some (.int .i64 m) ∧ W.cell? ⟨w.heap.size, 3, none⟩ = some (.int .i64 o) ∧ W.cell? ⟨w.heap.size, 4, none⟩ = some (.int .i64 q) ∧ W.cell? ⟨w.heap.size, 5, none⟩ = some (.int .i64 s))
    (hI : (Try.prog.info? 23).map (·.size) = some D.size)
    (h1 : ∀ W, Calls Try.prog 21 #[.agg D, .int .i64 z, .int .i64 o] W fun e w' => e = .returned (.bool true) ∧ Below W.heap.size W w')
    (h2 : ∀ W, Calls Try.prog 21 #[.agg D, .int .i64 m, .int .i64 o] W fun e w' => e = .returned (.bool true) ∧ Below W.heap.size W w')
    (hd1 : ∀ W, Calls Try.prog 23 #[.agg D, .int .i64 z] W fun e w' => e = .returned (.int .i64 d1) ∧ Below W.heap.size W w') (hd2 : ∀ W, Calls Try.prog 23 #[.agg D, .int .i64 m] W fun e w' => e = .returned (.int .i64 d2) ∧ Below W.heap.size W w') (t3 : (d1 == d2) = false)
    (t4 : decide (1 ≤ q) = false) :
    Calls Try.prog 33 #[.agg C, .agg D] w fun e w' => e = .returned (.bool false) ∧ Below w.heap.size w w' := by
  obtain ⟨W0, hW0, hB0, hE, hG, hz0⟩ := bright_setup C D w
  obtain ⟨k0, -⟩ := hC _ hE
  have HW0 := Lib.hid hW0
  have HE := Lib.hid hE
  have HG := Lib.hid hG
  have HI := Lib.hid hI
  have HQ := Lib.hid (fun W hh => (hC W hh).2)
  have H1 := Lib.hid h1
  have H2 := Lib.hid h2
  have D1 := Lib.hid hd1
  have D2 := Lib.hid hd2
  have T3 := Lib.hid t3
  have T4 := Lib.hid t4
  clear hW0 hE hG hI hC h1 h2 hd1 hd2 t3 t4
  go_enter Try.func33, Try.ntmps33
  go_upto_region 1 with (fail)
  rw [HW0.out]
  go_wp2
  refine wp_region_conf2 45 [Fact.eq ?rax0, Fact.eq ?rax1, Fact.eq ?rax2, Fact.eq ?rax3, Fact.eq ?rax4, Fact.eq ?rax5, Fact.eq ?rax6, Fact.eq ?rax7, Fact.eq ?rax8, Fact.eq ?rax9, Fact.eq ?rax10, Fact.eq ?rax11, Fact.eq ?rax12, Fact.eq ?rax13, Fact.eq ?rax14, Fact.eq ?rax15, Fact.eq ?rax16, Fact.eq ?rax17, Fact.eq ?rax18, Fact.eq ?rax19, Fact.eq ?rax20, Fact.eq ?rax21, Fact.eq ?rax22, Fact.eq (.bool true), Fact.eq ?rax24, Fact.eq ?rax25, Fact.eq ?rax26, Fact.eq ?rax27, Fact.eq (.bool false), Fact.eq ?rax29, Fact.eq ?rax30, Fact.eq undef, Fact.eq undef, Fact.eq undef, Fact.eq ?rax34, Fact.eq ?rax35, Fact.eq undef, Fact.eq undef, Fact.eq undef, Fact.eq ?rax39, Fact.eq ?rax40, Fact.eq undef, Fact.eq undef, Fact.eq undef, Fact.eq ?rax44] ?raA (by kernel_rfl) (by kernel_rfl) ?rahA ?raho ?rahend
  case rahA =>
    intro vv
    simp only [putRules, Nat.reduceAdd]
    rfl
  case raho =>
    refine ⟨?_, ?_, ?_, ?_, ?_, ?_, ?_, ?_, ?_, ?_, ?_, ?_, ?_, ?_, ?_, ?_, ?_, ?_, ?_, ?_, ?_, ?_, ?_, ?_, ?_, ?_, ?_, ?_, ?_, ?_, ?_, ?_, ?_, ?_, ?_, ?_, ?_, ?_, ?_, ?_, ?_, ?_, ?_, ?_, ?_, trivial⟩
    · intro vv W K hB hd HK
      simp only [confRules] at HK
      clear hd
      have hT := (hB.block (w.heap.size + 1) hz0).trans HG.out
      go_wp2_with (refine wpList_row_on (by rfl) 23 _ rfl (w.heap.size + 1) rfl 23 _ _ _ hT Try.underlying23 rfl HI.out ?_)
      refine HK.out _ _ (Below.refl _ _) ?_
      rfl
    · intro vv W K hB hd HK
      simp only [confRules] at HK
      clear hd
      go_wp2
      refine HK.out _ _ (Below.refl _ _) ?_
      rfl
    · intro vv W K hB hd HK
      simp only [confRules] at hd HK
      have h1 := hd
      clear hd
      simp only [h1] at HK ⊢
      clear h1
      have hT := (hB.block w.heap.size (by omega)).trans HE.out
      obtain ⟨k1, k2, k3, k4, k5⟩ := HQ.out _ hT
      clear hT
      go_wp2
      refine HK.out _ _ (Below.refl _ _) ?_
      rfl
    · intro vv W K hB hd HK
      simp only [confRules] at HK
      clear hd
      go_wp2
      refine HK.out _ _ (Below.refl _ _) ?_
      rfl
    · intro vv W K hB hd HK
      simp only [confRules] at hd HK
      have h3 := hd
      clear hd
      simp only [h3] at HK ⊢
      clear h3
      have hT := (hB.block w.heap.size (by omega)).trans HE.out
      obtain ⟨k1, k2, k3, k4, k5⟩ := HQ.out _ hT
      clear hT
      go_wp2
      refine HK.out _ _ (Below.refl _ _) ?_
      rfl
    · intro vv W K hB hd HK
      simp only [confRules] at hd HK
      obtain ⟨h0, h2, h4⟩ := hd
      simp only [h0, h2, h4] at HK ⊢
      clear h0 h2 h4
      go_wp2_with (refine (H1.out _).mono ?_; rintro e w9 ⟨rfl, hB9⟩)
      refine HK.out _ _ hB9 ?_
      rfl
    · intro vv W K hB hd HK
      simp only [confRules] at hd HK
      obtain ⟨h5, _⟩ := hd
      simp only [h5] at HK ⊢
      clear h5
      go_wp2
      refine HK.out _ _ (Below.refl _ _) ?_
      rfl
    · intro vv W K hB hd HK
      simp only [confRules] at hd HK
      have h6 := hd
      clear hd
      simp only [h6] at HK ⊢
      clear h6
      refine wpList_guard_yes (by rfl) ?_
      have hT := (hB.block (w.heap.size + 1) hz0).trans HG.out
      go_wp2_with (refine wpList_row_on (by rfl) 23 _ rfl (w.heap.size + 1) rfl 23 _ _ _ hT Try.underlying23 rfl HI.out ?_)
      refine HK.out _ _ (Below.refl _ _) ?_
      rfl
    · intro vv W K hB hd HK
      simp only [confRules] at hd HK
      have h6 := hd
      clear hd
      simp only [h6] at HK ⊢
      clear h6
      refine wpList_guard_yes (by rfl) ?_
      go_wp2
      refine HK.out _ _ (Below.refl _ _) ?_
      rfl
    · intro vv W K hB hd HK
      simp only [confRules] at hd HK
      obtain ⟨h8, h6⟩ := hd
      simp only [h8, h6] at HK ⊢
      clear h8 h6
      refine wpList_guard_yes (by rfl) ?_
      have hT := (hB.block w.heap.size (by omega)).trans HE.out
      obtain ⟨k1, k2, k3, k4, k5⟩ := HQ.out _ hT
      clear hT
      go_wp2
      refine HK.out _ _ (Below.refl _ _) ?_
      rfl
    · intro vv W K hB hd HK
      simp only [confRules] at hd HK
      have h6 := hd
      clear hd
      simp only [h6] at HK ⊢
      clear h6
      refine wpList_guard_yes (by rfl) ?_
      go_wp2
      refine HK.out _ _ (Below.refl _ _) ?_
      rfl
    · intro vv W K hB hd HK
      simp only [confRules] at hd HK
      obtain ⟨h10, h6⟩ := hd
      simp only [h10, h6] at HK ⊢
      clear h10 h6
      refine wpList_guard_yes (by rfl) ?_
      have hT := (hB.block w.heap.size (by omega)).trans HE.out
      obtain ⟨k1, k2, k3, k4, k5⟩ := HQ.out _ hT
      clear hT
      go_wp2
      refine HK.out _ _ (Below.refl _ _) ?_
      rfl
    · intro vv W K hB hd HK
      simp only [confRules] at hd HK
      obtain ⟨h7, h9, h11, h6, _⟩ := hd
      simp only [h7, h9, h11, h6] at HK ⊢
      clear h7 h9 h11 h6
      refine wpList_guard_yes (by rfl) ?_
      go_wp2_with (refine (H2.out _).mono ?_; rintro e w9 ⟨rfl, hB9⟩)
      refine HK.out _ _ hB9 ?_
      rfl
    · intro vv W K hB hd HK
      simp only [confRules] at hd HK
      obtain ⟨h6, h12⟩ := hd
      simp only [h6, h12] at HK ⊢
      clear h6 h12
      go_wp2
      refine HK.out _ _ (Below.refl _ _) ?_
      rfl
    · intro vv W K hB hd HK
      simp only [confRules] at hd HK
      obtain ⟨h13, h12⟩ := hd
      simp only [h13, h12] at HK ⊢
      clear h13 h12
      go_wp2
      refine HK.out _ _ (Below.refl _ _) ?_
      rfl
    · intro vv W K hB hd HK
      simp only [confRules] at hd HK
      have h14 := hd
      clear hd
      simp only [h14] at HK ⊢
      clear h14
      refine wpList_guard_yes (by rfl) ?_
      have hT := (hB.block (w.heap.size + 1) hz0).trans HG.out
      go_wp2_with (refine wpList_row_on (by rfl) 23 _ rfl (w.heap.size + 1) rfl 23 _ _ _ hT Try.underlying23 rfl HI.out ?_)
      refine HK.out _ _ (Below.refl _ _) ?_
      rfl
    · intro vv W K hB hd HK
      simp only [confRules] at hd HK
      have h14 := hd
      clear hd
      simp only [h14] at HK ⊢
      clear h14
      refine wpList_guard_yes (by rfl) ?_
      go_wp2
      refine HK.out _ _ (Below.refl _ _) ?_
      rfl
    · intro vv W K hB hd HK
      simp only [confRules] at hd HK
      obtain ⟨h16, h14⟩ := hd
      simp only [h16, h14] at HK ⊢
      clear h16 h14
      refine wpList_guard_yes (by rfl) ?_
      have hT := (hB.block w.heap.size (by omega)).trans HE.out
      obtain ⟨k1, k2, k3, k4, k5⟩ := HQ.out _ hT
      clear hT
      go_wp2
      refine HK.out _ _ (Below.refl _ _) ?_
      rfl
    · intro vv W K hB hd HK
      simp only [confRules] at hd HK
      obtain ⟨h15, h17, h14, _⟩ := hd
      simp only [h15, h17, h14] at HK ⊢
      clear h15 h17 h14
      refine wpList_guard_yes (by rfl) ?_
      go_wp2_with (refine (D1.out _).mono ?_; rintro e w9 ⟨rfl, hB9⟩)
      refine HK.out _ _ hB9 ?_
      rfl
    · intro vv W K hB hd HK
      simp only [confRules] at hd HK
      have h14 := hd
      clear hd
      simp only [h14] at HK ⊢
      clear h14
      refine wpList_guard_yes (by rfl) ?_
      have hT := (hB.block (w.heap.size + 1) hz0).trans HG.out
      go_wp2_with (refine wpList_row_on (by rfl) 23 _ rfl (w.heap.size + 1) rfl 23 _ _ _ hT Try.underlying23 rfl HI.out ?_)
      refine HK.out _ _ (Below.refl _ _) ?_
      rfl
    · intro vv W K hB hd HK
      simp only [confRules] at hd HK
      have h14 := hd
      clear hd
      simp only [h14] at HK ⊢
      clear h14
      refine wpList_guard_yes (by rfl) ?_
      go_wp2
      refine HK.out _ _ (Below.refl _ _) ?_
      rfl
    · intro vv W K hB hd HK
      simp only [confRules] at hd HK
      obtain ⟨h20, h14⟩ := hd
      simp only [h20, h14] at HK ⊢
      clear h20 h14
      refine wpList_guard_yes (by rfl) ?_
      have hT := (hB.block w.heap.size (by omega)).trans HE.out
      obtain ⟨k1, k2, k3, k4, k5⟩ := HQ.out _ hT
      clear hT
      go_wp2
      refine HK.out _ _ (Below.refl _ _) ?_
      rfl
    · intro vv W K hB hd HK
      simp only [confRules] at hd HK
      obtain ⟨h19, h21, h18, h14⟩ := hd
      simp only [h19, h21, h18, h14] at HK ⊢
      clear h19 h21 h18 h14
      refine wpList_guard_yes (by rfl) ?_
      go_wp2_with (refine (D2.out _).mono ?_; rintro e w9 ⟨rfl, hB9⟩)
      refine HK.out _ _ hB9 ?_
      rfl
    · intro vv W K hB hd HK
      simp only [confRules] at hd HK
      obtain ⟨h18, h22, h14⟩ := hd
      simp only [h18, h22, h14] at HK ⊢
      clear h18 h22 h14
      refine wpList_guard_yes (by rfl) ?_
      have t := T3.out
      go_wp2
      refine HK.out _ _ (Below.refl _ _) ?_
      first | rfl | exact congrArg Value.bool t | exact congrArg Value.bool (show (!_) = _ by rw [t]; rfl)
    · intro vv W K hB hd HK
      simp only [confRules] at hd HK
      obtain ⟨h14, h23⟩ := hd
      simp only [h14, h23] at HK ⊢
      clear h14 h23
      go_wp2
      refine HK.out _ _ (Below.refl _ _) ?_
      rfl
    · intro vv W K hB hd HK
      simp only [confRules] at hd HK
      obtain ⟨h24, h22⟩ := hd
      simp only [h24, h22] at HK ⊢
      clear h24 h22
      go_wp2
      refine HK.out _ _ (Below.refl _ _) ?_
      rfl
    · intro vv W K hB hd HK
      simp only [confRules] at hd HK
      have h25 := hd
      clear hd
      simp only [h25] at HK ⊢
      clear h25
      refine wpList_guard_yes (by rfl) ?_
      go_wp2
      refine HK.out _ _ (Below.refl _ _) ?_
      rfl
    · intro vv W K hB hd HK
      simp only [confRules] at hd HK
      obtain ⟨h26, h25⟩ := hd
      simp only [h26, h25] at HK ⊢
      clear h26 h25
      refine wpList_guard_yes (by rfl) ?_
      have hT := (hB.block w.heap.size (by omega)).trans HE.out
      obtain ⟨k1, k2, k3, k4, k5⟩ := HQ.out _ hT
      clear hT
      go_wp2
      refine HK.out _ _ (Below.refl _ _) ?_
      rfl
    · intro vv W K hB hd HK
      simp only [confRules] at hd HK
      obtain ⟨h27, h25⟩ := hd
      simp only [h27, h25] at HK ⊢
      clear h27 h25
      refine wpList_guard_yes (by rfl) ?_
      have t := T4.out
      go_wp2
      refine HK.out _ _ (Below.refl _ _) ?_
      first | rfl | exact congrArg Value.bool t | exact congrArg Value.bool (show (!_) = _ by rw [t]; rfl)
    · intro vv W K hB hd HK
      simp only [confRules] at hd HK
      obtain ⟨h25, h28⟩ := hd
      simp only [h25, h28] at HK ⊢
      clear h25 h28
      go_wp2
      refine HK.out _ _ (Below.refl _ _) ?_
      rfl
    · intro vv W K hB hd HK
      simp only [confRules] at hd HK
      obtain ⟨h29, h25⟩ := hd
      simp only [h29, h25] at HK ⊢
      clear h29 h25
      go_wp2
      refine HK.out _ _ (Below.refl _ _) ?_
      rfl
    · intro vv W K hB hd HK
      simp only [confRules] at hd HK
      have h30 := hd
      clear hd
      simp only [h30] at HK ⊢
      clear h30
      refine wpList_guard_no (by rfl) ?_
      refine HK.out _ _ (Below.refl _ _) ?_
      rfl
    · intro vv W K hB hd HK
      simp only [confRules] at hd HK
      obtain ⟨h31, h30⟩ := hd
      simp only [h31, h30] at HK ⊢
      clear h31 h30
      refine wpList_guard_no (by rfl) ?_
      refine HK.out _ _ (Below.refl _ _) ?_
      rfl
    · intro vv W K hB hd HK
      simp only [confRules] at hd HK
      obtain ⟨h32, h30⟩ := hd
      simp only [h32, h30] at HK ⊢
      clear h32 h30
      refine wpList_guard_no (by rfl) ?_
      refine HK.out _ _ (Below.refl _ _) ?_
      rfl
    · intro vv W K hB hd HK
      simp only [confRules] at hd HK
      obtain ⟨h30, h33⟩ := hd
      simp only [h30, h33] at HK ⊢
      clear h30 h33
      go_wp2
      refine HK.out _ _ (Below.refl _ _) ?_
      rfl
    · intro vv W K hB hd HK
      simp only [confRules] at hd HK
      obtain ⟨h34, h30⟩ := hd
      simp only [h34, h30] at HK ⊢
      clear h34 h30
      go_wp2
      refine HK.out _ _ (Below.refl _ _) ?_
      rfl
    · intro vv W K hB hd HK
      simp only [confRules] at hd HK
      have h35 := hd
      clear hd
      simp only [h35] at HK ⊢
      clear h35
      refine wpList_guard_no (by rfl) ?_
      refine HK.out _ _ (Below.refl _ _) ?_
      rfl
    · intro vv W K hB hd HK
      simp only [confRules] at hd HK
      obtain ⟨h36, h35⟩ := hd
      simp only [h36, h35] at HK ⊢
      clear h36 h35
      refine wpList_guard_no (by rfl) ?_
      refine HK.out _ _ (Below.refl _ _) ?_
      rfl
    · intro vv W K hB hd HK
      simp only [confRules] at hd HK
      obtain ⟨h37, h35⟩ := hd
      simp only [h37, h35] at HK ⊢
      clear h37 h35
      refine wpList_guard_no (by rfl) ?_
      refine HK.out _ _ (Below.refl _ _) ?_
      rfl
    · intro vv W K hB hd HK
      simp only [confRules] at hd HK
      obtain ⟨h35, h38⟩ := hd
      simp only [h35, h38] at HK ⊢
      clear h35 h38
      go_wp2
      refine HK.out _ _ (Below.refl _ _) ?_
      rfl
    · intro vv W K hB hd HK
      simp only [confRules] at hd HK
      obtain ⟨h39, h35⟩ := hd
      simp only [h39, h35] at HK ⊢
      clear h39 h35
      go_wp2
      refine HK.out _ _ (Below.refl _ _) ?_
      rfl
    · intro vv W K hB hd HK
      simp only [confRules] at hd HK
      have h40 := hd
      clear hd
      simp only [h40] at HK ⊢
      clear h40
      refine wpList_guard_no (by rfl) ?_
      refine HK.out _ _ (Below.refl _ _) ?_
      rfl
    · intro vv W K hB hd HK
      simp only [confRules] at hd HK
      obtain ⟨h41, h40⟩ := hd
      simp only [h41, h40] at HK ⊢
      clear h41 h40
      refine wpList_guard_no (by rfl) ?_
      refine HK.out _ _ (Below.refl _ _) ?_
      rfl
    · intro vv W K hB hd HK
      simp only [confRules] at hd HK
      obtain ⟨h42, h40⟩ := hd
      simp only [h42, h40] at HK ⊢
      clear h42 h40
      refine wpList_guard_no (by rfl) ?_
      refine HK.out _ _ (Below.refl _ _) ?_
      rfl
    · intro vv W K hB hd HK
      simp only [confRules] at hd HK
      obtain ⟨h40, h43⟩ := hd
      simp only [h40, h43] at HK ⊢
      clear h40 h43
      go_wp2
      refine HK.out _ _ (Below.refl _ _) ?_
      rfl
  case rahend =>
    intro vv W hB hf
    have e44 := hf 44 (by decide)
    simp only [endRules] at e44
    simp only [e44, dropRules]
    clear hf e44
    go_wp2
    go_ret
    exact ⟨rfl, hB0.trans (hB.mono (by omega))⟩
set_option maxRecDepth 100000 in
set_option maxHeartbeats 2000000 in
theorem bright_5 (C D : Array Value) (z m o q s d1 d2 : Int) (w : World)
    (hC : ∀ (W : World), W.heap[w.heap.size]? = some (.cells C 41 (0, 0)) → W.cell? ⟨w.heap.size, 0, none⟩ = some (.int .i64 1) ∧ W.cell? ⟨w.heap.size, 1, none⟩ = some (.int .i64 z) ∧ W.cell? ⟨w.heap.size, 2, none⟩ = some (.int .i64 m) ∧ W.cell? ⟨w.heap.size, 3, none⟩ = some (.int .i64 o) ∧ W.cell? ⟨w.heap.size, 4, none⟩ = some (.int .i64 q) ∧ W.cell? ⟨w.heap.size, 5, none⟩ = some (.int .i64 s))
    (hI : (Try.prog.info? 23).map (·.size) = some D.size)
    (h1 : ∀ W, Calls Try.prog 21 #[.agg D, .int .i64 z, .int .i64 o] W fun e w' => e = .returned (.bool true) ∧ Below W.heap.size W w')
    (h2 : ∀ W, Calls Try.prog 21 #[.agg D, .int .i64 m, .int .i64 o] W fun e w' => e = .returned (.bool true) ∧ Below W.heap.size W w')
    (hd1 : ∀ W, Calls Try.prog 23 #[.agg D, .int .i64 z] W fun e w' => e = .returned (.int .i64 d1) ∧ Below W.heap.size W w') (hd2 : ∀ W, Calls Try.prog 23 #[.agg D, .int .i64 m] W fun e w' => e = .returned (.int .i64 d2) ∧ Below W.heap.size W w') (t3 : (d1 == d2) = false)
    (t4 : decide (1 ≤ q) = true)
    (t5 : decide (q ≤ 281474976710655) = false) :
    Calls Try.prog 33 #[.agg C, .agg D] w fun e w' => e = .returned (.bool false) ∧ Below w.heap.size w w' := by
  obtain ⟨W0, hW0, hB0, hE, hG, hz0⟩ := bright_setup C D w
  obtain ⟨k0, -⟩ := hC _ hE
  have HW0 := Lib.hid hW0
  have HE := Lib.hid hE
  have HG := Lib.hid hG
  have HI := Lib.hid hI
  have HQ := Lib.hid (fun W hh => (hC W hh).2)
  have H1 := Lib.hid h1
  have H2 := Lib.hid h2
  have D1 := Lib.hid hd1
  have D2 := Lib.hid hd2
  have T3 := Lib.hid t3
  have T4 := Lib.hid t4
  have T5 := Lib.hid t5
  clear hW0 hE hG hI hC h1 h2 hd1 hd2 t3 t4 t5
  go_enter Try.func33, Try.ntmps33
  go_upto_region 1 with (fail)
  rw [HW0.out]
  go_wp2
  refine wp_region_conf2 45 [Fact.eq ?rax0, Fact.eq ?rax1, Fact.eq ?rax2, Fact.eq ?rax3, Fact.eq ?rax4, Fact.eq ?rax5, Fact.eq ?rax6, Fact.eq ?rax7, Fact.eq ?rax8, Fact.eq ?rax9, Fact.eq ?rax10, Fact.eq ?rax11, Fact.eq ?rax12, Fact.eq ?rax13, Fact.eq ?rax14, Fact.eq ?rax15, Fact.eq ?rax16, Fact.eq ?rax17, Fact.eq ?rax18, Fact.eq ?rax19, Fact.eq ?rax20, Fact.eq ?rax21, Fact.eq ?rax22, Fact.eq (.bool true), Fact.eq ?rax24, Fact.eq ?rax25, Fact.eq ?rax26, Fact.eq ?rax27, Fact.eq (.bool true), Fact.eq ?rax29, Fact.eq ?rax30, Fact.eq ?rax31, Fact.eq ?rax32, Fact.eq (.bool false), Fact.eq ?rax34, Fact.eq ?rax35, Fact.eq undef, Fact.eq undef, Fact.eq undef, Fact.eq ?rax39, Fact.eq ?rax40, Fact.eq undef, Fact.eq undef, Fact.eq undef, Fact.eq ?rax44] ?raA (by kernel_rfl) (by kernel_rfl) ?rahA ?raho ?rahend
  case rahA =>
    intro vv
    simp only [putRules, Nat.reduceAdd]
    rfl
  case raho =>
    refine ⟨?_, ?_, ?_, ?_, ?_, ?_, ?_, ?_, ?_, ?_, ?_, ?_, ?_, ?_, ?_, ?_, ?_, ?_, ?_, ?_, ?_, ?_, ?_, ?_, ?_, ?_, ?_, ?_, ?_, ?_, ?_, ?_, ?_, ?_, ?_, ?_, ?_, ?_, ?_, ?_, ?_, ?_, ?_, ?_, ?_, trivial⟩
    · intro vv W K hB hd HK
      simp only [confRules] at HK
      clear hd
      have hT := (hB.block (w.heap.size + 1) hz0).trans HG.out
      go_wp2_with (refine wpList_row_on (by rfl) 23 _ rfl (w.heap.size + 1) rfl 23 _ _ _ hT Try.underlying23 rfl HI.out ?_)
      refine HK.out _ _ (Below.refl _ _) ?_
      rfl
    · intro vv W K hB hd HK
      simp only [confRules] at HK
      clear hd
      go_wp2
      refine HK.out _ _ (Below.refl _ _) ?_
      rfl
    · intro vv W K hB hd HK
      simp only [confRules] at hd HK
      have h1 := hd
      clear hd
      simp only [h1] at HK ⊢
      clear h1
      have hT := (hB.block w.heap.size (by omega)).trans HE.out
      obtain ⟨k1, k2, k3, k4, k5⟩ := HQ.out _ hT
      clear hT
      go_wp2
      refine HK.out _ _ (Below.refl _ _) ?_
      rfl
    · intro vv W K hB hd HK
      simp only [confRules] at HK
      clear hd
      go_wp2
      refine HK.out _ _ (Below.refl _ _) ?_
      rfl
    · intro vv W K hB hd HK
      simp only [confRules] at hd HK
      have h3 := hd
      clear hd
      simp only [h3] at HK ⊢
      clear h3
      have hT := (hB.block w.heap.size (by omega)).trans HE.out
      obtain ⟨k1, k2, k3, k4, k5⟩ := HQ.out _ hT
      clear hT
      go_wp2
      refine HK.out _ _ (Below.refl _ _) ?_
      rfl
    · intro vv W K hB hd HK
      simp only [confRules] at hd HK
      obtain ⟨h0, h2, h4⟩ := hd
      simp only [h0, h2, h4] at HK ⊢
      clear h0 h2 h4
      go_wp2_with (refine (H1.out _).mono ?_; rintro e w9 ⟨rfl, hB9⟩)
      refine HK.out _ _ hB9 ?_
      rfl
    · intro vv W K hB hd HK
      simp only [confRules] at hd HK
      obtain ⟨h5, _⟩ := hd
      simp only [h5] at HK ⊢
      clear h5
      go_wp2
      refine HK.out _ _ (Below.refl _ _) ?_
      rfl
    · intro vv W K hB hd HK
      simp only [confRules] at hd HK
      have h6 := hd
      clear hd
      simp only [h6] at HK ⊢
      clear h6
      refine wpList_guard_yes (by rfl) ?_
      have hT := (hB.block (w.heap.size + 1) hz0).trans HG.out
      go_wp2_with (refine wpList_row_on (by rfl) 23 _ rfl (w.heap.size + 1) rfl 23 _ _ _ hT Try.underlying23 rfl HI.out ?_)
      refine HK.out _ _ (Below.refl _ _) ?_
      rfl
    · intro vv W K hB hd HK
      simp only [confRules] at hd HK
      have h6 := hd
      clear hd
      simp only [h6] at HK ⊢
      clear h6
      refine wpList_guard_yes (by rfl) ?_
      go_wp2
      refine HK.out _ _ (Below.refl _ _) ?_
      rfl
    · intro vv W K hB hd HK
      simp only [confRules] at hd HK
      obtain ⟨h8, h6⟩ := hd
      simp only [h8, h6] at HK ⊢
      clear h8 h6
      refine wpList_guard_yes (by rfl) ?_
      have hT := (hB.block w.heap.size (by omega)).trans HE.out
      obtain ⟨k1, k2, k3, k4, k5⟩ := HQ.out _ hT
      clear hT
      go_wp2
      refine HK.out _ _ (Below.refl _ _) ?_
      rfl
    · intro vv W K hB hd HK
      simp only [confRules] at hd HK
      have h6 := hd
      clear hd
      simp only [h6] at HK ⊢
      clear h6
      refine wpList_guard_yes (by rfl) ?_
      go_wp2
      refine HK.out _ _ (Below.refl _ _) ?_
      rfl
    · intro vv W K hB hd HK
      simp only [confRules] at hd HK
      obtain ⟨h10, h6⟩ := hd
      simp only [h10, h6] at HK ⊢
      clear h10 h6
      refine wpList_guard_yes (by rfl) ?_
      have hT := (hB.block w.heap.size (by omega)).trans HE.out
      obtain ⟨k1, k2, k3, k4, k5⟩ := HQ.out _ hT
      clear hT
      go_wp2
      refine HK.out _ _ (Below.refl _ _) ?_
      rfl
    · intro vv W K hB hd HK
      simp only [confRules] at hd HK
      obtain ⟨h7, h9, h11, h6, _⟩ := hd
      simp only [h7, h9, h11, h6] at HK ⊢
      clear h7 h9 h11 h6
      refine wpList_guard_yes (by rfl) ?_
      go_wp2_with (refine (H2.out _).mono ?_; rintro e w9 ⟨rfl, hB9⟩)
      refine HK.out _ _ hB9 ?_
      rfl
    · intro vv W K hB hd HK
      simp only [confRules] at hd HK
      obtain ⟨h6, h12⟩ := hd
      simp only [h6, h12] at HK ⊢
      clear h6 h12
      go_wp2
      refine HK.out _ _ (Below.refl _ _) ?_
      rfl
    · intro vv W K hB hd HK
      simp only [confRules] at hd HK
      obtain ⟨h13, h12⟩ := hd
      simp only [h13, h12] at HK ⊢
      clear h13 h12
      go_wp2
      refine HK.out _ _ (Below.refl _ _) ?_
      rfl
    · intro vv W K hB hd HK
      simp only [confRules] at hd HK
      have h14 := hd
      clear hd
      simp only [h14] at HK ⊢
      clear h14
      refine wpList_guard_yes (by rfl) ?_
      have hT := (hB.block (w.heap.size + 1) hz0).trans HG.out
      go_wp2_with (refine wpList_row_on (by rfl) 23 _ rfl (w.heap.size + 1) rfl 23 _ _ _ hT Try.underlying23 rfl HI.out ?_)
      refine HK.out _ _ (Below.refl _ _) ?_
      rfl
    · intro vv W K hB hd HK
      simp only [confRules] at hd HK
      have h14 := hd
      clear hd
      simp only [h14] at HK ⊢
      clear h14
      refine wpList_guard_yes (by rfl) ?_
      go_wp2
      refine HK.out _ _ (Below.refl _ _) ?_
      rfl
    · intro vv W K hB hd HK
      simp only [confRules] at hd HK
      obtain ⟨h16, h14⟩ := hd
      simp only [h16, h14] at HK ⊢
      clear h16 h14
      refine wpList_guard_yes (by rfl) ?_
      have hT := (hB.block w.heap.size (by omega)).trans HE.out
      obtain ⟨k1, k2, k3, k4, k5⟩ := HQ.out _ hT
      clear hT
      go_wp2
      refine HK.out _ _ (Below.refl _ _) ?_
      rfl
    · intro vv W K hB hd HK
      simp only [confRules] at hd HK
      obtain ⟨h15, h17, h14, _⟩ := hd
      simp only [h15, h17, h14] at HK ⊢
      clear h15 h17 h14
      refine wpList_guard_yes (by rfl) ?_
      go_wp2_with (refine (D1.out _).mono ?_; rintro e w9 ⟨rfl, hB9⟩)
      refine HK.out _ _ hB9 ?_
      rfl
    · intro vv W K hB hd HK
      simp only [confRules] at hd HK
      have h14 := hd
      clear hd
      simp only [h14] at HK ⊢
      clear h14
      refine wpList_guard_yes (by rfl) ?_
      have hT := (hB.block (w.heap.size + 1) hz0).trans HG.out
      go_wp2_with (refine wpList_row_on (by rfl) 23 _ rfl (w.heap.size + 1) rfl 23 _ _ _ hT Try.underlying23 rfl HI.out ?_)
      refine HK.out _ _ (Below.refl _ _) ?_
      rfl
    · intro vv W K hB hd HK
      simp only [confRules] at hd HK
      have h14 := hd
      clear hd
      simp only [h14] at HK ⊢
      clear h14
      refine wpList_guard_yes (by rfl) ?_
      go_wp2
      refine HK.out _ _ (Below.refl _ _) ?_
      rfl
    · intro vv W K hB hd HK
      simp only [confRules] at hd HK
      obtain ⟨h20, h14⟩ := hd
      simp only [h20, h14] at HK ⊢
      clear h20 h14
      refine wpList_guard_yes (by rfl) ?_
      have hT := (hB.block w.heap.size (by omega)).trans HE.out
      obtain ⟨k1, k2, k3, k4, k5⟩ := HQ.out _ hT
      clear hT
      go_wp2
      refine HK.out _ _ (Below.refl _ _) ?_
      rfl
    · intro vv W K hB hd HK
      simp only [confRules] at hd HK
      obtain ⟨h19, h21, h18, h14⟩ := hd
      simp only [h19, h21, h18, h14] at HK ⊢
      clear h19 h21 h18 h14
      refine wpList_guard_yes (by rfl) ?_
      go_wp2_with (refine (D2.out _).mono ?_; rintro e w9 ⟨rfl, hB9⟩)
      refine HK.out _ _ hB9 ?_
      rfl
    · intro vv W K hB hd HK
      simp only [confRules] at hd HK
      obtain ⟨h18, h22, h14⟩ := hd
      simp only [h18, h22, h14] at HK ⊢
      clear h18 h22 h14
      refine wpList_guard_yes (by rfl) ?_
      have t := T3.out
      go_wp2
      refine HK.out _ _ (Below.refl _ _) ?_
      first | rfl | exact congrArg Value.bool t | exact congrArg Value.bool (show (!_) = _ by rw [t]; rfl)
    · intro vv W K hB hd HK
      simp only [confRules] at hd HK
      obtain ⟨h14, h23⟩ := hd
      simp only [h14, h23] at HK ⊢
      clear h14 h23
      go_wp2
      refine HK.out _ _ (Below.refl _ _) ?_
      rfl
    · intro vv W K hB hd HK
      simp only [confRules] at hd HK
      obtain ⟨h24, h22⟩ := hd
      simp only [h24, h22] at HK ⊢
      clear h24 h22
      go_wp2
      refine HK.out _ _ (Below.refl _ _) ?_
      rfl
    · intro vv W K hB hd HK
      simp only [confRules] at hd HK
      have h25 := hd
      clear hd
      simp only [h25] at HK ⊢
      clear h25
      refine wpList_guard_yes (by rfl) ?_
      go_wp2
      refine HK.out _ _ (Below.refl _ _) ?_
      rfl
    · intro vv W K hB hd HK
      simp only [confRules] at hd HK
      obtain ⟨h26, h25⟩ := hd
      simp only [h26, h25] at HK ⊢
      clear h26 h25
      refine wpList_guard_yes (by rfl) ?_
      have hT := (hB.block w.heap.size (by omega)).trans HE.out
      obtain ⟨k1, k2, k3, k4, k5⟩ := HQ.out _ hT
      clear hT
      go_wp2
      refine HK.out _ _ (Below.refl _ _) ?_
      rfl
    · intro vv W K hB hd HK
      simp only [confRules] at hd HK
      obtain ⟨h27, h25⟩ := hd
      simp only [h27, h25] at HK ⊢
      clear h27 h25
      refine wpList_guard_yes (by rfl) ?_
      have t := T4.out
      go_wp2
      refine HK.out _ _ (Below.refl _ _) ?_
      first | rfl | exact congrArg Value.bool t | exact congrArg Value.bool (show (!_) = _ by rw [t]; rfl)
    · intro vv W K hB hd HK
      simp only [confRules] at hd HK
      obtain ⟨h25, h28⟩ := hd
      simp only [h25, h28] at HK ⊢
      clear h25 h28
      go_wp2
      refine HK.out _ _ (Below.refl _ _) ?_
      rfl
    · intro vv W K hB hd HK
      simp only [confRules] at hd HK
      obtain ⟨h29, h25⟩ := hd
      simp only [h29, h25] at HK ⊢
      clear h29 h25
      go_wp2
      refine HK.out _ _ (Below.refl _ _) ?_
      rfl
    · intro vv W K hB hd HK
      simp only [confRules] at hd HK
      have h30 := hd
      clear hd
      simp only [h30] at HK ⊢
      clear h30
      refine wpList_guard_yes (by rfl) ?_
      go_wp2
      refine HK.out _ _ (Below.refl _ _) ?_
      rfl
    · intro vv W K hB hd HK
      simp only [confRules] at hd HK
      obtain ⟨h31, h30⟩ := hd
      simp only [h31, h30] at HK ⊢
      clear h31 h30
      refine wpList_guard_yes (by rfl) ?_
      have hT := (hB.block w.heap.size (by omega)).trans HE.out
      obtain ⟨k1, k2, k3, k4, k5⟩ := HQ.out _ hT
      clear hT
      go_wp2
      refine HK.out _ _ (Below.refl _ _) ?_
      rfl
    · intro vv W K hB hd HK
      simp only [confRules] at hd HK
      obtain ⟨h32, h30⟩ := hd
      simp only [h32, h30] at HK ⊢
      clear h32 h30
      refine wpList_guard_yes (by rfl) ?_
      have t := T5.out
      go_wp2
      refine HK.out _ _ (Below.refl _ _) ?_
      first | rfl | exact congrArg Value.bool t | exact congrArg Value.bool (show (!_) = _ by rw [t]; rfl)
    · intro vv W K hB hd HK
      simp only [confRules] at hd HK
      obtain ⟨h30, h33⟩ := hd
      simp only [h30, h33] at HK ⊢
      clear h30 h33
      go_wp2
      refine HK.out _ _ (Below.refl _ _) ?_
      rfl
    · intro vv W K hB hd HK
      simp only [confRules] at hd HK
      obtain ⟨h34, h30⟩ := hd
      simp only [h34, h30] at HK ⊢
      clear h34 h30
      go_wp2
      refine HK.out _ _ (Below.refl _ _) ?_
      rfl
    · intro vv W K hB hd HK
      simp only [confRules] at hd HK
      have h35 := hd
      clear hd
      simp only [h35] at HK ⊢
      clear h35
      refine wpList_guard_no (by rfl) ?_
      refine HK.out _ _ (Below.refl _ _) ?_
      rfl
    · intro vv W K hB hd HK
      simp only [confRules] at hd HK
      obtain ⟨h36, h35⟩ := hd
      simp only [h36, h35] at HK ⊢
      clear h36 h35
      refine wpList_guard_no (by rfl) ?_
      refine HK.out _ _ (Below.refl _ _) ?_
      rfl
    · intro vv W K hB hd HK
      simp only [confRules] at hd HK
      obtain ⟨h37, h35⟩ := hd
      simp only [h37, h35] at HK ⊢
      clear h37 h35
      refine wpList_guard_no (by rfl) ?_
      refine HK.out _ _ (Below.refl _ _) ?_
      rfl
    · intro vv W K hB hd HK
      simp only [confRules] at hd HK
      obtain ⟨h35, h38⟩ := hd
      simp only [h35, h38] at HK ⊢
      clear h35 h38
      go_wp2
      refine HK.out _ _ (Below.refl _ _) ?_
      rfl
    · intro vv W K hB hd HK
      simp only [confRules] at hd HK
      obtain ⟨h39, h35⟩ := hd
      simp only [h39, h35] at HK ⊢
      clear h39 h35
      go_wp2
      refine HK.out _ _ (Below.refl _ _) ?_
      rfl
    · intro vv W K hB hd HK
      simp only [confRules] at hd HK
      have h40 := hd
      clear hd
      simp only [h40] at HK ⊢
      clear h40
      refine wpList_guard_no (by rfl) ?_
      refine HK.out _ _ (Below.refl _ _) ?_
      rfl
    · intro vv W K hB hd HK
      simp only [confRules] at hd HK
      obtain ⟨h41, h40⟩ := hd
      simp only [h41, h40] at HK ⊢
      clear h41 h40
      refine wpList_guard_no (by rfl) ?_
      refine HK.out _ _ (Below.refl _ _) ?_
      rfl
    · intro vv W K hB hd HK
      simp only [confRules] at hd HK
      obtain ⟨h42, h40⟩ := hd
      simp only [h42, h40] at HK ⊢
      clear h42 h40
      refine wpList_guard_no (by rfl) ?_
      refine HK.out _ _ (Below.refl _ _) ?_
      rfl
    · intro vv W K hB hd HK
      simp only [confRules] at hd HK
      obtain ⟨h40, h43⟩ := hd
      simp only [h40, h43] at HK ⊢
      clear h40 h43
      go_wp2
      refine HK.out _ _ (Below.refl _ _) ?_
      rfl
  case rahend =>
    intro vv W hB hf
    have e44 := hf 44 (by decide)
    simp only [endRules] at e44
    simp only [e44, dropRules]
    clear hf e44
    go_wp2
    go_ret
    exact ⟨rfl, hB0.trans (hB.mono (by omega))⟩
set_option maxRecDepth 100000 in
set_option maxHeartbeats 2000000 in
theorem bright_6 (C D : Array Value) (z m o q s d1 d2 : Int) (w : World)
    (hC : ∀ (W : World), W.heap[w.heap.size]? = some (.cells C 41 (0, 0)) → W.cell? ⟨w.heap.size, 0, none⟩ = some (.int .i64 1) ∧ W.cell? ⟨w.heap.size, 1, none⟩ = some (.int .i64 z) ∧ W.cell? ⟨w.heap.size, 2, none⟩ = some (.int .i64 m) ∧ W.cell? ⟨w.heap.size, 3, none⟩ = some (.int .i64 o) ∧ W.cell? ⟨w.heap.size, 4, none⟩ = some (.int .i64 q) ∧ W.cell? ⟨w.heap.size, 5, none⟩ = some (.int .i64 s))
    (hI : (Try.prog.info? 23).map (·.size) = some D.size)
    (h1 : ∀ W, Calls Try.prog 21 #[.agg D, .int .i64 z, .int .i64 o] W fun e w' => e = .returned (.bool true) ∧ Below W.heap.size W w')
    (h2 : ∀ W, Calls Try.prog 21 #[.agg D, .int .i64 m, .int .i64 o] W fun e w' => e = .returned (.bool true) ∧ Below W.heap.size W w')
    (hd1 : ∀ W, Calls Try.prog 23 #[.agg D, .int .i64 z] W fun e w' => e = .returned (.int .i64 d1) ∧ Below W.heap.size W w') (hd2 : ∀ W, Calls Try.prog 23 #[.agg D, .int .i64 m] W fun e w' => e = .returned (.int .i64 d2) ∧ Below W.heap.size W w') (t3 : (d1 == d2) = false)
    (t4 : decide (1 ≤ q) = true)
    (t5 : decide (q ≤ 281474976710655) = true)
    (t6 : decide (0 ≤ s) = false) :
    Calls Try.prog 33 #[.agg C, .agg D] w fun e w' => e = .returned (.bool false) ∧ Below w.heap.size w w' := by
  obtain ⟨W0, hW0, hB0, hE, hG, hz0⟩ := bright_setup C D w
  obtain ⟨k0, -⟩ := hC _ hE
  have HW0 := Lib.hid hW0
  have HE := Lib.hid hE
  have HG := Lib.hid hG
  have HI := Lib.hid hI
  have HQ := Lib.hid (fun W hh => (hC W hh).2)
  have H1 := Lib.hid h1
  have H2 := Lib.hid h2
  have D1 := Lib.hid hd1
  have D2 := Lib.hid hd2
  have T3 := Lib.hid t3
  have T4 := Lib.hid t4
  have T5 := Lib.hid t5
  have T6 := Lib.hid t6
  clear hW0 hE hG hI hC h1 h2 hd1 hd2 t3 t4 t5 t6
  go_enter Try.func33, Try.ntmps33
  go_upto_region 1 with (fail)
  rw [HW0.out]
  go_wp2
  refine wp_region_conf2 45 [Fact.eq ?rax0, Fact.eq ?rax1, Fact.eq ?rax2, Fact.eq ?rax3, Fact.eq ?rax4, Fact.eq ?rax5, Fact.eq ?rax6, Fact.eq ?rax7, Fact.eq ?rax8, Fact.eq ?rax9, Fact.eq ?rax10, Fact.eq ?rax11, Fact.eq ?rax12, Fact.eq ?rax13, Fact.eq ?rax14, Fact.eq ?rax15, Fact.eq ?rax16, Fact.eq ?rax17, Fact.eq ?rax18, Fact.eq ?rax19, Fact.eq ?rax20, Fact.eq ?rax21, Fact.eq ?rax22, Fact.eq (.bool true), Fact.eq ?rax24, Fact.eq ?rax25, Fact.eq ?rax26, Fact.eq ?rax27, Fact.eq (.bool true), Fact.eq ?rax29, Fact.eq ?rax30, Fact.eq ?rax31, Fact.eq ?rax32, Fact.eq (.bool true), Fact.eq ?rax34, Fact.eq ?rax35, Fact.eq ?rax36, Fact.eq ?rax37, Fact.eq (.bool false), Fact.eq ?rax39, Fact.eq ?rax40, Fact.eq undef, Fact.eq undef, Fact.eq undef, Fact.eq ?rax44] ?raA (by kernel_rfl) (by kernel_rfl) ?rahA ?raho ?rahend
  case rahA =>
    intro vv
    simp only [putRules, Nat.reduceAdd]
    rfl
  case raho =>
    refine ⟨?_, ?_, ?_, ?_, ?_, ?_, ?_, ?_, ?_, ?_, ?_, ?_, ?_, ?_, ?_, ?_, ?_, ?_, ?_, ?_, ?_, ?_, ?_, ?_, ?_, ?_, ?_, ?_, ?_, ?_, ?_, ?_, ?_, ?_, ?_, ?_, ?_, ?_, ?_, ?_, ?_, ?_, ?_, ?_, ?_, trivial⟩
    · intro vv W K hB hd HK
      simp only [confRules] at HK
      clear hd
      have hT := (hB.block (w.heap.size + 1) hz0).trans HG.out
      go_wp2_with (refine wpList_row_on (by rfl) 23 _ rfl (w.heap.size + 1) rfl 23 _ _ _ hT Try.underlying23 rfl HI.out ?_)
      refine HK.out _ _ (Below.refl _ _) ?_
      rfl
    · intro vv W K hB hd HK
      simp only [confRules] at HK
      clear hd
      go_wp2
      refine HK.out _ _ (Below.refl _ _) ?_
      rfl
    · intro vv W K hB hd HK
      simp only [confRules] at hd HK
      have h1 := hd
      clear hd
      simp only [h1] at HK ⊢
      clear h1
      have hT := (hB.block w.heap.size (by omega)).trans HE.out
      obtain ⟨k1, k2, k3, k4, k5⟩ := HQ.out _ hT
      clear hT
      go_wp2
      refine HK.out _ _ (Below.refl _ _) ?_
      rfl
    · intro vv W K hB hd HK
      simp only [confRules] at HK
      clear hd
      go_wp2
      refine HK.out _ _ (Below.refl _ _) ?_
      rfl
    · intro vv W K hB hd HK
      simp only [confRules] at hd HK
      have h3 := hd
      clear hd
      simp only [h3] at HK ⊢
      clear h3
      have hT := (hB.block w.heap.size (by omega)).trans HE.out
      obtain ⟨k1, k2, k3, k4, k5⟩ := HQ.out _ hT
      clear hT
      go_wp2
      refine HK.out _ _ (Below.refl _ _) ?_
      rfl
    · intro vv W K hB hd HK
      simp only [confRules] at hd HK
      obtain ⟨h0, h2, h4⟩ := hd
      simp only [h0, h2, h4] at HK ⊢
      clear h0 h2 h4
      go_wp2_with (refine (H1.out _).mono ?_; rintro e w9 ⟨rfl, hB9⟩)
      refine HK.out _ _ hB9 ?_
      rfl
    · intro vv W K hB hd HK
      simp only [confRules] at hd HK
      obtain ⟨h5, _⟩ := hd
      simp only [h5] at HK ⊢
      clear h5
      go_wp2
      refine HK.out _ _ (Below.refl _ _) ?_
      rfl
    · intro vv W K hB hd HK
      simp only [confRules] at hd HK
      have h6 := hd
      clear hd
      simp only [h6] at HK ⊢
      clear h6
      refine wpList_guard_yes (by rfl) ?_
      have hT := (hB.block (w.heap.size + 1) hz0).trans HG.out
      go_wp2_with (refine wpList_row_on (by rfl) 23 _ rfl (w.heap.size + 1) rfl 23 _ _ _ hT Try.underlying23 rfl HI.out ?_)
      refine HK.out _ _ (Below.refl _ _) ?_
      rfl
    · intro vv W K hB hd HK
      simp only [confRules] at hd HK
      have h6 := hd
      clear hd
      simp only [h6] at HK ⊢
      clear h6
      refine wpList_guard_yes (by rfl) ?_
      go_wp2
      refine HK.out _ _ (Below.refl _ _) ?_
      rfl
    · intro vv W K hB hd HK
      simp only [confRules] at hd HK
      obtain ⟨h8, h6⟩ := hd
      simp only [h8, h6] at HK ⊢
      clear h8 h6
      refine wpList_guard_yes (by rfl) ?_
      have hT := (hB.block w.heap.size (by omega)).trans HE.out
      obtain ⟨k1, k2, k3, k4, k5⟩ := HQ.out _ hT
      clear hT
      go_wp2
      refine HK.out _ _ (Below.refl _ _) ?_
      rfl
    · intro vv W K hB hd HK
      simp only [confRules] at hd HK
      have h6 := hd
      clear hd
      simp only [h6] at HK ⊢
      clear h6
      refine wpList_guard_yes (by rfl) ?_
      go_wp2
      refine HK.out _ _ (Below.refl _ _) ?_
      rfl
    · intro vv W K hB hd HK
      simp only [confRules] at hd HK
      obtain ⟨h10, h6⟩ := hd
      simp only [h10, h6] at HK ⊢
      clear h10 h6
      refine wpList_guard_yes (by rfl) ?_
      have hT := (hB.block w.heap.size (by omega)).trans HE.out
      obtain ⟨k1, k2, k3, k4, k5⟩ := HQ.out _ hT
      clear hT
      go_wp2
      refine HK.out _ _ (Below.refl _ _) ?_
      rfl
    · intro vv W K hB hd HK
      simp only [confRules] at hd HK
      obtain ⟨h7, h9, h11, h6, _⟩ := hd
      simp only [h7, h9, h11, h6] at HK ⊢
      clear h7 h9 h11 h6
      refine wpList_guard_yes (by rfl) ?_
      go_wp2_with (refine (H2.out _).mono ?_; rintro e w9 ⟨rfl, hB9⟩)
      refine HK.out _ _ hB9 ?_
      rfl
    · intro vv W K hB hd HK
      simp only [confRules] at hd HK
      obtain ⟨h6, h12⟩ := hd
      simp only [h6, h12] at HK ⊢
      clear h6 h12
      go_wp2
      refine HK.out _ _ (Below.refl _ _) ?_
      rfl
    · intro vv W K hB hd HK
      simp only [confRules] at hd HK
      obtain ⟨h13, h12⟩ := hd
      simp only [h13, h12] at HK ⊢
      clear h13 h12
      go_wp2
      refine HK.out _ _ (Below.refl _ _) ?_
      rfl
    · intro vv W K hB hd HK
      simp only [confRules] at hd HK
      have h14 := hd
      clear hd
      simp only [h14] at HK ⊢
      clear h14
      refine wpList_guard_yes (by rfl) ?_
      have hT := (hB.block (w.heap.size + 1) hz0).trans HG.out
      go_wp2_with (refine wpList_row_on (by rfl) 23 _ rfl (w.heap.size + 1) rfl 23 _ _ _ hT Try.underlying23 rfl HI.out ?_)
      refine HK.out _ _ (Below.refl _ _) ?_
      rfl
    · intro vv W K hB hd HK
      simp only [confRules] at hd HK
      have h14 := hd
      clear hd
      simp only [h14] at HK ⊢
      clear h14
      refine wpList_guard_yes (by rfl) ?_
      go_wp2
      refine HK.out _ _ (Below.refl _ _) ?_
      rfl
    · intro vv W K hB hd HK
      simp only [confRules] at hd HK
      obtain ⟨h16, h14⟩ := hd
      simp only [h16, h14] at HK ⊢
      clear h16 h14
      refine wpList_guard_yes (by rfl) ?_
      have hT := (hB.block w.heap.size (by omega)).trans HE.out
      obtain ⟨k1, k2, k3, k4, k5⟩ := HQ.out _ hT
      clear hT
      go_wp2
      refine HK.out _ _ (Below.refl _ _) ?_
      rfl
    · intro vv W K hB hd HK
      simp only [confRules] at hd HK
      obtain ⟨h15, h17, h14, _⟩ := hd
      simp only [h15, h17, h14] at HK ⊢
      clear h15 h17 h14
      refine wpList_guard_yes (by rfl) ?_
      go_wp2_with (refine (D1.out _).mono ?_; rintro e w9 ⟨rfl, hB9⟩)
      refine HK.out _ _ hB9 ?_
      rfl
    · intro vv W K hB hd HK
      simp only [confRules] at hd HK
      have h14 := hd
      clear hd
      simp only [h14] at HK ⊢
      clear h14
      refine wpList_guard_yes (by rfl) ?_
      have hT := (hB.block (w.heap.size + 1) hz0).trans HG.out
      go_wp2_with (refine wpList_row_on (by rfl) 23 _ rfl (w.heap.size + 1) rfl 23 _ _ _ hT Try.underlying23 rfl HI.out ?_)
      refine HK.out _ _ (Below.refl _ _) ?_
      rfl
    · intro vv W K hB hd HK
      simp only [confRules] at hd HK
      have h14 := hd
      clear hd
      simp only [h14] at HK ⊢
      clear h14
      refine wpList_guard_yes (by rfl) ?_
      go_wp2
      refine HK.out _ _ (Below.refl _ _) ?_
      rfl
    · intro vv W K hB hd HK
      simp only [confRules] at hd HK
      obtain ⟨h20, h14⟩ := hd
      simp only [h20, h14] at HK ⊢
      clear h20 h14
      refine wpList_guard_yes (by rfl) ?_
      have hT := (hB.block w.heap.size (by omega)).trans HE.out
      obtain ⟨k1, k2, k3, k4, k5⟩ := HQ.out _ hT
      clear hT
      go_wp2
      refine HK.out _ _ (Below.refl _ _) ?_
      rfl
    · intro vv W K hB hd HK
      simp only [confRules] at hd HK
      obtain ⟨h19, h21, h18, h14⟩ := hd
      simp only [h19, h21, h18, h14] at HK ⊢
      clear h19 h21 h18 h14
      refine wpList_guard_yes (by rfl) ?_
      go_wp2_with (refine (D2.out _).mono ?_; rintro e w9 ⟨rfl, hB9⟩)
      refine HK.out _ _ hB9 ?_
      rfl
    · intro vv W K hB hd HK
      simp only [confRules] at hd HK
      obtain ⟨h18, h22, h14⟩ := hd
      simp only [h18, h22, h14] at HK ⊢
      clear h18 h22 h14
      refine wpList_guard_yes (by rfl) ?_
      have t := T3.out
      go_wp2
      refine HK.out _ _ (Below.refl _ _) ?_
      first | rfl | exact congrArg Value.bool t | exact congrArg Value.bool (show (!_) = _ by rw [t]; rfl)
    · intro vv W K hB hd HK
      simp only [confRules] at hd HK
      obtain ⟨h14, h23⟩ := hd
      simp only [h14, h23] at HK ⊢
      clear h14 h23
      go_wp2
      refine HK.out _ _ (Below.refl _ _) ?_
      rfl
    · intro vv W K hB hd HK
      simp only [confRules] at hd HK
      obtain ⟨h24, h22⟩ := hd
      simp only [h24, h22] at HK ⊢
      clear h24 h22
      go_wp2
      refine HK.out _ _ (Below.refl _ _) ?_
      rfl
    · intro vv W K hB hd HK
      simp only [confRules] at hd HK
      have h25 := hd
      clear hd
      simp only [h25] at HK ⊢
      clear h25
      refine wpList_guard_yes (by rfl) ?_
      go_wp2
      refine HK.out _ _ (Below.refl _ _) ?_
      rfl
    · intro vv W K hB hd HK
      simp only [confRules] at hd HK
      obtain ⟨h26, h25⟩ := hd
      simp only [h26, h25] at HK ⊢
      clear h26 h25
      refine wpList_guard_yes (by rfl) ?_
      have hT := (hB.block w.heap.size (by omega)).trans HE.out
      obtain ⟨k1, k2, k3, k4, k5⟩ := HQ.out _ hT
      clear hT
      go_wp2
      refine HK.out _ _ (Below.refl _ _) ?_
      rfl
    · intro vv W K hB hd HK
      simp only [confRules] at hd HK
      obtain ⟨h27, h25⟩ := hd
      simp only [h27, h25] at HK ⊢
      clear h27 h25
      refine wpList_guard_yes (by rfl) ?_
      have t := T4.out
      go_wp2
      refine HK.out _ _ (Below.refl _ _) ?_
      first | rfl | exact congrArg Value.bool t | exact congrArg Value.bool (show (!_) = _ by rw [t]; rfl)
    · intro vv W K hB hd HK
      simp only [confRules] at hd HK
      obtain ⟨h25, h28⟩ := hd
      simp only [h25, h28] at HK ⊢
      clear h25 h28
      go_wp2
      refine HK.out _ _ (Below.refl _ _) ?_
      rfl
    · intro vv W K hB hd HK
      simp only [confRules] at hd HK
      obtain ⟨h29, h25⟩ := hd
      simp only [h29, h25] at HK ⊢
      clear h29 h25
      go_wp2
      refine HK.out _ _ (Below.refl _ _) ?_
      rfl
    · intro vv W K hB hd HK
      simp only [confRules] at hd HK
      have h30 := hd
      clear hd
      simp only [h30] at HK ⊢
      clear h30
      refine wpList_guard_yes (by rfl) ?_
      go_wp2
      refine HK.out _ _ (Below.refl _ _) ?_
      rfl
    · intro vv W K hB hd HK
      simp only [confRules] at hd HK
      obtain ⟨h31, h30⟩ := hd
      simp only [h31, h30] at HK ⊢
      clear h31 h30
      refine wpList_guard_yes (by rfl) ?_
      have hT := (hB.block w.heap.size (by omega)).trans HE.out
      obtain ⟨k1, k2, k3, k4, k5⟩ := HQ.out _ hT
      clear hT
      go_wp2
      refine HK.out _ _ (Below.refl _ _) ?_
      rfl
    · intro vv W K hB hd HK
      simp only [confRules] at hd HK
      obtain ⟨h32, h30⟩ := hd
      simp only [h32, h30] at HK ⊢
      clear h32 h30
      refine wpList_guard_yes (by rfl) ?_
      have t := T5.out
      go_wp2
      refine HK.out _ _ (Below.refl _ _) ?_
      first | rfl | exact congrArg Value.bool t | exact congrArg Value.bool (show (!_) = _ by rw [t]; rfl)
    · intro vv W K hB hd HK
      simp only [confRules] at hd HK
      obtain ⟨h30, h33⟩ := hd
      simp only [h30, h33] at HK ⊢
      clear h30 h33
      go_wp2
      refine HK.out _ _ (Below.refl _ _) ?_
      rfl
    · intro vv W K hB hd HK
      simp only [confRules] at hd HK
      obtain ⟨h34, h30⟩ := hd
      simp only [h34, h30] at HK ⊢
      clear h34 h30
      go_wp2
      refine HK.out _ _ (Below.refl _ _) ?_
      rfl
    · intro vv W K hB hd HK
      simp only [confRules] at hd HK
      have h35 := hd
      clear hd
      simp only [h35] at HK ⊢
      clear h35
      refine wpList_guard_yes (by rfl) ?_
      go_wp2
      refine HK.out _ _ (Below.refl _ _) ?_
      rfl
    · intro vv W K hB hd HK
      simp only [confRules] at hd HK
      obtain ⟨h36, h35⟩ := hd
      simp only [h36, h35] at HK ⊢
      clear h36 h35
      refine wpList_guard_yes (by rfl) ?_
      have hT := (hB.block w.heap.size (by omega)).trans HE.out
      obtain ⟨k1, k2, k3, k4, k5⟩ := HQ.out _ hT
      clear hT
      go_wp2
      refine HK.out _ _ (Below.refl _ _) ?_
      rfl
    · intro vv W K hB hd HK
      simp only [confRules] at hd HK
      obtain ⟨h37, h35⟩ := hd
      simp only [h37, h35] at HK ⊢
      clear h37 h35
      refine wpList_guard_yes (by rfl) ?_
      have t := T6.out
      go_wp2
      refine HK.out _ _ (Below.refl _ _) ?_
      first | rfl | exact congrArg Value.bool t | exact congrArg Value.bool (show (!_) = _ by rw [t]; rfl)
    · intro vv W K hB hd HK
      simp only [confRules] at hd HK
      obtain ⟨h35, h38⟩ := hd
      simp only [h35, h38] at HK ⊢
      clear h35 h38
      go_wp2
      refine HK.out _ _ (Below.refl _ _) ?_
      rfl
    · intro vv W K hB hd HK
      simp only [confRules] at hd HK
      obtain ⟨h39, h35⟩ := hd
      simp only [h39, h35] at HK ⊢
      clear h39 h35
      go_wp2
      refine HK.out _ _ (Below.refl _ _) ?_
      rfl
    · intro vv W K hB hd HK
      simp only [confRules] at hd HK
      have h40 := hd
      clear hd
      simp only [h40] at HK ⊢
      clear h40
      refine wpList_guard_no (by rfl) ?_
      refine HK.out _ _ (Below.refl _ _) ?_
      rfl
    · intro vv W K hB hd HK
      simp only [confRules] at hd HK
      obtain ⟨h41, h40⟩ := hd
      simp only [h41, h40] at HK ⊢
      clear h41 h40
      refine wpList_guard_no (by rfl) ?_
      refine HK.out _ _ (Below.refl _ _) ?_
      rfl
    · intro vv W K hB hd HK
      simp only [confRules] at hd HK
      obtain ⟨h42, h40⟩ := hd
      simp only [h42, h40] at HK ⊢
      clear h42 h40
      refine wpList_guard_no (by rfl) ?_
      refine HK.out _ _ (Below.refl _ _) ?_
      rfl
    · intro vv W K hB hd HK
      simp only [confRules] at hd HK
      obtain ⟨h40, h43⟩ := hd
      simp only [h40, h43] at HK ⊢
      clear h40 h43
      go_wp2
      refine HK.out _ _ (Below.refl _ _) ?_
      rfl
  case rahend =>
    intro vv W hB hf
    have e44 := hf 44 (by decide)
    simp only [endRules] at e44
    simp only [e44, dropRules]
    clear hf e44
    go_wp2
    go_ret
    exact ⟨rfl, hB0.trans (hB.mono (by omega))⟩
set_option maxRecDepth 100000 in
set_option maxHeartbeats 2000000 in
theorem bright_7 (C D : Array Value) (z m o q s d1 d2 : Int) (w : World)
    (hC : ∀ (W : World), W.heap[w.heap.size]? = some (.cells C 41 (0, 0)) → W.cell? ⟨w.heap.size, 0, none⟩ = some (.int .i64 1) ∧ W.cell? ⟨w.heap.size, 1, none⟩ = some (.int .i64 z) ∧ W.cell? ⟨w.heap.size, 2, none⟩ = some (.int .i64 m) ∧ W.cell? ⟨w.heap.size, 3, none⟩ = some (.int .i64 o) ∧ W.cell? ⟨w.heap.size, 4, none⟩ = some (.int .i64 q) ∧ W.cell? ⟨w.heap.size, 5, none⟩ = some (.int .i64 s))
    (hI : (Try.prog.info? 23).map (·.size) = some D.size)
    (h1 : ∀ W, Calls Try.prog 21 #[.agg D, .int .i64 z, .int .i64 o] W fun e w' => e = .returned (.bool true) ∧ Below W.heap.size W w')
    (h2 : ∀ W, Calls Try.prog 21 #[.agg D, .int .i64 m, .int .i64 o] W fun e w' => e = .returned (.bool true) ∧ Below W.heap.size W w')
    (hd1 : ∀ W, Calls Try.prog 23 #[.agg D, .int .i64 z] W fun e w' => e = .returned (.int .i64 d1) ∧ Below W.heap.size W w') (hd2 : ∀ W, Calls Try.prog 23 #[.agg D, .int .i64 m] W fun e w' => e = .returned (.int .i64 d2) ∧ Below W.heap.size W w') (t3 : (d1 == d2) = false)
    (t4 : decide (1 ≤ q) = true)
    (t5 : decide (q ≤ 281474976710655) = true)
    (t6 : decide (0 ≤ s) = true)
    (t7 : decide (s ≤ 4294967295) = false) :
    Calls Try.prog 33 #[.agg C, .agg D] w fun e w' => e = .returned (.bool false) ∧ Below w.heap.size w w' := by
  obtain ⟨W0, hW0, hB0, hE, hG, hz0⟩ := bright_setup C D w
  obtain ⟨k0, -⟩ := hC _ hE
  have HW0 := Lib.hid hW0
  have HE := Lib.hid hE
  have HG := Lib.hid hG
  have HI := Lib.hid hI
  have HQ := Lib.hid (fun W hh => (hC W hh).2)
  have H1 := Lib.hid h1
  have H2 := Lib.hid h2
  have D1 := Lib.hid hd1
  have D2 := Lib.hid hd2
  have T3 := Lib.hid t3
  have T4 := Lib.hid t4
  have T5 := Lib.hid t5
  have T6 := Lib.hid t6
  have T7 := Lib.hid t7
  clear hW0 hE hG hI hC h1 h2 hd1 hd2 t3 t4 t5 t6 t7
  go_enter Try.func33, Try.ntmps33
  go_upto_region 1 with (fail)
  rw [HW0.out]
  go_wp2
  refine wp_region_conf2 45 [Fact.eq ?rax0, Fact.eq ?rax1, Fact.eq ?rax2, Fact.eq ?rax3, Fact.eq ?rax4, Fact.eq ?rax5, Fact.eq ?rax6, Fact.eq ?rax7, Fact.eq ?rax8, Fact.eq ?rax9, Fact.eq ?rax10, Fact.eq ?rax11, Fact.eq ?rax12, Fact.eq ?rax13, Fact.eq ?rax14, Fact.eq ?rax15, Fact.eq ?rax16, Fact.eq ?rax17, Fact.eq ?rax18, Fact.eq ?rax19, Fact.eq ?rax20, Fact.eq ?rax21, Fact.eq ?rax22, Fact.eq (.bool true), Fact.eq ?rax24, Fact.eq ?rax25, Fact.eq ?rax26, Fact.eq ?rax27, Fact.eq (.bool true), Fact.eq ?rax29, Fact.eq ?rax30, Fact.eq ?rax31, Fact.eq ?rax32, Fact.eq (.bool true), Fact.eq ?rax34, Fact.eq ?rax35, Fact.eq ?rax36, Fact.eq ?rax37, Fact.eq (.bool true), Fact.eq ?rax39, Fact.eq ?rax40, Fact.eq ?rax41, Fact.eq ?rax42, Fact.eq (.bool false), Fact.eq ?rax44] ?raA (by kernel_rfl) (by kernel_rfl) ?rahA ?raho ?rahend
  case rahA =>
    intro vv
    simp only [putRules, Nat.reduceAdd]
    rfl
  case raho =>
    refine ⟨?_, ?_, ?_, ?_, ?_, ?_, ?_, ?_, ?_, ?_, ?_, ?_, ?_, ?_, ?_, ?_, ?_, ?_, ?_, ?_, ?_, ?_, ?_, ?_, ?_, ?_, ?_, ?_, ?_, ?_, ?_, ?_, ?_, ?_, ?_, ?_, ?_, ?_, ?_, ?_, ?_, ?_, ?_, ?_, ?_, trivial⟩
    · intro vv W K hB hd HK
      simp only [confRules] at HK
      clear hd
      have hT := (hB.block (w.heap.size + 1) hz0).trans HG.out
      go_wp2_with (refine wpList_row_on (by rfl) 23 _ rfl (w.heap.size + 1) rfl 23 _ _ _ hT Try.underlying23 rfl HI.out ?_)
      refine HK.out _ _ (Below.refl _ _) ?_
      rfl
    · intro vv W K hB hd HK
      simp only [confRules] at HK
      clear hd
      go_wp2
      refine HK.out _ _ (Below.refl _ _) ?_
      rfl
    · intro vv W K hB hd HK
      simp only [confRules] at hd HK
      have h1 := hd
      clear hd
      simp only [h1] at HK ⊢
      clear h1
      have hT := (hB.block w.heap.size (by omega)).trans HE.out
      obtain ⟨k1, k2, k3, k4, k5⟩ := HQ.out _ hT
      clear hT
      go_wp2
      refine HK.out _ _ (Below.refl _ _) ?_
      rfl
    · intro vv W K hB hd HK
      simp only [confRules] at HK
      clear hd
      go_wp2
      refine HK.out _ _ (Below.refl _ _) ?_
      rfl
    · intro vv W K hB hd HK
      simp only [confRules] at hd HK
      have h3 := hd
      clear hd
      simp only [h3] at HK ⊢
      clear h3
      have hT := (hB.block w.heap.size (by omega)).trans HE.out
      obtain ⟨k1, k2, k3, k4, k5⟩ := HQ.out _ hT
      clear hT
      go_wp2
      refine HK.out _ _ (Below.refl _ _) ?_
      rfl
    · intro vv W K hB hd HK
      simp only [confRules] at hd HK
      obtain ⟨h0, h2, h4⟩ := hd
      simp only [h0, h2, h4] at HK ⊢
      clear h0 h2 h4
      go_wp2_with (refine (H1.out _).mono ?_; rintro e w9 ⟨rfl, hB9⟩)
      refine HK.out _ _ hB9 ?_
      rfl
    · intro vv W K hB hd HK
      simp only [confRules] at hd HK
      obtain ⟨h5, _⟩ := hd
      simp only [h5] at HK ⊢
      clear h5
      go_wp2
      refine HK.out _ _ (Below.refl _ _) ?_
      rfl
    · intro vv W K hB hd HK
      simp only [confRules] at hd HK
      have h6 := hd
      clear hd
      simp only [h6] at HK ⊢
      clear h6
      refine wpList_guard_yes (by rfl) ?_
      have hT := (hB.block (w.heap.size + 1) hz0).trans HG.out
      go_wp2_with (refine wpList_row_on (by rfl) 23 _ rfl (w.heap.size + 1) rfl 23 _ _ _ hT Try.underlying23 rfl HI.out ?_)
      refine HK.out _ _ (Below.refl _ _) ?_
      rfl
    · intro vv W K hB hd HK
      simp only [confRules] at hd HK
      have h6 := hd
      clear hd
      simp only [h6] at HK ⊢
      clear h6
      refine wpList_guard_yes (by rfl) ?_
      go_wp2
      refine HK.out _ _ (Below.refl _ _) ?_
      rfl
    · intro vv W K hB hd HK
      simp only [confRules] at hd HK
      obtain ⟨h8, h6⟩ := hd
      simp only [h8, h6] at HK ⊢
      clear h8 h6
      refine wpList_guard_yes (by rfl) ?_
      have hT := (hB.block w.heap.size (by omega)).trans HE.out
      obtain ⟨k1, k2, k3, k4, k5⟩ := HQ.out _ hT
      clear hT
      go_wp2
      refine HK.out _ _ (Below.refl _ _) ?_
      rfl
    · intro vv W K hB hd HK
      simp only [confRules] at hd HK
      have h6 := hd
      clear hd
      simp only [h6] at HK ⊢
      clear h6
      refine wpList_guard_yes (by rfl) ?_
      go_wp2
      refine HK.out _ _ (Below.refl _ _) ?_
      rfl
    · intro vv W K hB hd HK
      simp only [confRules] at hd HK
      obtain ⟨h10, h6⟩ := hd
      simp only [h10, h6] at HK ⊢
      clear h10 h6
      refine wpList_guard_yes (by rfl) ?_
      have hT := (hB.block w.heap.size (by omega)).trans HE.out
      obtain ⟨k1, k2, k3, k4, k5⟩ := HQ.out _ hT
      clear hT
      go_wp2
      refine HK.out _ _ (Below.refl _ _) ?_
      rfl
    · intro vv W K hB hd HK
      simp only [confRules] at hd HK
      obtain ⟨h7, h9, h11, h6, _⟩ := hd
      simp only [h7, h9, h11, h6] at HK ⊢
      clear h7 h9 h11 h6
      refine wpList_guard_yes (by rfl) ?_
      go_wp2_with (refine (H2.out _).mono ?_; rintro e w9 ⟨rfl, hB9⟩)
      refine HK.out _ _ hB9 ?_
      rfl
    · intro vv W K hB hd HK
      simp only [confRules] at hd HK
      obtain ⟨h6, h12⟩ := hd
      simp only [h6, h12] at HK ⊢
      clear h6 h12
      go_wp2
      refine HK.out _ _ (Below.refl _ _) ?_
      rfl
    · intro vv W K hB hd HK
      simp only [confRules] at hd HK
      obtain ⟨h13, h12⟩ := hd
      simp only [h13, h12] at HK ⊢
      clear h13 h12
      go_wp2
      refine HK.out _ _ (Below.refl _ _) ?_
      rfl
    · intro vv W K hB hd HK
      simp only [confRules] at hd HK
      have h14 := hd
      clear hd
      simp only [h14] at HK ⊢
      clear h14
      refine wpList_guard_yes (by rfl) ?_
      have hT := (hB.block (w.heap.size + 1) hz0).trans HG.out
      go_wp2_with (refine wpList_row_on (by rfl) 23 _ rfl (w.heap.size + 1) rfl 23 _ _ _ hT Try.underlying23 rfl HI.out ?_)
      refine HK.out _ _ (Below.refl _ _) ?_
      rfl
    · intro vv W K hB hd HK
      simp only [confRules] at hd HK
      have h14 := hd
      clear hd
      simp only [h14] at HK ⊢
      clear h14
      refine wpList_guard_yes (by rfl) ?_
      go_wp2
      refine HK.out _ _ (Below.refl _ _) ?_
      rfl
    · intro vv W K hB hd HK
      simp only [confRules] at hd HK
      obtain ⟨h16, h14⟩ := hd
      simp only [h16, h14] at HK ⊢
      clear h16 h14
      refine wpList_guard_yes (by rfl) ?_
      have hT := (hB.block w.heap.size (by omega)).trans HE.out
      obtain ⟨k1, k2, k3, k4, k5⟩ := HQ.out _ hT
      clear hT
      go_wp2
      refine HK.out _ _ (Below.refl _ _) ?_
      rfl
    · intro vv W K hB hd HK
      simp only [confRules] at hd HK
      obtain ⟨h15, h17, h14, _⟩ := hd
      simp only [h15, h17, h14] at HK ⊢
      clear h15 h17 h14
      refine wpList_guard_yes (by rfl) ?_
      go_wp2_with (refine (D1.out _).mono ?_; rintro e w9 ⟨rfl, hB9⟩)
      refine HK.out _ _ hB9 ?_
      rfl
    · intro vv W K hB hd HK
      simp only [confRules] at hd HK
      have h14 := hd
      clear hd
      simp only [h14] at HK ⊢
      clear h14
      refine wpList_guard_yes (by rfl) ?_
      have hT := (hB.block (w.heap.size + 1) hz0).trans HG.out
      go_wp2_with (refine wpList_row_on (by rfl) 23 _ rfl (w.heap.size + 1) rfl 23 _ _ _ hT Try.underlying23 rfl HI.out ?_)
      refine HK.out _ _ (Below.refl _ _) ?_
      rfl
    · intro vv W K hB hd HK
      simp only [confRules] at hd HK
      have h14 := hd
      clear hd
      simp only [h14] at HK ⊢
      clear h14
      refine wpList_guard_yes (by rfl) ?_
      go_wp2
      refine HK.out _ _ (Below.refl _ _) ?_
      rfl
    · intro vv W K hB hd HK
      simp only [confRules] at hd HK
      obtain ⟨h20, h14⟩ := hd
      simp only [h20, h14] at HK ⊢
      clear h20 h14
      refine wpList_guard_yes (by rfl) ?_
      have hT := (hB.block w.heap.size (by omega)).trans HE.out
      obtain ⟨k1, k2, k3, k4, k5⟩ := HQ.out _ hT
      clear hT
      go_wp2
      refine HK.out _ _ (Below.refl _ _) ?_
      rfl
    · intro vv W K hB hd HK
      simp only [confRules] at hd HK
      obtain ⟨h19, h21, h18, h14⟩ := hd
      simp only [h19, h21, h18, h14] at HK ⊢
      clear h19 h21 h18 h14
      refine wpList_guard_yes (by rfl) ?_
      go_wp2_with (refine (D2.out _).mono ?_; rintro e w9 ⟨rfl, hB9⟩)
      refine HK.out _ _ hB9 ?_
      rfl
    · intro vv W K hB hd HK
      simp only [confRules] at hd HK
      obtain ⟨h18, h22, h14⟩ := hd
      simp only [h18, h22, h14] at HK ⊢
      clear h18 h22 h14
      refine wpList_guard_yes (by rfl) ?_
      have t := T3.out
      go_wp2
      refine HK.out _ _ (Below.refl _ _) ?_
      first | rfl | exact congrArg Value.bool t | exact congrArg Value.bool (show (!_) = _ by rw [t]; rfl)
    · intro vv W K hB hd HK
      simp only [confRules] at hd HK
      obtain ⟨h14, h23⟩ := hd
      simp only [h14, h23] at HK ⊢
      clear h14 h23
      go_wp2
      refine HK.out _ _ (Below.refl _ _) ?_
      rfl
    · intro vv W K hB hd HK
      simp only [confRules] at hd HK
      obtain ⟨h24, h22⟩ := hd
      simp only [h24, h22] at HK ⊢
      clear h24 h22
      go_wp2
      refine HK.out _ _ (Below.refl _ _) ?_
      rfl
    · intro vv W K hB hd HK
      simp only [confRules] at hd HK
      have h25 := hd
      clear hd
      simp only [h25] at HK ⊢
      clear h25
      refine wpList_guard_yes (by rfl) ?_
      go_wp2
      refine HK.out _ _ (Below.refl _ _) ?_
      rfl
    · intro vv W K hB hd HK
      simp only [confRules] at hd HK
      obtain ⟨h26, h25⟩ := hd
      simp only [h26, h25] at HK ⊢
      clear h26 h25
      refine wpList_guard_yes (by rfl) ?_
      have hT := (hB.block w.heap.size (by omega)).trans HE.out
      obtain ⟨k1, k2, k3, k4, k5⟩ := HQ.out _ hT
      clear hT
      go_wp2
      refine HK.out _ _ (Below.refl _ _) ?_
      rfl
    · intro vv W K hB hd HK
      simp only [confRules] at hd HK
      obtain ⟨h27, h25⟩ := hd
      simp only [h27, h25] at HK ⊢
      clear h27 h25
      refine wpList_guard_yes (by rfl) ?_
      have t := T4.out
      go_wp2
      refine HK.out _ _ (Below.refl _ _) ?_
      first | rfl | exact congrArg Value.bool t | exact congrArg Value.bool (show (!_) = _ by rw [t]; rfl)
    · intro vv W K hB hd HK
      simp only [confRules] at hd HK
      obtain ⟨h25, h28⟩ := hd
      simp only [h25, h28] at HK ⊢
      clear h25 h28
      go_wp2
      refine HK.out _ _ (Below.refl _ _) ?_
      rfl
    · intro vv W K hB hd HK
      simp only [confRules] at hd HK
      obtain ⟨h29, h25⟩ := hd
      simp only [h29, h25] at HK ⊢
      clear h29 h25
      go_wp2
      refine HK.out _ _ (Below.refl _ _) ?_
      rfl
    · intro vv W K hB hd HK
      simp only [confRules] at hd HK
      have h30 := hd
      clear hd
      simp only [h30] at HK ⊢
      clear h30
      refine wpList_guard_yes (by rfl) ?_
      go_wp2
      refine HK.out _ _ (Below.refl _ _) ?_
      rfl
    · intro vv W K hB hd HK
      simp only [confRules] at hd HK
      obtain ⟨h31, h30⟩ := hd
      simp only [h31, h30] at HK ⊢
      clear h31 h30
      refine wpList_guard_yes (by rfl) ?_
      have hT := (hB.block w.heap.size (by omega)).trans HE.out
      obtain ⟨k1, k2, k3, k4, k5⟩ := HQ.out _ hT
      clear hT
      go_wp2
      refine HK.out _ _ (Below.refl _ _) ?_
      rfl
    · intro vv W K hB hd HK
      simp only [confRules] at hd HK
      obtain ⟨h32, h30⟩ := hd
      simp only [h32, h30] at HK ⊢
      clear h32 h30
      refine wpList_guard_yes (by rfl) ?_
      have t := T5.out
      go_wp2
      refine HK.out _ _ (Below.refl _ _) ?_
      first | rfl | exact congrArg Value.bool t | exact congrArg Value.bool (show (!_) = _ by rw [t]; rfl)
    · intro vv W K hB hd HK
      simp only [confRules] at hd HK
      obtain ⟨h30, h33⟩ := hd
      simp only [h30, h33] at HK ⊢
      clear h30 h33
      go_wp2
      refine HK.out _ _ (Below.refl _ _) ?_
      rfl
    · intro vv W K hB hd HK
      simp only [confRules] at hd HK
      obtain ⟨h34, h30⟩ := hd
      simp only [h34, h30] at HK ⊢
      clear h34 h30
      go_wp2
      refine HK.out _ _ (Below.refl _ _) ?_
      rfl
    · intro vv W K hB hd HK
      simp only [confRules] at hd HK
      have h35 := hd
      clear hd
      simp only [h35] at HK ⊢
      clear h35
      refine wpList_guard_yes (by rfl) ?_
      go_wp2
      refine HK.out _ _ (Below.refl _ _) ?_
      rfl
    · intro vv W K hB hd HK
      simp only [confRules] at hd HK
      obtain ⟨h36, h35⟩ := hd
      simp only [h36, h35] at HK ⊢
      clear h36 h35
      refine wpList_guard_yes (by rfl) ?_
      have hT := (hB.block w.heap.size (by omega)).trans HE.out
      obtain ⟨k1, k2, k3, k4, k5⟩ := HQ.out _ hT
      clear hT
      go_wp2
      refine HK.out _ _ (Below.refl _ _) ?_
      rfl
    · intro vv W K hB hd HK
      simp only [confRules] at hd HK
      obtain ⟨h37, h35⟩ := hd
      simp only [h37, h35] at HK ⊢
      clear h37 h35
      refine wpList_guard_yes (by rfl) ?_
      have t := T6.out
      go_wp2
      refine HK.out _ _ (Below.refl _ _) ?_
      first | rfl | exact congrArg Value.bool t | exact congrArg Value.bool (show (!_) = _ by rw [t]; rfl)
    · intro vv W K hB hd HK
      simp only [confRules] at hd HK
      obtain ⟨h35, h38⟩ := hd
      simp only [h35, h38] at HK ⊢
      clear h35 h38
      go_wp2
      refine HK.out _ _ (Below.refl _ _) ?_
      rfl
    · intro vv W K hB hd HK
      simp only [confRules] at hd HK
      obtain ⟨h39, h35⟩ := hd
      simp only [h39, h35] at HK ⊢
      clear h39 h35
      go_wp2
      refine HK.out _ _ (Below.refl _ _) ?_
      rfl
    · intro vv W K hB hd HK
      simp only [confRules] at hd HK
      have h40 := hd
      clear hd
      simp only [h40] at HK ⊢
      clear h40
      refine wpList_guard_yes (by rfl) ?_
      go_wp2
      refine HK.out _ _ (Below.refl _ _) ?_
      rfl
    · intro vv W K hB hd HK
      simp only [confRules] at hd HK
      obtain ⟨h41, h40⟩ := hd
      simp only [h41, h40] at HK ⊢
      clear h41 h40
      refine wpList_guard_yes (by rfl) ?_
      have hT := (hB.block w.heap.size (by omega)).trans HE.out
      obtain ⟨k1, k2, k3, k4, k5⟩ := HQ.out _ hT
      clear hT
      go_wp2
      refine HK.out _ _ (Below.refl _ _) ?_
      rfl
    · intro vv W K hB hd HK
      simp only [confRules] at hd HK
      obtain ⟨h42, h40⟩ := hd
      simp only [h42, h40] at HK ⊢
      clear h42 h40
      refine wpList_guard_yes (by rfl) ?_
      have t := T7.out
      go_wp2
      refine HK.out _ _ (Below.refl _ _) ?_
      first | rfl | exact congrArg Value.bool t | exact congrArg Value.bool (show (!_) = _ by rw [t]; rfl)
    · intro vv W K hB hd HK
      simp only [confRules] at hd HK
      obtain ⟨h40, h43⟩ := hd
      simp only [h40, h43] at HK ⊢
      clear h40 h43
      go_wp2
      refine HK.out _ _ (Below.refl _ _) ?_
      rfl
  case rahend =>
    intro vv W hB hf
    have e44 := hf 44 (by decide)
    simp only [endRules] at e44
    simp only [e44, dropRules]
    clear hf e44
    go_wp2
    go_ret
    exact ⟨rfl, hB0.trans (hB.mono (by omega))⟩
set_option maxRecDepth 100000 in
set_option maxHeartbeats 2000000 in
theorem bright_8 (C D : Array Value) (z m o q s d1 d2 : Int) (w : World)
    (hC : ∀ (W : World), W.heap[w.heap.size]? = some (.cells C 41 (0, 0)) → W.cell? ⟨w.heap.size, 0, none⟩ = some (.int .i64 1) ∧ W.cell? ⟨w.heap.size, 1, none⟩ = some (.int .i64 z) ∧ W.cell? ⟨w.heap.size, 2, none⟩ = some (.int .i64 m) ∧ W.cell? ⟨w.heap.size, 3, none⟩ = some (.int .i64 o) ∧ W.cell? ⟨w.heap.size, 4, none⟩ = some (.int .i64 q) ∧ W.cell? ⟨w.heap.size, 5, none⟩ = some (.int .i64 s))
    (hI : (Try.prog.info? 23).map (·.size) = some D.size)
    (h1 : ∀ W, Calls Try.prog 21 #[.agg D, .int .i64 z, .int .i64 o] W fun e w' => e = .returned (.bool true) ∧ Below W.heap.size W w')
    (h2 : ∀ W, Calls Try.prog 21 #[.agg D, .int .i64 m, .int .i64 o] W fun e w' => e = .returned (.bool true) ∧ Below W.heap.size W w')
    (hd1 : ∀ W, Calls Try.prog 23 #[.agg D, .int .i64 z] W fun e w' => e = .returned (.int .i64 d1) ∧ Below W.heap.size W w') (hd2 : ∀ W, Calls Try.prog 23 #[.agg D, .int .i64 m] W fun e w' => e = .returned (.int .i64 d2) ∧ Below W.heap.size W w') (t3 : (d1 == d2) = false)
    (t4 : decide (1 ≤ q) = true)
    (t5 : decide (q ≤ 281474976710655) = true)
    (t6 : decide (0 ≤ s) = true)
    (t7 : decide (s ≤ 4294967295) = true) :
    Calls Try.prog 33 #[.agg C, .agg D] w fun e w' => e = .returned (.bool true) ∧ Below w.heap.size w w' := by
  obtain ⟨W0, hW0, hB0, hE, hG, hz0⟩ := bright_setup C D w
  obtain ⟨k0, -⟩ := hC _ hE
  have HW0 := Lib.hid hW0
  have HE := Lib.hid hE
  have HG := Lib.hid hG
  have HI := Lib.hid hI
  have HQ := Lib.hid (fun W hh => (hC W hh).2)
  have H1 := Lib.hid h1
  have H2 := Lib.hid h2
  have D1 := Lib.hid hd1
  have D2 := Lib.hid hd2
  have T3 := Lib.hid t3
  have T4 := Lib.hid t4
  have T5 := Lib.hid t5
  have T6 := Lib.hid t6
  have T7 := Lib.hid t7
  clear hW0 hE hG hI hC h1 h2 hd1 hd2 t3 t4 t5 t6 t7
  go_enter Try.func33, Try.ntmps33
  go_upto_region 1 with (fail)
  rw [HW0.out]
  go_wp2
  refine wp_region_conf2 45 [Fact.eq ?rax0, Fact.eq ?rax1, Fact.eq ?rax2, Fact.eq ?rax3, Fact.eq ?rax4, Fact.eq ?rax5, Fact.eq ?rax6, Fact.eq ?rax7, Fact.eq ?rax8, Fact.eq ?rax9, Fact.eq ?rax10, Fact.eq ?rax11, Fact.eq ?rax12, Fact.eq ?rax13, Fact.eq ?rax14, Fact.eq ?rax15, Fact.eq ?rax16, Fact.eq ?rax17, Fact.eq ?rax18, Fact.eq ?rax19, Fact.eq ?rax20, Fact.eq ?rax21, Fact.eq ?rax22, Fact.eq (.bool true), Fact.eq ?rax24, Fact.eq ?rax25, Fact.eq ?rax26, Fact.eq ?rax27, Fact.eq (.bool true), Fact.eq ?rax29, Fact.eq ?rax30, Fact.eq ?rax31, Fact.eq ?rax32, Fact.eq (.bool true), Fact.eq ?rax34, Fact.eq ?rax35, Fact.eq ?rax36, Fact.eq ?rax37, Fact.eq (.bool true), Fact.eq ?rax39, Fact.eq ?rax40, Fact.eq ?rax41, Fact.eq ?rax42, Fact.eq (.bool true), Fact.eq ?rax44] ?raA (by kernel_rfl) (by kernel_rfl) ?rahA ?raho ?rahend
  case rahA =>
    intro vv
    simp only [putRules, Nat.reduceAdd]
    rfl
  case raho =>
    refine ⟨?_, ?_, ?_, ?_, ?_, ?_, ?_, ?_, ?_, ?_, ?_, ?_, ?_, ?_, ?_, ?_, ?_, ?_, ?_, ?_, ?_, ?_, ?_, ?_, ?_, ?_, ?_, ?_, ?_, ?_, ?_, ?_, ?_, ?_, ?_, ?_, ?_, ?_, ?_, ?_, ?_, ?_, ?_, ?_, ?_, trivial⟩
    · intro vv W K hB hd HK
      simp only [confRules] at HK
      clear hd
      have hT := (hB.block (w.heap.size + 1) hz0).trans HG.out
      go_wp2_with (refine wpList_row_on (by rfl) 23 _ rfl (w.heap.size + 1) rfl 23 _ _ _ hT Try.underlying23 rfl HI.out ?_)
      refine HK.out _ _ (Below.refl _ _) ?_
      rfl
    · intro vv W K hB hd HK
      simp only [confRules] at HK
      clear hd
      go_wp2
      refine HK.out _ _ (Below.refl _ _) ?_
      rfl
    · intro vv W K hB hd HK
      simp only [confRules] at hd HK
      have h1 := hd
      clear hd
      simp only [h1] at HK ⊢
      clear h1
      have hT := (hB.block w.heap.size (by omega)).trans HE.out
      obtain ⟨k1, k2, k3, k4, k5⟩ := HQ.out _ hT
      clear hT
      go_wp2
      refine HK.out _ _ (Below.refl _ _) ?_
      rfl
    · intro vv W K hB hd HK
      simp only [confRules] at HK
      clear hd
      go_wp2
      refine HK.out _ _ (Below.refl _ _) ?_
      rfl
    · intro vv W K hB hd HK
      simp only [confRules] at hd HK
      have h3 := hd
      clear hd
      simp only [h3] at HK ⊢
      clear h3
      have hT := (hB.block w.heap.size (by omega)).trans HE.out
      obtain ⟨k1, k2, k3, k4, k5⟩ := HQ.out _ hT
      clear hT
      go_wp2
      refine HK.out _ _ (Below.refl _ _) ?_
      rfl
    · intro vv W K hB hd HK
      simp only [confRules] at hd HK
      obtain ⟨h0, h2, h4⟩ := hd
      simp only [h0, h2, h4] at HK ⊢
      clear h0 h2 h4
      go_wp2_with (refine (H1.out _).mono ?_; rintro e w9 ⟨rfl, hB9⟩)
      refine HK.out _ _ hB9 ?_
      rfl
    · intro vv W K hB hd HK
      simp only [confRules] at hd HK
      obtain ⟨h5, _⟩ := hd
      simp only [h5] at HK ⊢
      clear h5
      go_wp2
      refine HK.out _ _ (Below.refl _ _) ?_
      rfl
    · intro vv W K hB hd HK
      simp only [confRules] at hd HK
      have h6 := hd
      clear hd
      simp only [h6] at HK ⊢
      clear h6
      refine wpList_guard_yes (by rfl) ?_
      have hT := (hB.block (w.heap.size + 1) hz0).trans HG.out
      go_wp2_with (refine wpList_row_on (by rfl) 23 _ rfl (w.heap.size + 1) rfl 23 _ _ _ hT Try.underlying23 rfl HI.out ?_)
      refine HK.out _ _ (Below.refl _ _) ?_
      rfl
    · intro vv W K hB hd HK
      simp only [confRules] at hd HK
      have h6 := hd
      clear hd
      simp only [h6] at HK ⊢
      clear h6
      refine wpList_guard_yes (by rfl) ?_
      go_wp2
      refine HK.out _ _ (Below.refl _ _) ?_
      rfl
    · intro vv W K hB hd HK
      simp only [confRules] at hd HK
      obtain ⟨h8, h6⟩ := hd
      simp only [h8, h6] at HK ⊢
      clear h8 h6
      refine wpList_guard_yes (by rfl) ?_
      have hT := (hB.block w.heap.size (by omega)).trans HE.out
      obtain ⟨k1, k2, k3, k4, k5⟩ := HQ.out _ hT
      clear hT
      go_wp2
      refine HK.out _ _ (Below.refl _ _) ?_
      rfl
    · intro vv W K hB hd HK
      simp only [confRules] at hd HK
      have h6 := hd
      clear hd
      simp only [h6] at HK ⊢
      clear h6
      refine wpList_guard_yes (by rfl) ?_
      go_wp2
      refine HK.out _ _ (Below.refl _ _) ?_
      rfl
    · intro vv W K hB hd HK
      simp only [confRules] at hd HK
      obtain ⟨h10, h6⟩ := hd
      simp only [h10, h6] at HK ⊢
      clear h10 h6
      refine wpList_guard_yes (by rfl) ?_
      have hT := (hB.block w.heap.size (by omega)).trans HE.out
      obtain ⟨k1, k2, k3, k4, k5⟩ := HQ.out _ hT
      clear hT
      go_wp2
      refine HK.out _ _ (Below.refl _ _) ?_
      rfl
    · intro vv W K hB hd HK
      simp only [confRules] at hd HK
      obtain ⟨h7, h9, h11, h6, _⟩ := hd
      simp only [h7, h9, h11, h6] at HK ⊢
      clear h7 h9 h11 h6
      refine wpList_guard_yes (by rfl) ?_
      go_wp2_with (refine (H2.out _).mono ?_; rintro e w9 ⟨rfl, hB9⟩)
      refine HK.out _ _ hB9 ?_
      rfl
    · intro vv W K hB hd HK
      simp only [confRules] at hd HK
      obtain ⟨h6, h12⟩ := hd
      simp only [h6, h12] at HK ⊢
      clear h6 h12
      go_wp2
      refine HK.out _ _ (Below.refl _ _) ?_
      rfl
    · intro vv W K hB hd HK
      simp only [confRules] at hd HK
      obtain ⟨h13, h12⟩ := hd
      simp only [h13, h12] at HK ⊢
      clear h13 h12
      go_wp2
      refine HK.out _ _ (Below.refl _ _) ?_
      rfl
    · intro vv W K hB hd HK
      simp only [confRules] at hd HK
      have h14 := hd
      clear hd
      simp only [h14] at HK ⊢
      clear h14
      refine wpList_guard_yes (by rfl) ?_
      have hT := (hB.block (w.heap.size + 1) hz0).trans HG.out
      go_wp2_with (refine wpList_row_on (by rfl) 23 _ rfl (w.heap.size + 1) rfl 23 _ _ _ hT Try.underlying23 rfl HI.out ?_)
      refine HK.out _ _ (Below.refl _ _) ?_
      rfl
    · intro vv W K hB hd HK
      simp only [confRules] at hd HK
      have h14 := hd
      clear hd
      simp only [h14] at HK ⊢
      clear h14
      refine wpList_guard_yes (by rfl) ?_
      go_wp2
      refine HK.out _ _ (Below.refl _ _) ?_
      rfl
    · intro vv W K hB hd HK
      simp only [confRules] at hd HK
      obtain ⟨h16, h14⟩ := hd
      simp only [h16, h14] at HK ⊢
      clear h16 h14
      refine wpList_guard_yes (by rfl) ?_
      have hT := (hB.block w.heap.size (by omega)).trans HE.out
      obtain ⟨k1, k2, k3, k4, k5⟩ := HQ.out _ hT
      clear hT
      go_wp2
      refine HK.out _ _ (Below.refl _ _) ?_
      rfl
    · intro vv W K hB hd HK
      simp only [confRules] at hd HK
      obtain ⟨h15, h17, h14, _⟩ := hd
      simp only [h15, h17, h14] at HK ⊢
      clear h15 h17 h14
      refine wpList_guard_yes (by rfl) ?_
      go_wp2_with (refine (D1.out _).mono ?_; rintro e w9 ⟨rfl, hB9⟩)
      refine HK.out _ _ hB9 ?_
      rfl
    · intro vv W K hB hd HK
      simp only [confRules] at hd HK
      have h14 := hd
      clear hd
      simp only [h14] at HK ⊢
      clear h14
      refine wpList_guard_yes (by rfl) ?_
      have hT := (hB.block (w.heap.size + 1) hz0).trans HG.out
      go_wp2_with (refine wpList_row_on (by rfl) 23 _ rfl (w.heap.size + 1) rfl 23 _ _ _ hT Try.underlying23 rfl HI.out ?_)
      refine HK.out _ _ (Below.refl _ _) ?_
      rfl
    · intro vv W K hB hd HK
      simp only [confRules] at hd HK
      have h14 := hd
      clear hd
      simp only [h14] at HK ⊢
      clear h14
      refine wpList_guard_yes (by rfl) ?_
      go_wp2
      refine HK.out _ _ (Below.refl _ _) ?_
      rfl
    · intro vv W K hB hd HK
      simp only [confRules] at hd HK
      obtain ⟨h20, h14⟩ := hd
      simp only [h20, h14] at HK ⊢
      clear h20 h14
      refine wpList_guard_yes (by rfl) ?_
      have hT := (hB.block w.heap.size (by omega)).trans HE.out
      obtain ⟨k1, k2, k3, k4, k5⟩ := HQ.out _ hT
      clear hT
      go_wp2
      refine HK.out _ _ (Below.refl _ _) ?_
      rfl
    · intro vv W K hB hd HK
      simp only [confRules] at hd HK
      obtain ⟨h19, h21, h18, h14⟩ := hd
      simp only [h19, h21, h18, h14] at HK ⊢
      clear h19 h21 h18 h14
      refine wpList_guard_yes (by rfl) ?_
      go_wp2_with (refine (D2.out _).mono ?_; rintro e w9 ⟨rfl, hB9⟩)
      refine HK.out _ _ hB9 ?_
      rfl
    · intro vv W K hB hd HK
      simp only [confRules] at hd HK
      obtain ⟨h18, h22, h14⟩ := hd
      simp only [h18, h22, h14] at HK ⊢
      clear h18 h22 h14
      refine wpList_guard_yes (by rfl) ?_
      have t := T3.out
      go_wp2
      refine HK.out _ _ (Below.refl _ _) ?_
      first | rfl | exact congrArg Value.bool t | exact congrArg Value.bool (show (!_) = _ by rw [t]; rfl)
    · intro vv W K hB hd HK
      simp only [confRules] at hd HK
      obtain ⟨h14, h23⟩ := hd
      simp only [h14, h23] at HK ⊢
      clear h14 h23
      go_wp2
      refine HK.out _ _ (Below.refl _ _) ?_
      rfl
    · intro vv W K hB hd HK
      simp only [confRules] at hd HK
      obtain ⟨h24, h22⟩ := hd
      simp only [h24, h22] at HK ⊢
      clear h24 h22
      go_wp2
      refine HK.out _ _ (Below.refl _ _) ?_
      rfl
    · intro vv W K hB hd HK
      simp only [confRules] at hd HK
      have h25 := hd
      clear hd
      simp only [h25] at HK ⊢
      clear h25
      refine wpList_guard_yes (by rfl) ?_
      go_wp2
      refine HK.out _ _ (Below.refl _ _) ?_
      rfl
    · intro vv W K hB hd HK
      simp only [confRules] at hd HK
      obtain ⟨h26, h25⟩ := hd
      simp only [h26, h25] at HK ⊢
      clear h26 h25
      refine wpList_guard_yes (by rfl) ?_
      have hT := (hB.block w.heap.size (by omega)).trans HE.out
      obtain ⟨k1, k2, k3, k4, k5⟩ := HQ.out _ hT
      clear hT
      go_wp2
      refine HK.out _ _ (Below.refl _ _) ?_
      rfl
    · intro vv W K hB hd HK
      simp only [confRules] at hd HK
      obtain ⟨h27, h25⟩ := hd
      simp only [h27, h25] at HK ⊢
      clear h27 h25
      refine wpList_guard_yes (by rfl) ?_
      have t := T4.out
      go_wp2
      refine HK.out _ _ (Below.refl _ _) ?_
      first | rfl | exact congrArg Value.bool t | exact congrArg Value.bool (show (!_) = _ by rw [t]; rfl)
    · intro vv W K hB hd HK
      simp only [confRules] at hd HK
      obtain ⟨h25, h28⟩ := hd
      simp only [h25, h28] at HK ⊢
      clear h25 h28
      go_wp2
      refine HK.out _ _ (Below.refl _ _) ?_
      rfl
    · intro vv W K hB hd HK
      simp only [confRules] at hd HK
      obtain ⟨h29, h25⟩ := hd
      simp only [h29, h25] at HK ⊢
      clear h29 h25
      go_wp2
      refine HK.out _ _ (Below.refl _ _) ?_
      rfl
    · intro vv W K hB hd HK
      simp only [confRules] at hd HK
      have h30 := hd
      clear hd
      simp only [h30] at HK ⊢
      clear h30
      refine wpList_guard_yes (by rfl) ?_
      go_wp2
      refine HK.out _ _ (Below.refl _ _) ?_
      rfl
    · intro vv W K hB hd HK
      simp only [confRules] at hd HK
      obtain ⟨h31, h30⟩ := hd
      simp only [h31, h30] at HK ⊢
      clear h31 h30
      refine wpList_guard_yes (by rfl) ?_
      have hT := (hB.block w.heap.size (by omega)).trans HE.out
      obtain ⟨k1, k2, k3, k4, k5⟩ := HQ.out _ hT
      clear hT
      go_wp2
      refine HK.out _ _ (Below.refl _ _) ?_
      rfl
    · intro vv W K hB hd HK
      simp only [confRules] at hd HK
      obtain ⟨h32, h30⟩ := hd
      simp only [h32, h30] at HK ⊢
      clear h32 h30
      refine wpList_guard_yes (by rfl) ?_
      have t := T5.out
      go_wp2
      refine HK.out _ _ (Below.refl _ _) ?_
      first | rfl | exact congrArg Value.bool t | exact congrArg Value.bool (show (!_) = _ by rw [t]; rfl)
    · intro vv W K hB hd HK
      simp only [confRules] at hd HK
      obtain ⟨h30, h33⟩ := hd
      simp only [h30, h33] at HK ⊢
      clear h30 h33
      go_wp2
      refine HK.out _ _ (Below.refl _ _) ?_
      rfl
    · intro vv W K hB hd HK
      simp only [confRules] at hd HK
      obtain ⟨h34, h30⟩ := hd
      simp only [h34, h30] at HK ⊢
      clear h34 h30
      go_wp2
      refine HK.out _ _ (Below.refl _ _) ?_
      rfl
    · intro vv W K hB hd HK
      simp only [confRules] at hd HK
      have h35 := hd
      clear hd
      simp only [h35] at HK ⊢
      clear h35
      refine wpList_guard_yes (by rfl) ?_
      go_wp2
      refine HK.out _ _ (Below.refl _ _) ?_
      rfl
    · intro vv W K hB hd HK
      simp only [confRules] at hd HK
      obtain ⟨h36, h35⟩ := hd
      simp only [h36, h35] at HK ⊢
      clear h36 h35
      refine wpList_guard_yes (by rfl) ?_
      have hT := (hB.block w.heap.size (by omega)).trans HE.out
      obtain ⟨k1, k2, k3, k4, k5⟩ := HQ.out _ hT
      clear hT
      go_wp2
      refine HK.out _ _ (Below.refl _ _) ?_
      rfl
    · intro vv W K hB hd HK
      simp only [confRules] at hd HK
      obtain ⟨h37, h35⟩ := hd
      simp only [h37, h35] at HK ⊢
      clear h37 h35
      refine wpList_guard_yes (by rfl) ?_
      have t := T6.out
      go_wp2
      refine HK.out _ _ (Below.refl _ _) ?_
      first | rfl | exact congrArg Value.bool t | exact congrArg Value.bool (show (!_) = _ by rw [t]; rfl)
    · intro vv W K hB hd HK
      simp only [confRules] at hd HK
      obtain ⟨h35, h38⟩ := hd
      simp only [h35, h38] at HK ⊢
      clear h35 h38
      go_wp2
      refine HK.out _ _ (Below.refl _ _) ?_
      rfl
    · intro vv W K hB hd HK
      simp only [confRules] at hd HK
      obtain ⟨h39, h35⟩ := hd
      simp only [h39, h35] at HK ⊢
      clear h39 h35
      go_wp2
      refine HK.out _ _ (Below.refl _ _) ?_
      rfl
    · intro vv W K hB hd HK
      simp only [confRules] at hd HK
      have h40 := hd
      clear hd
      simp only [h40] at HK ⊢
      clear h40
      refine wpList_guard_yes (by rfl) ?_
      go_wp2
      refine HK.out _ _ (Below.refl _ _) ?_
      rfl
    · intro vv W K hB hd HK
      simp only [confRules] at hd HK
      obtain ⟨h41, h40⟩ := hd
      simp only [h41, h40] at HK ⊢
      clear h41 h40
      refine wpList_guard_yes (by rfl) ?_
      have hT := (hB.block w.heap.size (by omega)).trans HE.out
      obtain ⟨k1, k2, k3, k4, k5⟩ := HQ.out _ hT
      clear hT
      go_wp2
      refine HK.out _ _ (Below.refl _ _) ?_
      rfl
    · intro vv W K hB hd HK
      simp only [confRules] at hd HK
      obtain ⟨h42, h40⟩ := hd
      simp only [h42, h40] at HK ⊢
      clear h42 h40
      refine wpList_guard_yes (by rfl) ?_
      have t := T7.out
      go_wp2
      refine HK.out _ _ (Below.refl _ _) ?_
      first | rfl | exact congrArg Value.bool t | exact congrArg Value.bool (show (!_) = _ by rw [t]; rfl)
    · intro vv W K hB hd HK
      simp only [confRules] at hd HK
      obtain ⟨h40, h43⟩ := hd
      simp only [h40, h43] at HK ⊢
      clear h40 h43
      go_wp2
      refine HK.out _ _ (Below.refl _ _) ?_
      rfl
  case rahend =>
    intro vv W hB hf
    have e44 := hf 44 (by decide)
    simp only [endRules] at e44
    simp only [e44, dropRules]
    clear hf e44
    go_wp2
    go_ret
    exact ⟨rfl, hB0.trans (hB.mono (by omega))⟩
end Go.Proofs.Yteggijkcdlboeaa
