/- Proved here: the contract of the map's New. -/
import Derived.Test.YteggijkcdlboeaaBmSetAny
namespace Go.Rv
open Go.RowKit
/-- a fact with the blocks that it names -/
def Fact.of (Q : Value → World → Prop) (h : ∀ u w w', Q u w → Below w.heap.size w w' → Q u w') : Fact := ⟨Q, h⟩
end Go.Rv
namespace Go.Proofs.Yteggijkcdlboeaa
open Go.RowKit Go.Rv
set_option linter.unusedVariables false
def NewRow (B : Nat) (t : TypeId) (C : Array Value) (n : Nat) (u : Value) (w : World) : Prop := ∃ b, u = .slice (some ⟨b, 0, none⟩) n n ∧ B ≤ b ∧ w.heap[b]? = some (.cells C t (0, 0))
theorem NewRow.st (B : Nat) (t : TypeId) (C : Array Value) (n : Nat) (u : Value) (w w' : World) (h : NewRow B t C n u w) (hB : Below w.heap.size w w') : NewRow B t C n u w' := by
  obtain ⟨b, e, hge, hb⟩ := h
  exact ⟨b, e, hge, (hB.block b (Array.getElem?_eq_some_iff.1 hb).1).trans hb⟩
def NewMap (B : Nat) (g : Geo.G) (E L : Array Value) (n m : Nat) (u : Value) (w : World) : Prop := ∃ b c, u = .agg (mapC g b n n c m m) ∧ (B ≤ b ∧ B ≤ c) ∧ w.heap[b]? = some (.cells E 41 (0, 0)) ∧ w.heap[c]? = some (.cells L 3 (0, 0))
theorem NewMap.st (B : Nat) (g : Geo.G) (E L : Array Value) (n m : Nat) (u : Value) (w w' : World) (h : NewMap B g E L n m u w) (hB : Below w.heap.size w w') : NewMap B g E L n m u w' := by
  obtain ⟨b, c, e, hge, hb, hc⟩ := h
  exact ⟨b, c, e, hge, (hB.block b (Array.getElem?_eq_some_iff.1 hb).1).trans hb, (hB.block c (Array.getElem?_eq_some_iff.1 hc).1).trans hc⟩
def NewPtr (B : Nat) (g : Geo.G) (E L : Array Value) (n m : Nat) (u : Value) (w : World) : Prop := ∃ p b c, u = .pointer (some ⟨p, 0, none⟩) ∧ (B ≤ p ∧ B ≤ b ∧ B ≤ c) ∧ w.heap[p]? = some (.cells (mapC g b n n c m m) 62 (0, 0)) ∧ w.heap[b]? = some (.cells E 41 (0, 0)) ∧ w.heap[c]? = some (.cells L 3 (0, 0))
theorem NewPtr.st (B : Nat) (g : Geo.G) (E L : Array Value) (n m : Nat) (u : Value) (w w' : World) (h : NewPtr B g E L n m u w) (hB : Below w.heap.size w w') : NewPtr B g E L n m u w' := by
  obtain ⟨p, b, c, e, hge, hp, hb, hc⟩ := h
  exact ⟨p, b, c, e, hge, (hB.block p (Array.getElem?_eq_some_iff.1 hp).1).trans hp, (hB.block b (Array.getElem?_eq_some_iff.1 hb).1).trans hb, (hB.block c (Array.getElem?_eq_some_iff.1 hc).1).trans hc⟩
theorem newRules : (∀ B t C n u w, (Fact.of (NewRow B t C n) (NewRow.st B t C n)).p u w = NewRow B t C n u w) ∧ (∀ B g E L n m u w, (Fact.of (NewMap B g E L n m) (NewMap.st B g E L n m)).p u w = NewMap B g E L n m u w) ∧ (∀ B g E L n m u w, (Fact.of (NewPtr B g E L n m) (NewPtr.st B g E L n m)).p u w = NewPtr B g E L n m u w) :=
  ⟨fun _ _ _ _ _ _ => rfl, fun _ _ _ _ _ _ _ _ => rfl, fun _ _ _ _ _ _ _ _ => rfl⟩
theorem bec_zero_at : ∀ j, j < 6 → (BEC BE.zero)[j]! = .int .i64 0
  | 0, _ => rfl
  | 1, _ => rfl
  | 2, _ => rfl
  | 3, _ => rfl
  | 4, _ => rfl
  | 5, _ => rfl
  | n + 6, h => by omega
theorem flat_zero (n : Nat) : flatE (List.replicate n BE.zero) = List.replicate (n * 6) (.int .i64 0) := by
  induction n with
  | zero => rfl
  | succ n ih =>
    rw [List.replicate_succ]
    show (BEC BE.zero).toList ++ flatE (List.replicate n BE.zero) = _
    rw [ih, show (n + 1) * 6 = 6 + n * 6 by omega, ← List.replicate_append_replicate]
    rfl
theorem made_ents (n : Nat) : (madeCells (BEC BE.zero) (n * 6)).toList = flatE (List.replicate n BE.zero) := by
  rw [flat_zero, List.eq_replicate_iff]
  refine ⟨by simp [madeCells], fun v hv => ?_⟩
  simp only [madeCells, Array.toList_map, List.mem_map] at hv
  obtain ⟨x, -, rfl⟩ := hv
  exact bec_zero_at _ (Nat.mod_lt _ (by simp [BEC]))
theorem made_ints (n : Nat) : (madeCells #[.int .i64 0] n).toList = List.replicate n (.int .i64 0) := by
  rw [List.eq_replicate_iff]
  refine ⟨by simp [madeCells], fun v hv => ?_⟩
  simp only [madeCells, Array.toList_map, List.mem_map] at hv
  obtain ⟨x, -, rfl⟩ := hv
  simp [Nat.mod_one]
theorem live_zero (n b : Nat) : liveL n (List.replicate b BE.zero) = List.replicate n 0 := by
  apply List.ext_getElem?
  intro i
  by_cases h : i < n
  · rw [liveL_at h]
    have : liveN (List.replicate b BE.zero) i = 0 := by
      unfold liveN
      rw [List.filter_eq_nil_iff.2]
      · rfl
      · intro x hx
        rw [(List.mem_replicate.1 hx).2]
        simp [hits, BE.zero]
    rw [this]
    simp [h]
  · rw [List.getElem?_eq_none (by rw [liveL_length]; omega), List.getElem?_eq_none (by simp; omega)]
theorem mk_ents (n : Nat) (hn : n ≤ 1000) (w : World) : (Instr.makeSlice 46 (.int .i64 (n : Nat)) (.int .i64 (n : Nat))).run Try.prog w = .ok (.slice (some ⟨w.heap.size, 0, none⟩) n n) (w.alloc (.cells (madeCells (BEC BE.zero) (n * 6)) 41)) := by
  have hinfo : (Try.prog.info? 41).map (fun i => (i.zero, i.size, i.bytes)) = some (some (.agg (BEC BE.zero)), 6, 48) := by kernel_rfl
  obtain ⟨i, hi, hz, hs, hb⟩ := info_parts hinfo
  have := run_make (P := Try.prog) w 46 41 i (.agg (BEC BE.zero)) Try.underlying46 hi hz .i64 .i64 (n : Nat) (n : Nat) (by omega) (by omega) (by rw [hb]; omega) (by omega)
  rw [hs] at this
  simpa [Value.cells] using this
theorem mk_live (n : Nat) (hn : n ≤ 1000) (w : World) : (Instr.makeSlice 60 (.int .i64 (n : Nat)) (.int .i64 (n : Nat))).run Try.prog w = .ok (.slice (some ⟨w.heap.size, 0, none⟩) n n) (w.alloc (.cells (madeCells #[.int .i64 0] n) 3)) := by
  have hinfo : (Try.prog.info? 3).map (fun i => (i.zero, i.size, i.bytes)) = some (some (.int .i64 0), 1, 8) := by kernel_rfl
  exact run_make_row' 60 3 (.int .i64 0) 8 Try.underlying60 hinfo rfl .i64 .i64 n (by omega) (by omega) w
set_option maxRecDepth 100000 in
set_option maxHeartbeats 2000000 in
theorem bnew_no (g : Geo.G) (hr : Geo.right g = false) (w : World) :
    Calls Try.prog 25 #[.agg (GC g)] w fun x w' => x = .returned (.tuple #[.pointer none, .int .i64 20]) ∧ Below w.heap.size w w' := by
  have HR := Lib.hid (fun W => by have := gright_any g W; rwa [hr] at this)
  have HI := Lib.hid (gsize (g := g))
  have hal := (Below.refl w.heap.size w).alloc (Nat.le_refl _) (.cells (GC g) 23)
  have hnew := heap_alloc_new w (.cells (GC g) 23)
  clear hr
  generalize GC g = C at *
  go_enter Try.func25, Try.ntmps25
  go_wp2_with (refine wpList_row_on (by rfl) 23 _ rfl w.heap.size rfl 23 _ _ _ hnew Try.underlying23 rfl HI.out ?_)
  refine (HR.out _).mono ?_
  rintro e w1 ⟨rfl, hB1⟩
  have hB2 := hal.trans (hB1.mono hal.size)
  go_wp2
  go_ret2
  exact ⟨rfl, hB2⟩
set_option maxRecDepth 100000 in
set_option maxHeartbeats 800000 in
theorem bnew_core (g : Geo.G) (n m : Nat) (hn : n ≤ 1000) (hm : m ≤ 1000) (hbn : g.b = n) (hr : Geo.right g = true) (HAL : ∀ W, Calls Try.prog 13 #[.agg (GC g)] W fun e w' => e = .returned (.int .i64 (m : Nat)) ∧ Below W.heap.size W w') (w : World) :
    Calls Try.prog 25 #[.agg (GC g)] w fun x w' => ∃ p, x = .returned (.tuple #[p, .int .i64 0]) ∧ NewPtr w.heap.size g (madeCells (BEC BE.zero) (n * 6)) (madeCells #[.int .i64 0] m) n m p w' ∧ Below w.heap.size w w' := by
  have HR := Lib.hid (fun W => by have := gright_any g W; rwa [hr] at this)
  have HI := Lib.hid (gsize (g := g))
  have HAL := Lib.hid HAL
  have M1 := Lib.hid (fun W => mk_ents n hn W)
  have M2 := Lib.hid (fun W => mk_live m hm W)
  have hal := (Below.refl w.heap.size w).alloc (Nat.le_refl _) (.cells (GC g) 23)
  have hnew := heap_alloc_new w (.cells (GC g) 23)
  have HCS := Lib.hid (fun (W : World) (b : Nat) (hh : W.heap[b]? = some (.cells (GC g) 23 (0, 0))) => by have := (geo_cells hh).2.2.2.1; rwa [hbn] at this)
  have HMC := Lib.hid (fun b c => (rfl : mapC g b n n c m m = mapC g b n n c m m))
  clear hr hbn
  obtain ⟨W0, hW0⟩ : ∃ W0, w.alloc (.cells (GC g) 23) = W0 := ⟨_, rfl⟩
  rw [hW0] at hal hnew
  have HW0 := Lib.hid hW0
  have z0 := (Array.getElem?_eq_some_iff.1 hnew).1
  clear hW0
  generalize hE : madeCells (BEC BE.zero) (n * 6) = E at *
  generalize hL : madeCells #[.int .i64 0] m = L at *
  clear hE hL
  go_enter Try.func25, Try.ntmps25
  go_upto_region 1 with (fail)
  rw [HW0.out]
  go_wp2_with (refine wpList_row_on (by rfl) 23 _ rfl w.heap.size rfl 23 _ _ _ hnew Try.underlying23 rfl HI.out ?_)
  refine (HR.out _).mono ?_
  rintro e w1 ⟨rfl, hB1⟩
  have hB2 := hal.trans (hB1.mono hal.size)
  have hg1 := (hB1.block w.heap.size z0).trans hnew
  have HG1 := Lib.hid hg1
  have z1 := hB1.size
  clear hal hnew hg1 hB1
  go_wp2
  refine wp_region_conf2 9 [Fact.eq ?rax0, Fact.eq ?rax1, Fact.eq ?rax2, Fact.of (NewRow w.heap.size 41 E n) (NewRow.st w.heap.size 41 E n), Fact.eq ?rax4, Fact.eq ?rax5, Fact.of (NewRow w.heap.size 3 L m) (NewRow.st w.heap.size 3 L m), Fact.of (NewMap w.heap.size g E L n m) (NewMap.st w.heap.size g E L n m), Fact.of (NewPtr w.heap.size g E L n m) (NewPtr.st w.heap.size g E L n m)] ?raA (by kernel_rfl) (by kernel_rfl) ?rahA ?raho ?rahend
  case rahA =>
    intro vv
    simp only [putRules, Nat.reduceAdd]
    rfl
  case raho =>
    refine ⟨?_, ?_, ?_, ?_, ?_, ?_, ?_, ?_, ?_, trivial⟩
    · intro vv W K hB hd HK
      simp only [confRules, newRules] at HK
      clear hd
      have hT := (hB.block w.heap.size (by omega)).trans HG1.out
      go_wp2_with (refine wpList_row_on (by rfl) 23 _ rfl w.heap.size rfl 23 _ _ _ hT Try.underlying23 rfl HI.out ?_)
      refine HK.out _ _ (Below.refl _ _) ?_
      rfl
    · intro vv W K hB hd HK
      simp only [confRules, newRules] at HK
      clear hd
      go_wp2
      refine HK.out _ _ (Below.refl _ _) ?_
      rfl
    · intro vv W K hB hd HK
      simp only [confRules, newRules] at hd HK
      have h1 := hd
      clear hd
      simp only [h1] at HK ⊢
      clear h1
      have hT := (hB.block w.heap.size (by omega)).trans HG1.out
      have k3 := HCS.out _ _ hT
      go_wp2
      refine HK.out _ _ (Below.refl _ _) ?_
      rfl
    · intro vv W K hB hd HK
      simp only [confRules, newRules] at hd HK
      obtain ⟨h2, _⟩ := hd
      simp only [h2] at HK ⊢
      clear h2
      have hmk := M1.out
      go_wp2
      refine HK.out _ _ ((Below.refl _ _).alloc (Nat.le_refl _) _) ?_
      exact ⟨_, rfl, (by have := hB.size; omega), heap_alloc_new _ _⟩
    · intro vv W K hB hd HK
      simp only [confRules, newRules] at HK
      clear hd
      have hT := (hB.block w.heap.size (by omega)).trans HG1.out
      go_wp2_with (refine wpList_row_on (by rfl) 23 _ rfl w.heap.size rfl 23 _ _ _ hT Try.underlying23 rfl HI.out ?_)
      refine HK.out _ _ (Below.refl _ _) ?_
      rfl
    · intro vv W K hB hd HK
      simp only [confRules, newRules] at hd HK
      have h4 := hd
      clear hd
      simp only [h4] at HK ⊢
      clear h4
      go_wp2_with (refine (HAL.out _).mono ?_; rintro e w9 ⟨rfl, hB9⟩)
      refine HK.out _ _ hB9 ?_
      rfl
    · intro vv W K hB hd HK
      simp only [confRules, newRules] at hd HK
      obtain ⟨h5, _⟩ := hd
      simp only [h5] at HK ⊢
      clear h5
      have hmk := M2.out
      go_wp2
      refine HK.out _ _ ((Below.refl _ _).alloc (Nat.le_refl _) _) ?_
      exact ⟨_, rfl, (by have := hB.size; omega), heap_alloc_new _ _⟩
    · intro vv W K hB hd HK
      simp only [confRules, newRules] at hd HK
      obtain ⟨h0, ⟨g3, h3, a3, b3⟩, ⟨g6, h6, a6, b6⟩⟩ := hd
      simp only [h0, h3, h6] at HK ⊢
      clear h0 h3 h6
      unfold GC
      go_wp2
      refine HK.out _ _ (Below.refl _ _) ?_
      exact ⟨_, _, rfl, ⟨a3, a6⟩, b3, b6⟩
    · intro vv W K hB hd HK
      simp only [confRules, newRules] at hd HK
      obtain ⟨q1, q2, h7, ⟨a7, a8⟩, p1, p2⟩ := hd
      simp only [h7] at HK ⊢
      clear h7
      go_wp2
      refine HK.out _ _ ((Below.refl _ _).alloc (Nat.le_refl _) _) ?_
      have hbb := (Below.refl W.heap.size W).alloc (Nat.le_refl _) (.cells (mapC g q1 n n q2 m m) 62)
      exact ⟨_, _, _, rfl, ⟨(by have := hB.size; omega), a7, a8⟩, heap_alloc_new _ _, (hbb.block _ (Array.getElem?_eq_some_iff.1 p1).1).trans p1, (hbb.block _ (Array.getElem?_eq_some_iff.1 p2).1).trans p2⟩
  case rahend =>
    intro vv W hB hf
    have hp := hf 8 (by decide)
    simp only [endRules, newRules] at hp
    simp only [dropRules]
    clear hf
    go_wp2
    go_ret2
    exact ⟨_, rfl, hp, hB2.trans (hB.mono hB2.size)⟩
theorem bnew_any (g : Geo.G) (hr : Geo.right g = true) (w : World) :
    Calls Try.prog 25 #[.agg (GC g)] w fun x w' => ∃ p le ll, x = .returned (.tuple #[.pointer (some ⟨p, 0, none⟩), .int .i64 0]) ∧ BmIs w' p le ll g.b.toNat (nz g) g (List.replicate g.b.toNat BE.zero) (liveL (nz g) (List.replicate g.b.toNat BE.zero)) ∧ w.heap.size ≤ p ∧ w.heap.size ≤ le ∧ w.heap.size ≤ ll ∧ Below w.heap.size w w' := by
  have hs := ((Geo.right_iff g).1 hr).1
  obtain ⟨hb1, hb2⟩ := hs.2.2.2.1
  obtain ⟨hd1, hd2⟩ := Geo.dz_bd hs
  have hnz : ((nz g : Nat) : Int) = g.d * g.z := by unfold nz; omega
  refine (bnew_core g g.b.toNat (nz g) (by omega) (by omega) (by omega) hr (fun W => by rw [hnz]; exact gall_any g W hs) w).mono ?_
  rintro x w' ⟨v, rfl, ⟨p, b, c, rfl, ⟨h1, h2, h3⟩, hp, hb, hc⟩, hB⟩
  refine ⟨p, b, c, rfl, ⟨?_, ⟨_, hb, ?_⟩, ⟨_, hc, ?_⟩, ?_, ?_⟩, h1, h2, h3, hB⟩
  · rw [List.length_replicate, liveL_length]
    exact hp
  · rw [List.length_replicate, made_ents, List.take_of_length_le (by rw [flatE_length, List.length_replicate]; omega)]
  · rw [live_zero, List.length_replicate, made_ints, List.take_of_length_le (by simp), List.map_replicate]
  · rw [List.length_replicate]
    exact ⟨Nat.le_refl _, by omega⟩
  · rw [liveL_length]
    exact ⟨Nat.le_refl _, by omega⟩
theorem mapOk_new (g : Geo.G) (hr : Geo.right g = true) : MapOk g (List.replicate g.b.toNat BE.zero) := by
  have hs := ((Geo.right_iff g).1 hr).1
  obtain ⟨hb1, hb2⟩ := hs.2.2.2.1
  refine ⟨by rw [List.length_replicate]; omega, fun e he => ?_⟩
  rw [(List.mem_replicate.1 he).2]
  exact ⟨zero_right g, rfl, rfl, rfl, rfl, rfl, rfl⟩
end Go.Proofs.Yteggijkcdlboeaa
