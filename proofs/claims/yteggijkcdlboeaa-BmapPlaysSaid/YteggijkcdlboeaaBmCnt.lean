/- Proved here: the contract of the map's count. -/
import Derived.Test.YteggijkcdlboeaaBmGet
import Derived.Test.YteggijkcdlboeaaConf2
import Derived.Deep.Cut
namespace Go.Proofs.Yteggijkcdlboeaa
open Go.RowKit Go.Rv
set_option linter.unusedVariables false
theorem BmIs.setLive {w : World} {p le ll ce cl : Nat} {g : Geo.G} {es : List BE} {lv : List Int} (h : BmIs w p le ll ce cl g es lv) {k : Nat} (hk : k < lv.length) (v : Int) :
    BmIs (w.setCell ⟨ll, k, none⟩ (.int .i64 v)) p le ll ce cl g es (lv.set k v) := by
  obtain ⟨hn1, hn2, hn3⟩ := h.ne
  have hO := (Only.refl [ll] w).setCell (p := ⟨ll, k, none⟩) (.inl (by simp)) (.int .i64 v)
  obtain ⟨L, hL, hL2⟩ := h.he
  obtain ⟨V, hV, hV2⟩ := h.hl
  have hlen : (lv.set k v).length = lv.length := List.length_set
  refine ⟨?_, ⟨L, hO.get hL (by simpa using hn3), hL2⟩, ⟨V.setIfInBounds k (.int .i64 v), heap_setCell_same _ _ _ _ _ _ hV, ?_⟩, h.h1, by rw [hlen]; exact h.h2⟩
  · rw [hlen]
    exact hO.get h.hp (by simpa using hn2)
  · rw [hlen, Array.toList_setIfInBounds, List.take_set, hV2, List.map_set]
set_option maxRecDepth 100000 in
set_option maxHeartbeats 2000000 in
theorem bcnt_no (w : World) (p : Nat) (e : BE) (by' : Int) (he : (e.st == 1) = false) :
    Calls Try.prog 39 #[.pointer (some ⟨p, 0, none⟩), .agg (BEC e), .int .i64 by'] w fun x w' => (∃ v, x = .returned v) ∧ Below w.heap.size w w' := by
  have hal := (Below.refl w.heap.size w).alloc (Nat.le_refl _) (.cells (BEC e) 41)
  have hc : (w.alloc (.cells (BEC e) 41)).cell? ⟨w.heap.size, 0, none⟩ = some (.int .i64 e.st) := (cell_of_row _ _ _ _ _ _ (heap_alloc_new w _)).trans rfl
  generalize BEC e = C at *
  go_enter Try.func39, Try.ntmps39
  go_wp2
  go_end0
  exact ⟨⟨_, rfl⟩, hal⟩
set_option maxRecDepth 100000 in
set_option maxHeartbeats 2000000 in
theorem bcnt_yes (w : World) (p le ll ce cl : Nat) (g : Geo.G) (es : List BE) (lv : List Int) (h : BmIs w p le ll ce cl g es lv) (z m : Nat) (o q s by' x y : Int)
    (hx : lv[z]? = some x) (hy : (lv.set z (x + by'))[m]? = some y) (hb : -1 ≤ by' ∧ by' ≤ 1) (hxb : -100000 ≤ x ∧ x ≤ 100000) (hyb : -100000 ≤ y ∧ y ≤ 100000) (hn : lv.length ≤ 100000) :
    Calls Try.prog 39 #[.pointer (some ⟨p, 0, none⟩), .agg (BEC ⟨1, z, m, o, q, s⟩), .int .i64 by'] w fun e w' => (∃ v, e = .returned v) ∧ BmIs w' p le ll ce cl g es ((lv.set z (x + by')).set m (y + by')) ∧ Only [ll] w w' := by
  obtain ⟨C, hC⟩ : ∃ C, BEC ⟨1, z, m, o, q, s⟩ = C := ⟨_, rfl⟩
  have hal := (Below.refl w.heap.size w).alloc (Nat.le_refl _) (.cells C 41)
  have hnew := heap_alloc_new w (.cells C 41)
  obtain ⟨W1, hW1⟩ : ∃ W1, w.alloc (.cells C 41) = W1 := ⟨_, rfl⟩
  rw [hW1] at hal hnew
  have hq0 : ∀ W : World, W.heap[w.heap.size]? = some (.cells C 41 (0, 0)) → W.cell? ⟨w.heap.size, 0, none⟩ = some (.int .i64 1) ∧ W.cell? ⟨w.heap.size, 1, none⟩ = some (.int .i64 (z : Nat)) ∧ W.cell? ⟨w.heap.size, 2, none⟩ = some (.int .i64 (m : Nat)) := fun W hh => by
    rw [← hC] at hh
    exact ⟨(cell_of_row _ _ _ _ _ _ hh).trans rfl, (cell_of_row _ _ _ _ _ _ hh).trans rfl, (cell_of_row _ _ _ _ _ _ hh).trans rfl⟩
  have HQ0 := Lib.hid hq0
  have hB1 := h.below hal
  have hzl : z < lv.length := (List.getElem?_eq_some_iff.1 hx).1
  have hml : m < lv.length := by have := (List.getElem?_eq_some_iff.1 hy).1; rwa [List.length_set] at this
  have hlt := h.lt
  have HW1 := Lib.hid hW1
  have HC := Lib.hid hC
  have hOW : Only [ll] w W1 := Only.of_below hal
  have hcl := h.h2
  have HB1 := Lib.hid hB1
  have HX := Lib.hid hx
  have HY := Lib.hid hy
  have HNW := Lib.hid hnew
  have hzs := (Array.getElem?_eq_some_iff.1 hnew).1
  obtain ⟨k0, k1, k2⟩ := hq0 _ hnew
  clear hW1 hC hq0 h hB1 hx hy hnew hal
  rw [HC.out]
  go_enter Try.func39, Try.ntmps39
  go_upto_region 1 with (fail)
  rw [HW1.out]
  go_wp2
  refine wp_region_conf2 11 [Fact.eq ?rax0, Fact.eq ?rax1, Fact.eq ?rax2, Fact.eq ?rax3, Fact.eq ?rax4, Fact.eq ?rax5, Fact.eq ?rax6, Fact.eq ?rax7, Fact.eq ?rax8, Fact.eq ?rax9, Fact.eq ?rax10] ?raA (by kernel_rfl) (by kernel_rfl) ?rahA ?raho ?rahend
  case rahA =>
    intro vv
    simp only [putRules, Nat.reduceAdd]
    rfl
  case raho =>
    refine ⟨?_, ?_, ?_, ?_, ?_, ?_, ?_, ?_, ?_, ?_, ?_, trivial⟩
    · intro vv W K hB hd HK
      simp only [confRules] at HK
      clear hd
      go_wp2
      refine HK.out _ _ (Below.refl _ _) ?_
      rfl
    · intro vv W K hB hd HK
      simp only [confRules] at hd HK
      have h0 := hd
      clear hd
      simp only [h0] at HK ⊢
      clear h0
      go_wp2
      refine HK.out _ _ (Below.refl _ _) ?_
      rfl
    · intro vv W K hB hd HK
      simp only [confRules] at hd HK
      have h1 := hd
      clear hd
      simp only [h1] at HK ⊢
      clear h1
      go_wp2
      refine HK.out _ _ (Below.refl _ _) ?_
      rfl
    · intro vv W K hB hd HK
      simp only [confRules] at hd HK
      have h2 := hd
      clear hd
      simp only [h2] at HK ⊢
      clear h2
      have hbA := HB1.out.below hB
      obtain ⟨c6, c7⟩ := hbA.cells
      go_wp2
      refine HK.out _ _ (Below.refl _ _) ?_
      rfl
    · intro vv W K hB hd HK
      simp only [confRules] at HK
      clear hd
      go_wp2
      refine HK.out _ _ (Below.refl _ _) ?_
      rfl
    · intro vv W K hB hd HK
      simp only [confRules] at hd HK
      have h4 := hd
      clear hd
      simp only [h4] at HK ⊢
      clear h4
      have hT := (hB.block w.heap.size hzs).trans HNW.out
      obtain ⟨k0, k1, k2⟩ := HQ0.out _ hT
      clear hT
      go_wp2
      refine HK.out _ _ (Below.refl _ _) ?_
      rfl
    · intro vv W K hB hd HK
      simp only [confRules] at hd HK
      obtain ⟨h3, h5⟩ := hd
      simp only [h3, h5] at HK ⊢
      clear h3 h5
      go_wp2
      refine HK.out _ _ (Below.refl _ _) ?_
      rfl
    · intro vv W K hB hd HK
      simp only [confRules] at hd HK
      have h6 := hd
      clear hd
      simp only [h6] at HK ⊢
      clear h6
      have hbA := HB1.out.below hB
      obtain ⟨c8, -⟩ := hbA.live HX.out
      go_wp2
      refine HK.out _ _ (Below.refl _ _) ?_
      rfl
    · intro vv W K hB hd HK
      simp only [confRules] at HK
      clear hd
      go_wp2
      refine HK.out _ _ (Below.refl _ _) ?_
      rfl
    · intro vv W K hB hd HK
      simp only [confRules] at hd HK
      obtain ⟨h7, h8⟩ := hd
      simp only [h7, h8] at HK ⊢
      clear h7 h8
      go_wp2
      refine HK.out _ _ (Below.refl _ _) ?_
      rfl
    · intro vv W K hB hd HK
      simp only [confRules] at hd HK
      obtain ⟨h3, h5, h0, h1, h2, _, h4, _, h6, h7, h8, h9⟩ := hd
      simp only [h3, h5, h0, h1, h2, h4, h6, h7, h8, h9] at HK ⊢
      clear h3 h5 h0 h1 h2 h4 h6 h7 h8 h9
      go_wp2
      refine HK.out _ _ (Below.refl _ _) ?_
      rfl
  case rahend =>
    intro vv W hB hf
    have e9 := hf 9 (by decide)
    have e10 := hf 10 (by decide)
    simp only [endRules] at e9 e10
    simp only [e9, e10, dropRules]
    clear hf e9 e10
    have hbA := HB1.out.below hB
    obtain ⟨c7, cf7⟩ := hbA.live HX.out
    have hO2 : Only [ll] w W := hOW.trans (Only.of_below hB)
    have hbS := hbA.setLive hzl (x + by')
    have hnS := ((Only.refl [ll] W).setCell (p := ⟨ll, z, none⟩) (.inl (by simp)) (.int .i64 (x + by'))).get ((hB.block w.heap.size hzs).trans HNW.out) (by simp; omega)
    have hO3 := hO2.setCell (p := ⟨ll, z, none⟩) (.inl (by simp)) (.int .i64 (x + by'))
    obtain ⟨W2, hW2⟩ : ∃ W2, W.setCell ⟨ll, z, none⟩ (.int .i64 (x + by')) = W2 := ⟨_, rfl⟩
    rw [hW2] at hbS hnS hO3
    have HW2 := Lib.hid hW2
    have HBS := Lib.hid hbS
    have HNS := Lib.hid hnS
    have hzs2 := (Array.getElem?_eq_some_iff.1 hnS).1
    clear hW2 hbA hbS hnS hO2 hB
    go_upto_region 3 with (fail)
    rw [HW2.out]
    clear c7 cf7
    refine wp_region_conf2 11 [Fact.eq ?rbx0, Fact.eq ?rbx1, Fact.eq ?rbx2, Fact.eq ?rbx3, Fact.eq ?rbx4, Fact.eq ?rbx5, Fact.eq ?rbx6, Fact.eq ?rbx7, Fact.eq ?rbx8, Fact.eq ?rbx9, Fact.eq ?rbx10] ?rbA (by kernel_rfl) (by kernel_rfl) ?rbhA ?rbho ?rbhend
    case rbhA =>
      intro vv
      simp only [putRules, Nat.reduceAdd]
      rfl
    case rbho =>
      refine ⟨?_, ?_, ?_, ?_, ?_, ?_, ?_, ?_, ?_, ?_, ?_, trivial⟩
      · intro vv W K hB hd HK
        simp only [confRules] at HK
        clear hd
        go_wp2
        refine HK.out _ _ (Below.refl _ _) ?_
        rfl
      · intro vv W K hB hd HK
        simp only [confRules] at hd HK
        have h0 := hd
        clear hd
        simp only [h0] at HK ⊢
        clear h0
        go_wp2
        refine HK.out _ _ (Below.refl _ _) ?_
        rfl
      · intro vv W K hB hd HK
        simp only [confRules] at hd HK
        have h1 := hd
        clear hd
        simp only [h1] at HK ⊢
        clear h1
        go_wp2
        refine HK.out _ _ (Below.refl _ _) ?_
        rfl
      · intro vv W K hB hd HK
        simp only [confRules] at hd HK
        have h2 := hd
        clear hd
        simp only [h2] at HK ⊢
        clear h2
        have hbA := HBS.out.below hB
        obtain ⟨c6, c7⟩ := hbA.cells
        go_wp2
        refine HK.out _ _ (Below.refl _ _) ?_
        rfl
      · intro vv W K hB hd HK
        simp only [confRules] at HK
        clear hd
        go_wp2
        refine HK.out _ _ (Below.refl _ _) ?_
        rfl
      · intro vv W K hB hd HK
        simp only [confRules] at hd HK
        have h4 := hd
        clear hd
        simp only [h4] at HK ⊢
        clear h4
        have hT := (hB.block w.heap.size hzs2).trans HNS.out
        obtain ⟨k0, k1, k2⟩ := HQ0.out _ hT
        clear hT
        go_wp2
        refine HK.out _ _ (Below.refl _ _) ?_
        rfl
      · intro vv W K hB hd HK
        simp only [confRules] at hd HK
        obtain ⟨h3, h5⟩ := hd
        simp only [h3, h5] at HK ⊢
        clear h3 h5
        go_wp2
        refine HK.out _ _ (Below.refl _ _) ?_
        rfl
      · intro vv W K hB hd HK
        simp only [confRules] at hd HK
        have h6 := hd
        clear hd
        simp only [h6] at HK ⊢
        clear h6
        have hbA := HBS.out.below hB
        obtain ⟨c8, -⟩ := hbA.live HY.out
        go_wp2
        refine HK.out _ _ (Below.refl _ _) ?_
        rfl
      · intro vv W K hB hd HK
        simp only [confRules] at HK
        clear hd
        go_wp2
        refine HK.out _ _ (Below.refl _ _) ?_
        rfl
      · intro vv W K hB hd HK
        simp only [confRules] at hd HK
        obtain ⟨h7, h8⟩ := hd
        simp only [h7, h8] at HK ⊢
        clear h7 h8
        go_wp2
        refine HK.out _ _ (Below.refl _ _) ?_
        rfl
      · intro vv W K hB hd HK
        simp only [confRules] at hd HK
        obtain ⟨h3, h5, h0, h1, h2, _, h4, _, h6, h7, h8, h9⟩ := hd
        simp only [h3, h5, h0, h1, h2, h4, h6, h7, h8, h9] at HK ⊢
        clear h3 h5 h0 h1 h2 h4 h6 h7 h8 h9
        go_wp2
        refine HK.out _ _ (Below.refl _ _) ?_
        rfl
    case rbhend =>
      intro vv W hB hf
      have e9 := hf 9 (by decide)
      have e10 := hf 10 (by decide)
      simp only [endRules] at e9 e10
      simp only [e9, e10, dropRules]
      clear hf e9 e10
      have hbA := HBS.out.below hB
      obtain ⟨c7, cf7⟩ := hbA.live HY.out
      have hbT := hbA.setLive (by rw [List.length_set]; exact hml) (y + by')
      have hO4 := (hO3.trans (Only.of_below hB)).setCell (p := ⟨ll, m, none⟩) (.inl (by simp)) (.int .i64 (y + by'))
      have HBT := Lib.hid hbT
      clear hbT hbA
      go_wp2
      go_end0
      exact ⟨⟨_, rfl⟩, HBT.out, hO4⟩
end Go.Proofs.Yteggijkcdlboeaa
