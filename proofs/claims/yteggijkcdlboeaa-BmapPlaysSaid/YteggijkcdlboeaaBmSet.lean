/- Proved here: the contract of the map's Set. -/
import Derived.Test.YteggijkcdlboeaaBmMath
namespace Go.Proofs.Yteggijkcdlboeaa
open Go.RowKit Go.Rv
set_option linter.unusedVariables false
theorem flatE_set : ∀ (es : List BE) (k : Nat) (e : BE), k < es.length → flatE (es.set k e) = ((((((flatE es).set (k * 6) (.int .i64 e.st)).set (k * 6 + 1) (.int .i64 e.z)).set (k * 6 + 2) (.int .i64 e.m)).set (k * 6 + 3) (.int .i64 e.o)).set (k * 6 + 4) (.int .i64 e.q)).set (k * 6 + 5) (.int .i64 e.s)
  | [], k, e, h => by simp at h
  | x :: es, 0, e, h => by
    show (BEC e).toList ++ flatE es = _
    simp only [flatE, List.flatMap_cons, BEC]
    rfl
  | x :: es, k + 1, e, h => by
    have ih := flatE_set es k e (by simpa using h)
    have hx : (BEC x).toList = [.int .i64 x.st, .int .i64 x.z, .int .i64 x.m, .int .i64 x.o, .int .i64 x.q, .int .i64 x.s] := rfl
    show (BEC x).toList ++ flatE (es.set k e) = ((((((((BEC x).toList ++ flatE es).set _ _).set _ _).set _ _).set _ _).set _ _).set _ _)
    rw [ih, hx, show (k + 1) * 6 = k * 6 + 6 by omega, show k * 6 + 6 + 1 = k * 6 + 1 + 6 by omega, show k * 6 + 6 + 2 = k * 6 + 2 + 6 by omega, show k * 6 + 6 + 3 = k * 6 + 3 + 6 by omega, show k * 6 + 6 + 4 = k * 6 + 4 + 6 by omega, show k * 6 + 6 + 5 = k * 6 + 5 + 6 by omega]
    rfl
/-- the entry's six cells, stored -/
def putE (w : World) (le k : Nat) (e : BE) : World := (((((w.setCell ⟨le, k * 6, none⟩ (.int .i64 e.st)).setCell ⟨le, k * 6 + 1, none⟩ (.int .i64 e.z)).setCell ⟨le, k * 6 + 2, none⟩ (.int .i64 e.m)).setCell ⟨le, k * 6 + 3, none⟩ (.int .i64 e.o)).setCell ⟨le, k * 6 + 4, none⟩ (.int .i64 e.q)).setCell ⟨le, k * 6 + 5, none⟩ (.int .i64 e.s)
theorem putE_only (w : World) (le k : Nat) (e : BE) : Only [le] w (putE w le k e) :=
  ((((((Only.refl [le] w).setCell (.inl (by simp)) _).setCell (.inl (by simp)) _).setCell (.inl (by simp)) _).setCell (.inl (by simp)) _).setCell (.inl (by simp)) _).setCell (.inl (by simp)) _
theorem BmIs.putE {w : World} {p le ll ce cl : Nat} {g : Geo.G} {es : List BE} {lv : List Int} (h : BmIs w p le ll ce cl g es lv) {k : Nat} (hk : k < es.length) (e : BE) :
    BmIs (putE w le k e) p le ll ce cl g (es.set k e) lv := by
  obtain ⟨hn1, hn2, hn3⟩ := h.ne
  have hO := putE_only w le k e
  obtain ⟨L, hL, hL2⟩ := h.he
  obtain ⟨V, hV, hV2⟩ := h.hl
  have hlen : (es.set k e).length = es.length := List.length_set
  refine ⟨by rw [hlen]; exact hO.get h.hp (by simpa using hn1), ?_, ⟨V, hO.get hV (by simpa using Ne.symm hn3), hV2⟩, by rw [hlen]; exact h.h1, h.h2⟩
  have s1 := heap_setCell_same w le (k * 6) _ _ (.int .i64 e.st) hL
  have s2 := heap_setCell_same _ le (k * 6 + 1) _ _ (.int .i64 e.z) s1
  have s3 := heap_setCell_same _ le (k * 6 + 2) _ _ (.int .i64 e.m) s2
  have s4 := heap_setCell_same _ le (k * 6 + 3) _ _ (.int .i64 e.o) s3
  have s5 := heap_setCell_same _ le (k * 6 + 4) _ _ (.int .i64 e.q) s4
  have s6 := heap_setCell_same _ le (k * 6 + 5) _ _ (.int .i64 e.s) s5
  refine ⟨_, s6, ?_⟩
  rw [hlen, flatE_set es k e hk]
  simp only [Array.toList_setIfInBounds, List.take_set, hL2]
theorem BmIs.ent_free {w : World} {p le ll ce cl : Nat} {g : Geo.G} {es : List BE} {lv : List Int} (h : BmIs w p le ll ce cl g es lv) (j : Nat) : w.frozen? ⟨le, j, none⟩ = false := by
  obtain ⟨L, hL, -⟩ := h.he
  exact frozen_of_row _ _ _ _ _ hL
set_option maxRecDepth 100000 in
set_option maxHeartbeats 2000000 in
theorem bset_out (w : World) (p le ll ce cl : Nat) (g : Geo.G) (es : List BE) (lv : List Int) (h : BmIs w p le ll ce cl g es lv) (k : Int) (e : BE) (hk : k < 0 ∨ (es.length : Int) ≤ k) :
    Calls Try.prog 26 #[.pointer (some ⟨p, 0, none⟩), .int .i64 k, .agg (BEC e)] w fun x w' => x = .returned (.int .i64 13) ∧ Below w.heap.size w w' := by
  have hz := (zero_of_info Try.infoEnt).1
  have hal := (Below.refl w.heap.size w).alloc (Nat.le_refl _) (.cells (BEC e) 41)
  have HG := Lib.hid (bget_out _ p le ll ce cl g es lv (h.below hal) k hk)
  have HIE := Lib.hid (fun e => esize e)
  have HON := Lib.hid (fun e => BEC_one e)
  clear h hk
  generalize BEC e = C at *
  go_enter Try.func26, Try.ntmps26
  go_wp2_with fail
  refine HG.out.mono ?_
  rintro x w1 ⟨rfl, hB1⟩
  have hB2 := hal.trans (hB1.mono hal.size)
  have hB3 := hB2.alloc hB2.size (.cells (BEC BE.zero) 41)
  clear hal hB1
  go_wp2_with (refine wpList_store_row rfl 41 _ _ rfl w1.heap.size (BEC BE.zero) rfl rfl 41 (BEC BE.zero) (heap_alloc_new w1 _) (HIE.out _) rfl (HON.out _) ?_; rw [World.setRow_alloc_new])
  go_ret
  exact ⟨rfl, hB3⟩
set_option maxRecDepth 100000 in
set_option maxHeartbeats 4000000 in
theorem bset_bad (w : World) (p le ll ce cl : Nat) (g : Geo.G) (es : List BE) (lv : List Int) (h : BmIs w p le ll ce cl g es lv) (k : Nat) (e old : BE) (hk : es[k]? = some old) (hn : es.length ≤ 100000) (hrt : ∀ W, Calls Try.prog 33 #[.agg (BEC e), .agg (GC g)] W fun x w' => x = .returned (.bool false) ∧ Below W.heap.size W w') :
    Calls Try.prog 26 #[.pointer (some ⟨p, 0, none⟩), .int .i64 (k : Nat), .agg (BEC e)] w fun x w' => x = .returned (.int .i64 10) ∧ Below w.heap.size w w' := by
  have hz := (zero_of_info Try.infoEnt).1
  have hal := (Below.refl w.heap.size w).alloc (Nat.le_refl _) (.cells (BEC e) 41)
  have hnew := heap_alloc_new w (.cells (BEC e) 41)
  obtain ⟨W0, hW0⟩ : ∃ W0, w.alloc (.cells (BEC e) 41) = W0 := ⟨_, rfl⟩
  rw [hW0] at hal hnew
  have HG := Lib.hid (bget_in _ p le ll ce cl g es lv (h.below hal) k old hk hn)
  have HIE := Lib.hid (fun e => esize e)
  have HON := Lib.hid (fun e => BEC_one e)
  have HW0 := Lib.hid hW0
  have HRT := Lib.hid hrt
  have HB := Lib.hid h
  have hkl0 : k < es.length := (List.getElem?_eq_some_iff.1 hk).1
  have hce := h.h1
  have HKO := Lib.hid hk
  have zW := (Array.getElem?_eq_some_iff.1 hnew).1
  clear hW0 hrt h
  go_enter Try.func26, Try.ntmps26
  go_upto_region 1 with (fail)
  rw [HW0.out]
  go_wp2_with fail
  refine HG.out.mono ?_
  rintro x w1 ⟨rfl, hB1⟩
  have hB2 := hal.trans (hB1.mono hal.size)
  obtain ⟨W2, hW2⟩ : ∃ W2, w1.alloc (.cells (BEC old) 41) = W2 := ⟨_, rfl⟩
  have hbb : Below w1.heap.size w1 W2 := by rw [← hW2]; exact (Below.refl w1.heap.size w1).alloc (Nat.le_refl _) _
  have hO2 : Below w.heap.size w W2 := hB2.trans (hbb.mono hB2.size)
  have hE2 := (hbb.block w.heap.size (by have := hB1.size; omega)).trans ((hB1.block w.heap.size zW).trans hnew)
  have hD2 : W2.heap[w1.heap.size]? = some (.cells (BEC old) 41 (0, 0)) := by rw [← hW2]; exact heap_alloc_new w1 _
  have HW2 := Lib.hid hW2
  have HE2 := Lib.hid hE2
  have HD2 := Lib.hid hD2
  have z2 := (Array.getElem?_eq_some_iff.1 hD2).1
  have z1 := hB1.size
  clear hal hnew hB1 hW2 hE2 hD2 hbb hB2 HG hk
  generalize hC : BEC e = C at *
  have HC := Lib.hid hC
  clear hC
  go_upto_region 2 with (refine wpList_store_row rfl 41 _ _ rfl w1.heap.size (BEC old) rfl rfl 41 (BEC BE.zero) (heap_alloc_new w1 _) (HIE.out _) rfl (HON.out _) ?_; rw [World.setRow_alloc_new])
  rw [HW2.out]
  clear HW2
  go_wp2
  have HIC : Hid ((Try.prog.info? 41).map (·.size) = some C.size) := Lib.hid (by rw [← HC.out]; exact HIE.out _)
  have HRC := HRT
  refine wp_region_conf2 7 [Fact.eq ?rax0, Fact.eq ?rax1, Fact.eq ?rax2, Fact.eq ?rax3, Fact.eq (.agg (GC g)), Fact.eq ?rax5, Fact.eq ?rax6] ?raA (by kernel_rfl) (by kernel_rfl) ?rahA ?raho ?rahend
  case rahA =>
    intro vv
    simp only [putRules, Nat.reduceAdd]
    rfl
  case raho =>
    refine ⟨?_, ?_, ?_, ?_, ?_, ?_, ?_, trivial⟩
    · intro vv W K hB hd HK
      simp only [confRules] at HK
      clear hd
      have hT := (hB.block w.heap.size (by omega)).trans HE2.out
      go_wp2_with (refine wpList_row_on (by rfl) 41 _ rfl w.heap.size rfl 41 _ _ _ hT Try.underlying41 rfl HIC.out ?_)
      refine HK.out _ _ (Below.refl _ _) ?_
      rfl
    · intro vv W K hB hd HK
      simp only [confRules] at HK
      clear hd
      go_wp2
      refine HK.out _ _ (Below.refl _ _) ?_
      rfl
    · intro vv W K hB hd HK
      simp only [confRules] at hd HK
      have h1 := hd
      clear hd
      simp only [h1] at HK ⊢
      clear h1
      go_wp2
      refine HK.out _ _ (Below.refl _ _) ?_
      rfl
    · intro vv W K hB hd HK
      simp only [confRules] at hd HK
      have h2 := hd
      clear hd
      simp only [h2] at HK ⊢
      clear h2
      go_wp2
      refine HK.out _ _ (Below.refl _ _) ?_
      rfl
    · intro vv W K hB hd HK
      simp only [confRules] at hd HK
      have h3 := hd
      clear hd
      simp only [h3] at HK ⊢
      clear h3
      have hbA := HB.out.below (hO2.trans (hB.mono hO2.size))
      obtain ⟨c0, c1, c2, c3, c4, c5⟩ := hbA.geo
      clear hbA
      go_wp2
      refine HK.out _ _ (Below.refl _ _) ?_
      rfl
    · intro vv W K hB hd HK
      simp only [confRules] at hd HK
      obtain ⟨h0, h4⟩ := hd
      simp only [h0, h4] at HK ⊢
      clear h0 h4
      go_wp2_with (refine (HRC.out _).mono ?_; rintro e w9 ⟨rfl, hB9⟩)
      refine HK.out _ _ hB9 ?_
      rfl
    · intro vv W K hB hd HK
      simp only [confRules] at hd HK
      have h5 := hd
      clear hd
      simp only [h5] at HK ⊢
      clear h5
      go_wp2
      refine HK.out _ _ (Below.refl _ _) ?_
      rfl
  case rahend =>
    intro vv W hB hf
    have e6 := hf 6 (by decide)
    simp only [endRules] at e6
    simp only [e6, dropRules]
    clear hf e6
    go_wp2
    go_ret
    exact ⟨rfl, hO2.trans (hB.mono hO2.size)⟩
set_option maxRecDepth 100000 in
set_option maxHeartbeats 4000000 in
theorem bset_ok (w : World) (p le ll ce cl : Nat) (g : Geo.G) (es : List BE) (lv : List Int) (h : BmIs w p le ll ce cl g es lv) (k : Nat) (e old : BE) (hk : es[k]? = some old) (hn : es.length ≤ 100000) (lv1 lv2 : List Int) (hrt : ∀ W, Calls Try.prog 33 #[.agg (BEC e), .agg (GC g)] W fun x w' => x = .returned (.bool true) ∧ Below W.heap.size W w')
    (hc1 : ∀ W, BmIs W p le ll ce cl g es lv → Calls Try.prog 39 #[.pointer (some ⟨p, 0, none⟩), .agg (BEC old), .int .i64 (-1)] W fun x w' => (∃ v, x = .returned v) ∧ BmIs w' p le ll ce cl g es lv1 ∧ Only [ll] W w')
    (hc2 : ∀ W, BmIs W p le ll ce cl g es lv1 → Calls Try.prog 39 #[.pointer (some ⟨p, 0, none⟩), .agg (BEC e), .int .i64 1] W fun x w' => (∃ v, x = .returned v) ∧ BmIs w' p le ll ce cl g es lv2 ∧ Only [ll] W w') :
    Calls Try.prog 26 #[.pointer (some ⟨p, 0, none⟩), .int .i64 (k : Nat), .agg (BEC e)] w fun x w' => x = .returned (.int .i64 0) ∧ BmIs w' p le ll ce cl g (es.set k e) lv2 ∧ Only [le, ll] w w' := by
  have hz := (zero_of_info Try.infoEnt).1
  have hal := (Below.refl w.heap.size w).alloc (Nat.le_refl _) (.cells (BEC e) 41)
  have hnew := heap_alloc_new w (.cells (BEC e) 41)
  obtain ⟨W0, hW0⟩ : ∃ W0, w.alloc (.cells (BEC e) 41) = W0 := ⟨_, rfl⟩
  rw [hW0] at hal hnew
  have HG := Lib.hid (bget_in _ p le ll ce cl g es lv (h.below hal) k old hk hn)
  have HIE := Lib.hid (fun e => esize e)
  have HON := Lib.hid (fun e => BEC_one e)
  have HW0 := Lib.hid hW0
  have HRT := Lib.hid hrt
  have HB := Lib.hid h
  have hkl0 : k < es.length := (List.getElem?_eq_some_iff.1 hk).1
  have hce := h.h1
  have HKO := Lib.hid hk
  have zW := (Array.getElem?_eq_some_iff.1 hnew).1
  clear hW0 hrt h
  go_enter Try.func26, Try.ntmps26
  go_upto_region 1 with (fail)
  rw [HW0.out]
  go_wp2_with fail
  refine HG.out.mono ?_
  rintro x w1 ⟨rfl, hB1⟩
  have hB2 := hal.trans (hB1.mono hal.size)
  obtain ⟨W2, hW2⟩ : ∃ W2, w1.alloc (.cells (BEC old) 41) = W2 := ⟨_, rfl⟩
  have hbb : Below w1.heap.size w1 W2 := by rw [← hW2]; exact (Below.refl w1.heap.size w1).alloc (Nat.le_refl _) _
  have hO2 : Below w.heap.size w W2 := hB2.trans (hbb.mono hB2.size)
  have hE2 := (hbb.block w.heap.size (by have := hB1.size; omega)).trans ((hB1.block w.heap.size zW).trans hnew)
  have hD2 : W2.heap[w1.heap.size]? = some (.cells (BEC old) 41 (0, 0)) := by rw [← hW2]; exact heap_alloc_new w1 _
  have HW2 := Lib.hid hW2
  have HE2 := Lib.hid hE2
  have HD2 := Lib.hid hD2
  have z2 := (Array.getElem?_eq_some_iff.1 hD2).1
  have z1 := hB1.size
  clear hal hnew hB1 hW2 hE2 hD2 hbb hB2 HG hk
  generalize hC : BEC e = C at *
  have HC := Lib.hid hC
  clear hC
  go_upto_region 2 with (refine wpList_store_row rfl 41 _ _ rfl w1.heap.size (BEC old) rfl rfl 41 (BEC BE.zero) (heap_alloc_new w1 _) (HIE.out _) rfl (HON.out _) ?_; rw [World.setRow_alloc_new])
  rw [HW2.out]
  clear HW2
  go_wp2
  have HIC : Hid ((Try.prog.info? 41).map (·.size) = some C.size) := Lib.hid (by rw [← HC.out]; exact HIE.out _)
  have HRC := HRT
  refine wp_region_conf2 7 [Fact.eq ?rax0, Fact.eq ?rax1, Fact.eq ?rax2, Fact.eq ?rax3, Fact.eq (.agg (GC g)), Fact.eq ?rax5, Fact.eq ?rax6] ?raA (by kernel_rfl) (by kernel_rfl) ?rahA ?raho ?rahend
  case rahA =>
    intro vv
    simp only [putRules, Nat.reduceAdd]
    rfl
  case raho =>
    refine ⟨?_, ?_, ?_, ?_, ?_, ?_, ?_, trivial⟩
    · intro vv W K hB hd HK
      simp only [confRules] at HK
      clear hd
      have hT := (hB.block w.heap.size (by omega)).trans HE2.out
      go_wp2_with (refine wpList_row_on (by rfl) 41 _ rfl w.heap.size rfl 41 _ _ _ hT Try.underlying41 rfl HIC.out ?_)
      refine HK.out _ _ (Below.refl _ _) ?_
      rfl
    · intro vv W K hB hd HK
      simp only [confRules] at HK
      clear hd
      go_wp2
      refine HK.out _ _ (Below.refl _ _) ?_
      rfl
    · intro vv W K hB hd HK
      simp only [confRules] at hd HK
      have h1 := hd
      clear hd
      simp only [h1] at HK ⊢
      clear h1
      go_wp2
      refine HK.out _ _ (Below.refl _ _) ?_
      rfl
    · intro vv W K hB hd HK
      simp only [confRules] at hd HK
      have h2 := hd
      clear hd
      simp only [h2] at HK ⊢
      clear h2
      go_wp2
      refine HK.out _ _ (Below.refl _ _) ?_
      rfl
    · intro vv W K hB hd HK
      simp only [confRules] at hd HK
      have h3 := hd
      clear hd
      simp only [h3] at HK ⊢
      clear h3
      have hbA := HB.out.below (hO2.trans (hB.mono hO2.size))
      obtain ⟨c0, c1, c2, c3, c4, c5⟩ := hbA.geo
      clear hbA
      go_wp2
      refine HK.out _ _ (Below.refl _ _) ?_
      rfl
    · intro vv W K hB hd HK
      simp only [confRules] at hd HK
      obtain ⟨h0, h4⟩ := hd
      simp only [h0, h4] at HK ⊢
      clear h0 h4
      go_wp2_with (refine (HRC.out _).mono ?_; rintro e w9 ⟨rfl, hB9⟩)
      refine HK.out _ _ hB9 ?_
      rfl
    · intro vv W K hB hd HK
      simp only [confRules] at hd HK
      have h5 := hd
      clear hd
      simp only [h5] at HK ⊢
      clear h5
      go_wp2
      refine HK.out _ _ (Below.refl _ _) ?_
      rfl
  case rahend =>
    intro vv W hB hf
    have e6 := hf 6 (by decide)
    simp only [endRules] at e6
    simp only [e6, dropRules]
    clear hf e6
    have hb4 := HB.out.below (hO2.trans (hB.mono hO2.size))
    have hOa : Only [le, ll] w W := Only.of_below (hO2.trans (hB.mono hO2.size))
    have hD4 := (hB.block w1.heap.size z2).trans HD2.out
    have hE4 := (hB.block w.heap.size (by omega)).trans HE2.out
    obtain ⟨hl1, hl2, hl3⟩ := HB.out.lt
    have HC1 := Lib.hid (hc1 W hb4)
    have HC2 := Lib.hid hc2
    have zW4 := hB.size
    clear hc1 hc2 hb4 hB hO2
    go_wp2_with (refine wpList_row_on (by rfl) 41 _ rfl w1.heap.size rfl 41 _ _ _ hD4 Try.underlying41 rfl (HIE.out _) ?_)
    refine HC1.out.mono ?_
    rintro x w5 ⟨⟨v5, rfl⟩, hb5, hO5⟩
    have hE5 := hO5.get hE4 (by simp; omega)
    have HC3 := Lib.hid (HC2.out w5 hb5)
    have hOb := hOa.trans (hO5.mono (T := [le, ll]) (by simp))
    have z5 := hO5.size
    clear hb5 hO5 hOa HC1 HC2 hE4 hD4
    go_wp2_with (refine wpList_row_on (by rfl) 41 _ rfl w.heap.size rfl 41 _ _ _ hE5 Try.underlying41 rfl HIC.out ?_)
    refine HC3.out.mono ?_
    rintro x w6 ⟨⟨v6, rfl⟩, hb6, hO6⟩
    have hE6 := hO6.get hE5 (by simp; omega)
    have hOc := hOb.trans (hO6.mono (T := [le, ll]) (by simp))
    have z6 := hO6.size
    have HB6 := Lib.hid hb6
    have HE6 := Lib.hid hE6
    clear hb6 hO6 hE6 hE5 hOb
    go_wp2
    have hkl : k < es.length := hkl0
    refine wp_region_conf2 7 [Fact.eq ?rbx0, Fact.eq ?rbx1, Fact.eq ?rbx2, Fact.eq ?rbx3, Fact.eq ?rbx4, Fact.eq ?rbx5, Fact.eq ?rbx6] ?rbA (by kernel_rfl) (by kernel_rfl) ?rbhA ?rbho ?rbhend
    case rbhA =>
      intro vv
      simp only [putRules, Nat.reduceAdd]
      rfl
    case rbho =>
      refine ⟨?_, ?_, ?_, ?_, ?_, ?_, ?_, trivial⟩
      · intro vv W K hB hd HK
        simp only [confRules] at HK
        clear hd
        go_wp2
        refine HK.out _ _ (Below.refl _ _) ?_
        rfl
      · intro vv W K hB hd HK
        simp only [confRules] at hd HK
        have h0 := hd
        clear hd
        simp only [h0] at HK ⊢
        clear h0
        go_wp2
        refine HK.out _ _ (Below.refl _ _) ?_
        rfl
      · intro vv W K hB hd HK
        simp only [confRules] at hd HK
        have h1 := hd
        clear hd
        simp only [h1] at HK ⊢
        clear h1
        go_wp2
        refine HK.out _ _ (Below.refl _ _) ?_
        rfl
      · intro vv W K hB hd HK
        simp only [confRules] at hd HK
        have h2 := hd
        clear hd
        simp only [h2] at HK ⊢
        clear h2
        have hbA := HB6.out.below hB
        obtain ⟨c6, c7⟩ := hbA.cells
        clear hbA
        go_wp2
        refine HK.out _ _ (Below.refl _ _) ?_
        rfl
      · intro vv W K hB hd HK
        simp only [confRules] at HK
        clear hd
        go_wp2
        refine HK.out _ _ (Below.refl _ _) ?_
        rfl
      · intro vv W K hB hd HK
        simp only [confRules] at HK
        clear hd
        have hT := (hB.block w.heap.size (by omega)).trans HE6.out
        go_wp2_with (refine wpList_row_on (by rfl) 41 _ rfl w.heap.size rfl 41 _ _ _ hT Try.underlying41 rfl HIC.out ?_)
        refine HK.out _ _ (Below.refl _ _) ?_
        rfl
      · intro vv W K hB hd HK
        simp only [confRules] at hd HK
        obtain ⟨h3, h4, h0, h1, h2, _, _, h5⟩ := hd
        simp only [h3, h4, h0, h1, h2, h5] at HK ⊢
        clear h3 h4 h0 h1 h2 h5
        go_wp2
        refine HK.out _ _ (Below.refl _ _) ?_
        rfl
    case rbhend =>
      intro vv W hB hf
      have e5 := hf 5 (by decide)
      have e6 := hf 6 (by decide)
      simp only [endRules] at e5 e6
      simp only [e5, e6, dropRules]
      clear hf e5 e6
      have hb8 := HB6.out.below hB
      obtain ⟨e0, e1, e2, e3, e4, e5⟩ := hb8.ent HKO.out
      have hfz := hb8.ent_free
      have hpe := hb8.putE hkl0 e
      have hOd := (hOc.trans (Only.of_below hB)).trans ((putE_only W le k e).mono (T := [le, ll]) (by simp))
      obtain ⟨f0, f1, f2, f3, f4, f5⟩ : W.frozen? ⟨le, k * 6, none⟩ = false ∧ W.frozen? ⟨le, k * 6 + 1, none⟩ = false ∧ W.frozen? ⟨le, k * 6 + 2, none⟩ = false ∧ W.frozen? ⟨le, k * 6 + 3, none⟩ = false ∧ W.frozen? ⟨le, k * 6 + 4, none⟩ = false ∧ W.frozen? ⟨le, k * 6 + 5, none⟩ = false := ⟨hfz _, hfz _, hfz _, hfz _, hfz _, hfz _⟩
      have HPE := Lib.hid hpe
      have HOD := Lib.hid hOd
      rw [← HC.out]
      clear hb8 hfz hpe hOd
      unfold BEC
      go_wp2
      go_ret
      exact ⟨rfl, HPE.out, HOD.out⟩
end Go.Proofs.Yteggijkcdlboeaa
