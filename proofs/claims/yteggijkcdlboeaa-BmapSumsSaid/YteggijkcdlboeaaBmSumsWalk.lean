/- Proved here: the walk of the law on the sums of a map. -/
import Derived.Test.YteggijkcdlboeaaBmAnchor
import Derived.Test.YteggijkcdlboeaaBmSum
import Derived.Test.YteggijkcdlboeaaBmOps2
import Derived.LoopTactic
import Derived.Deep.Cut
import Derived.WalkLawsBesides
namespace Go.Proofs.Yteggijkcdlboeaa
open Go.RowKit Go.Rv
set_option linter.unusedVariables false
theorem Try.infoOp : (Try.prog.info? 43).map (fun i => (i.zero, i.size)) = some (some (.agg (opC (0, BE.zero))), 7) := by kernel_rfl
theorem opsize (x : Int × BE) : (Try.prog.info? 43).map (·.size) = some (opC x).size := by rw [show (opC x).size = 7 from rfl]; exact (zero_of_info Try.infoOp).2
theorem sum_bd : ∀ (l : List Int) (i : Nat), (∀ x ∈ l, 0 ≤ x ∧ x ≤ 256) → 0 ≤ (l.take i).sum ∧ (l.take i).sum ≤ 256 * (i : Int)
  | [], i, _ => by simp; omega
  | x :: l, 0, _ => by simp
  | x :: l, i + 1, h => by
    have h1 := sum_bd l i (fun y hy => h y (by simp [hy]))
    have h2 := h x (by simp)
    rw [List.take_succ_cons, List.sum_cons]
    omega
theorem sum_succ {l : List Int} {i : Nat} {x : Int} (h : l[i]? = some x) : (l.take (i + 1)).sum = (l.take i).sum + x := by
  obtain ⟨hi, rfl⟩ := List.getElem?_eq_some_iff.1 h
  rw [List.take_succ_eq_append_getElem hi, List.sum_append]
  simp
theorem live_bd (n : Nat) {es : List BE} (h : es.length ≤ 256) : ∀ x ∈ liveL n es, 0 ≤ x ∧ x ≤ 256 := fun x hx => by
  simp only [liveL, List.mem_map, List.mem_range] at hx
  obtain ⟨a, ha, rfl⟩ := hx
  have := liveN_le es a
  omega
set_option maxRecDepth 100000 in
set_option maxHeartbeats 8000000 in
theorem bm_sums_core (g : Geo.G) (hr : Geo.right g = true) (a : Option Addr) (l : List (Int × BE)) (cp : Nat) (w : World) (hI : RowOf w 7 opC Op64 a l) (hl : l.length ≤ 60) :
    Calls Try.prog 7 #[.agg (GC g), .slice a l.length cp] w fun e w' => e = .returned (.bool true) ∧ Below w.heap.size w w' := by
  have hs := ((Geo.right_iff g).1 hr).1
  have HSM := Lib.hid hs
  have HRT := Lib.hid hr
  have HA := Lib.hid (fun W => bm_anchor W)
  have HN := Lib.hid (fun W => bnew_any g hr W)
  have HI := Lib.hid hI
  have HGI := Lib.hid (gsize (g := g))
  have HAL := Lib.hid (fun W => gall_any g W hs)
  have HCS := Lib.hid (fun (W : World) (b : Nat) (hh : W.heap[b]? = some (.cells (GC g) 23 (0, 0))) => geo_cells hh)
  have hzo := (zero_of_info Try.infoOp).1
  have HOS := Lib.hid (fun x => opsize x)
  have HOO := Lib.hid (fun x => opC_one x)
  have hnz : ((nz g : Nat) : Int) = g.d * g.z := by have := (Geo.dz_bd hs).1; unfold nz; omega
  have hnz2 : nz g ≤ 512 := by have := (Geo.dz_bd hs).2; omega
  have HNZ := Lib.hid hnz.symm
  have HM0 := Lib.hid (mapOk_new g hr)
  have hgb1 := hs.2.2.2.1.1
  have hgb2 := hs.2.2.2.1.2
  have t1 : decide (60 < (l.length : Int)) = false := decide_eq_false (by omega)
  have hal := (Below.refl w.heap.size w).alloc (Nat.le_refl _) (.cells (GC g) 23)
  have hnew := heap_alloc_new w (.cells (GC g) 23)
  have hz0 := hal.size
  have hz1 : w.heap.size < (w.alloc (.cells (GC g) 23)).heap.size := by simp
  clear hI hnz hs hr
  generalize hC : GC g = C at *
  have HC := Lib.hid hC
  clear hC
  go_enter Try.func7, Try.ntmps7
  go_wp2_with fail
  refine (HA.out _).mono ?_
  rintro e w0 ⟨rfl, hB0⟩
  have hg0 := (hB0.block w.heap.size hz1).trans hnew
  have hBx := hal.trans (hB0.mono hal.size)
  have zz0 := hB0.size
  clear hal hnew hB0
  go_wp2_with (refine wpList_row_on (by rfl) 23 _ rfl w.heap.size rfl 23 _ _ _ hg0 Try.underlying23 rfl HGI.out ?_)
  refine (HN.out _).mono ?_
  rintro e w1 ⟨p, le, ll, rfl, hb1, q1, q2, q3, hB1⟩
  have hg1 := (hB1.block w.heap.size (by omega)).trans hg0
  have hBW := hBx.trans (hB1.mono hBx.size)
  have zz1 := hB1.size
  have HB1 := Lib.hid hb1
  have HG1 := Lib.hid hg1
  clear hb1 hg0 hg1 hB1 hBx
  go_wp2
  go_loopw [38] (fun i wr => ∃ (k : Nat) (es : List BE), k ≤ l.length ∧ i = .int .i64 k ∧ MapOk g es ∧ BmIs wr p le ll g.b.toNat (nz g) g es (liveL (nz g) es) ∧ Only [le, ll] w1 wr) (fun i _ => l.length - (intOf i).toNat)
  case atStart => exact ⟨0, _, Nat.zero_le _, rfl, HM0.out, HB1.out, Only.refl _ _⟩
  case round =>
    obtain ⟨k, es, hk, rfl, hM, hbm, hO⟩ := hrel
    by_cases hlt : k < l.length
    · obtain ⟨x, hx⟩ : ∃ x, l[k]? = some x := ⟨_, List.getElem?_eq_getElem hlt⟩
      obtain ⟨b, o, rfl, hbl, hcs⟩ := HI.out.resolve_left (by intro e; rw [e] at hlt; simp at hlt)
      obtain ⟨hcx, -, he64⟩ := hcs k x hx
      obtain ⟨blk, e⟩ := x
      have key : ∀ j, j < 7 → wr.cell? ⟨b, o + k * 7 + j, none⟩ = (opC (blk, e))[j]? := fun j hj => by
        rw [← hcx j hj]
        exact (World.cell?_of_block (a := ⟨b, o + k * 7 + j, none⟩) (hO.block b (by have := hBW.size; omega) (by simp; omega))).trans (hBW.cell (p := ⟨b, o + k * 7 + j, none⟩) hbl)
      have d0 : wr.cell? ⟨b, o + k * 7, none⟩ = some (.int .i64 blk) := key 0 (by omega)
      have d1 : wr.cell? ⟨b, o + k * 7 + 1, none⟩ = some (.int .i64 e.st) := key 1 (by omega)
      have d2 : wr.cell? ⟨b, o + k * 7 + 2, none⟩ = some (.int .i64 e.z) := key 2 (by omega)
      have d3 : wr.cell? ⟨b, o + k * 7 + 3, none⟩ = some (.int .i64 e.m) := key 3 (by omega)
      have d4 : wr.cell? ⟨b, o + k * 7 + 4, none⟩ = some (.int .i64 e.o) := key 4 (by omega)
      have d5 : wr.cell? ⟨b, o + k * 7 + 5, none⟩ = some (.int .i64 e.q) := key 5 (by omega)
      have d6 : wr.cell? ⟨b, o + k * 7 + 6, none⟩ = some (.int .i64 e.s) := key 6 (by omega)
      obtain ⟨WA, hWA⟩ : ∃ WA, wr.alloc (.cells (opC (blk, e)) 43) = WA := ⟨_, rfl⟩
      have hba : Below wr.heap.size wr WA := by rw [← hWA]; exact (Below.refl wr.heap.size wr).alloc (Nat.le_refl _) _
      have hop : WA.heap[wr.heap.size]? = some (.cells (opC (blk, e)) 43 (0, 0)) := by rw [← hWA]; exact heap_alloc_new wr _
      have HWA := Lib.hid hWA
      have HST := Lib.hid (bset_any WA p le ll _ _ g es HRT.out hM (hbm.below hba) blk e he64)
      have HMS := Lib.hid (setEs_ok hM he64 blk)
      have hga := (hba.block w.heap.size (by have := hO.size; omega)).trans (hO.get HG1.out (by simp; omega))
      have hOA := hO.trans (Only.of_below (S := [le, ll]) hba)
      have HGA := Lib.hid hga
      have HOP := Lib.hid hop
      obtain ⟨es', hes⟩ : ∃ es', setEs g es blk e = es' := ⟨_, rfl⟩
      rw [hes] at HST HMS
      clear hcx hcs hx key hWA hba hop hM hbm hga hes HM0 HB1
      go_upto_region 9 with (refine wpList_store_row rfl 43 _ _ rfl wr.heap.size (opC (blk, e)) rfl rfl 43 (opC (0, BE.zero)) (heap_alloc_new wr _) (HOS.out _) rfl (HOO.out _) ?_; rw [World.setRow_alloc_new])
      rw [HWA.out]
      clear d0 d1 d2 d3 d4 d5 d6
      have f0 : WA.cell? ⟨wr.heap.size, 0, none⟩ = some (.int .i64 blk) := (cell_of_row _ _ _ _ _ _ HOP.out).trans rfl
      have f1 : WA.cell? ⟨wr.heap.size, 1, none⟩ = some (.int .i64 e.st) := (cell_of_row _ _ _ _ _ _ HOP.out).trans rfl
      have f2 : WA.cell? ⟨wr.heap.size, 2, none⟩ = some (.int .i64 e.z) := (cell_of_row _ _ _ _ _ _ HOP.out).trans rfl
      have f3 : WA.cell? ⟨wr.heap.size, 3, none⟩ = some (.int .i64 e.m) := (cell_of_row _ _ _ _ _ _ HOP.out).trans rfl
      have f4 : WA.cell? ⟨wr.heap.size, 4, none⟩ = some (.int .i64 e.o) := (cell_of_row _ _ _ _ _ _ HOP.out).trans rfl
      have f5 : WA.cell? ⟨wr.heap.size, 5, none⟩ = some (.int .i64 e.q) := (cell_of_row _ _ _ _ _ _ HOP.out).trans rfl
      have f6 : WA.cell? ⟨wr.heap.size, 6, none⟩ = some (.int .i64 e.s) := (cell_of_row _ _ _ _ _ _ HOP.out).trans rfl
      go_wp2_with fail
      refine HST.out.mono ?_
      rintro x w3 ⟨rfl, hb3, hO3⟩
      have hg3 := hO3.get HGA.out (by simp; omega)
      have hO13 := hOA.trans hO3
      have HB3 := Lib.hid hb3
      have HG3 := Lib.hid hg3
      clear f0 f1 f2 f3 f4 f5 f6 hb3 hO3 HST hOA
      go_wp2_with (refine wpList_row_on (by rfl) 23 _ rfl w.heap.size rfl 23 _ _ _ hg3 Try.underlying23 rfl HGI.out ?_)
      refine (HAL.out _).mono ?_
      rintro x w4 ⟨rfl, hB4⟩
      have hb4 := HB3.out.below hB4
      have hg4 := (hB4.block w.heap.size (by have := hO13.size; omega)).trans hg3
      have hO14 := hO13.trans (Only.of_below (S := [le, ll]) hB4)
      have HB4 := Lib.hid hb4
      have HG4 := Lib.hid hg4
      have hz4 := hO14.size
      have hlen : es'.length ≤ 256 := by have := HMS.out.len; omega
      have HLB := Lib.hid (live_bd (nz g) hlen)
      have hll := liveL_length (nz g) es'
      have HLL := Lib.hid hll
      have HSUM : Hid ((liveL (nz g) es').sum = 2 * (countB es' 1 : Int)) := Lib.hid (live_sum es' (fun e he => zok_of_right HSM.out (HMS.out.ok e he).1))
      have HCA : Hid (countB es' 0 + countB es' 1 + countB es' 2 = es'.length) := Lib.hid (count_all es' (fun e he => st_of_right (HMS.out.ok e he).1))
      clear hb4 hg4 hg3 hB4 hO13 hll
      rw [HNZ.out]
      generalize hN : nz g = N at *
      have HNE := Lib.hid hN
      clear hN
      generalize hLV : liveL N es' = lv at *
      have HLVE := Lib.hid hLV
      clear hLV
      go_wp2
      go_loop [9, 50] (fun n j => ∃ i : Nat, i ≤ N ∧ j = .int .i64 i ∧ n = .int .i64 ((lv.take i).sum)) (fun _ j => N - (intOf j).toNat)
      case atStart => exact ⟨0, Nat.zero_le _, rfl, by simp⟩
      case round =>
        obtain ⟨i, hi, rfl, rfl⟩ := hrel
        by_cases hlt2 : i < N
        · obtain ⟨x, hx⟩ : ∃ x, lv[i]? = some x := ⟨_, List.getElem?_eq_getElem (by rw [HLL.out]; exact hlt2)⟩
          have hxb := HLB.out x (List.mem_of_getElem? hx)
          obtain ⟨s1, s2⟩ := sum_bd lv i HLB.out
          have HSS := Lib.hid (sum_succ hx)
          have HLI := Lib.hid (blive_in w4 p le ll _ _ g _ lv HB4.out i x hx (by rw [HLL.out]; omega))
          obtain ⟨hxb1, hxb2⟩ := hxb
          clear hx
          generalize (lv.take i).sum = sm at *
          go_wp2_with fail
          refine HLI.out.mono ?_
          rintro e' w5 ⟨rfl, rfl⟩
          clear HLI
          go_wp2
          go_round
          case rel => exact ⟨i + 1, by omega, by go_num, by rw [HSS.out]⟩
          case measure => simp [intOf]; omega
        · obtain rfl : i = N := by omega
          rw [show lv.take i = lv by rw [List.take_of_length_le (by rw [HLL.out]; exact Nat.le_refl _)], HSUM.out]
          have hcl1 := countB_le es' 1
          have K0 := Lib.hid (fun (W : World) (h : BmIs W p le ll g.b.toNat i g es' lv) => bcount_any W p le ll _ _ g es' lv h 0 (by omega))
          have K1 := Lib.hid (fun (W : World) (h : BmIs W p le ll g.b.toNat i g es' lv) => bcount_any W p le ll _ _ g es' lv h 1 (by omega))
          have K2 := Lib.hid (fun (W : World) (h : BmIs W p le ll g.b.toNat i g es' lv) => bcount_any W p le ll _ _ g es' lv h 2 (by omega))
          have L1 := Lib.hid (fun (W : World) (h : BmIs W p le ll g.b.toNat i g es' lv) => blive_out W p le ll _ _ g es' lv h (-1) (.inl (by omega)))
          have L2 := Lib.hid (fun (W : World) (h : BmIs W p le ll g.b.toNat i g es' lv) => blive_out W p le ll _ _ g es' lv h (i : Nat) (.inr (by rw [HLL.out]; omega)))
          have hca := HCA.out
          have hmb := HMS.out.len
          generalize countB es' 0 = c0 at *
          generalize countB es' 1 = c1 at *
          generalize countB es' 2 = c2 at *
          have hgbe : g.b = (c0 : Int) + (c1 : Int) + (c2 : Int) := by omega
          have HGB := Lib.hid hgbe
          have HAL2 : Hid (∀ W, Calls Try.prog 13 #[.agg C] W fun e w' => e = .returned (.int .i64 (i : Nat)) ∧ Below W.heap.size W w') := Lib.hid (fun W => by have := HAL.out W; rwa [HNZ.out] at this)
          clear hca hmb hgbe HSUM HCA
          have hc1b : (c1 : Int) ≤ 256 := by omega
          have hc0b : (c0 : Int) ≤ 256 := by have := HGB.out; omega
          have hc2b : (c2 : Int) ≤ 256 := by have := HGB.out; omega
          go_wp2
          refine wp_region_conf2 29 [Fact.eq ?rax0, Fact.eq ?rax1, Fact.eq ?rax2, Fact.eq ?rax3, Fact.eq (.bool false), Fact.eq ?rax5, Fact.eq ?rax6, Fact.eq ?rax7, Fact.eq ?rax8, Fact.eq ?rax9, Fact.eq ?rax10, Fact.eq ?rax11, Fact.eq ?rax12, Fact.eq ?rax13, Fact.eq ?rax14, Fact.eq ?rax15, Fact.eq (.bool false), Fact.eq ?rax17, Fact.eq ?rax18, Fact.eq ?rax19, Fact.eq ?rax20, Fact.eq (.bool false), Fact.eq ?rax22, Fact.eq ?rax23, Fact.eq ?rax24, Fact.eq ?rax25, Fact.eq ?rax26, Fact.eq ?rax27, Fact.eq (.bool false)] ?raA (by kernel_rfl) (by kernel_rfl) ?rahA ?raho ?rahend
          case rahA =>
            intro vv
            simp only [putRules, Nat.reduceAdd]
            rfl
          case raho =>
            refine ⟨?_, ?_, ?_, ?_, ?_, ?_, ?_, ?_, ?_, ?_, ?_, ?_, ?_, ?_, ?_, ?_, ?_, ?_, ?_, ?_, ?_, ?_, ?_, ?_, ?_, ?_, ?_, ?_, ?_, trivial⟩
            · intro vv W K hB hd HK
              simp only [confRules] at HK
              clear hd
              go_wp2
              refine HK.out _ _ (Below.refl _ _) ?_
              rfl
            · intro vv W K hB hd HK
              simp only [confRules] at HK
              clear hd
              go_wp2
              refine HK.out _ _ (Below.refl _ _) ?_
              rfl
            · intro vv W K hB hd HK
              simp only [confRules] at hd HK
              have h1 := hd
              clear hd
              simp only [h1] at HK ⊢
              clear h1
              have hbA := HB4.out.below hB
              go_wp2_with (refine (K1.out _ hbA).mono ?_; rintro e w9 ⟨rfl, hB9⟩)
              refine HK.out _ _ hB9 ?_
              rfl
            · intro vv W K hB hd HK
              simp only [confRules] at hd HK
              have h2 := hd
              clear hd
              simp only [h2] at HK ⊢
              clear h2
              go_wp2
              refine HK.out _ _ (Below.refl _ _) ?_
              rfl
            · intro vv W K hB hd HK
              simp only [confRules] at hd HK
              obtain ⟨h0, h3⟩ := hd
              simp only [h0, h3] at HK ⊢
              clear h0 h3
              go_wp2
              refine HK.out _ _ (Below.refl _ _) ?_
              first | rfl | exact congrArg Value.bool (by simp)
            · intro vv W K hB hd HK
              simp only [confRules] at hd HK
              obtain ⟨h4, h2⟩ := hd
              simp only [h4, h2] at HK ⊢
              clear h4 h2
              go_wp2
              refine HK.out _ _ (Below.refl _ _) ?_
              rfl
            · intro vv W K hB hd HK
              simp only [confRules] at hd HK
              have h5 := hd
              clear hd
              simp only [h5] at HK ⊢
              clear h5
              refine wpList_guard_yes (by rfl) ?_
              go_wp2
              refine HK.out _ _ (Below.refl _ _) ?_
              rfl
            · intro vv W K hB hd HK
              simp only [confRules] at hd HK
              obtain ⟨h6, h5, _⟩ := hd
              simp only [h6, h5] at HK ⊢
              clear h6 h5
              refine wpList_guard_yes (by rfl) ?_
              have hbA := HB4.out.below hB
              go_wp2_with (refine (K0.out _ hbA).mono ?_; rintro e w9 ⟨rfl, hB9⟩)
              refine HK.out _ _ hB9 ?_
              rfl
            · intro vv W K hB hd HK
              simp only [confRules] at hd HK
              have h5 := hd
              clear hd
              simp only [h5] at HK ⊢
              clear h5
              refine wpList_guard_yes (by rfl) ?_
              go_wp2
              refine HK.out _ _ (Below.refl _ _) ?_
              rfl
            · intro vv W K hB hd HK
              simp only [confRules] at hd HK
              obtain ⟨h8, h7, h5⟩ := hd
              simp only [h8, h7, h5] at HK ⊢
              clear h8 h7 h5
              refine wpList_guard_yes (by rfl) ?_
              have hbA := HB4.out.below hB
              go_wp2_with (refine (K1.out _ hbA).mono ?_; rintro e w9 ⟨rfl, hB9⟩)
              refine HK.out _ _ hB9 ?_
              rfl
            · intro vv W K hB hd HK
              simp only [confRules] at hd HK
              obtain ⟨h7, h9, h5⟩ := hd
              simp only [h7, h9, h5] at HK ⊢
              clear h7 h9 h5
              refine wpList_guard_yes (by rfl) ?_
              go_wp2
              refine HK.out _ _ (Below.refl _ _) ?_
              rfl
            · intro vv W K hB hd HK
              simp only [confRules] at hd HK
              have h5 := hd
              clear hd
              simp only [h5] at HK ⊢
              clear h5
              refine wpList_guard_yes (by rfl) ?_
              go_wp2
              refine HK.out _ _ (Below.refl _ _) ?_
              rfl
            · intro vv W K hB hd HK
              simp only [confRules] at hd HK
              obtain ⟨h11, h9, h5⟩ := hd
              simp only [h11, h9, h5] at HK ⊢
              clear h11 h9 h5
              refine wpList_guard_yes (by rfl) ?_
              have hbA := HB4.out.below hB
              go_wp2_with (refine (K2.out _ hbA).mono ?_; rintro e w9 ⟨rfl, hB9⟩)
              refine HK.out _ _ hB9 ?_
              rfl
            · intro vv W K hB hd HK
              simp only [confRules] at hd HK
              obtain ⟨h10, h12, h5⟩ := hd
              simp only [h10, h12, h5] at HK ⊢
              clear h10 h12 h5
              refine wpList_guard_yes (by rfl) ?_
              go_wp2
              refine HK.out _ _ (Below.refl _ _) ?_
              rfl
            · intro vv W K hB hd HK
              simp only [confRules] at hd HK
              have h5 := hd
              clear hd
              simp only [h5] at HK ⊢
              clear h5
              refine wpList_guard_yes (by rfl) ?_
              go_wp2
              refine HK.out _ _ (Below.refl _ _) ?_
              rfl
            · intro vv W K hB hd HK
              simp only [confRules] at hd HK
              obtain ⟨h14, h5⟩ := hd
              simp only [h14, h5] at HK ⊢
              clear h14 h5
              refine wpList_guard_yes (by rfl) ?_
              have hT := (hB.block w.heap.size (by omega)).trans HG4.out
              obtain ⟨-, -, -, k3, -⟩ := HCS.out _ _ hT
              go_wp2
              refine HK.out _ _ (Below.refl _ _) ?_
              rfl
            · intro vv W K hB hd HK
              simp only [confRules] at hd HK
              obtain ⟨h13, h15, h5⟩ := hd
              simp only [h13, h15, h5] at HK ⊢
              clear h13 h15 h5
              refine wpList_guard_yes (by rfl) ?_
              go_wp2
              refine HK.out _ _ (Below.refl _ _) ?_
              first | rfl | exact congrArg Value.bool (by rw [bne_eq_false_iff_eq]; have := HGB.out; omega)
            · intro vv W K hB hd HK
              simp only [confRules] at hd HK
              obtain ⟨h5, h16⟩ := hd
              simp only [h5, h16] at HK ⊢
              clear h5 h16
              go_wp2
              refine HK.out _ _ (Below.refl _ _) ?_
              rfl
            · intro vv W K hB hd HK
              simp only [confRules] at hd HK
              obtain ⟨h17, h12⟩ := hd
              simp only [h17, h12] at HK ⊢
              clear h17 h12
              go_wp2
              refine HK.out _ _ (Below.refl _ _) ?_
              rfl
            · intro vv W K hB hd HK
              simp only [confRules] at hd HK
              have h18 := hd
              clear hd
              simp only [h18] at HK ⊢
              clear h18
              refine wpList_guard_yes (by rfl) ?_
              go_wp2
              refine HK.out _ _ (Below.refl _ _) ?_
              rfl
            · intro vv W K hB hd HK
              simp only [confRules] at hd HK
              obtain ⟨h19, h18, _⟩ := hd
              simp only [h19, h18] at HK ⊢
              clear h19 h18
              refine wpList_guard_yes (by rfl) ?_
              have hbA := HB4.out.below hB
              go_wp2_with (refine (L1.out _ hbA).mono ?_; rintro e w9 ⟨rfl, rfl⟩)
              refine HK.out _ _ (Below.refl _ _) ?_
              rfl
            · intro vv W K hB hd HK
              simp only [confRules] at hd HK
              obtain ⟨h20, h18⟩ := hd
              simp only [h20, h18] at HK ⊢
              clear h20 h18
              refine wpList_guard_yes (by rfl) ?_
              go_wp2
              refine HK.out _ _ (Below.refl _ _) ?_
              first | rfl | exact congrArg Value.bool (by simp)
            · intro vv W K hB hd HK
              simp only [confRules] at hd HK
              obtain ⟨h18, h21⟩ := hd
              simp only [h18, h21] at HK ⊢
              clear h18 h21
              go_wp2
              refine HK.out _ _ (Below.refl _ _) ?_
              rfl
            · intro vv W K hB hd HK
              simp only [confRules] at hd HK
              obtain ⟨h22, h20⟩ := hd
              simp only [h22, h20] at HK ⊢
              clear h22 h20
              go_wp2
              refine HK.out _ _ (Below.refl _ _) ?_
              rfl
            · intro vv W K hB hd HK
              simp only [confRules] at hd HK
              have h23 := hd
              clear hd
              simp only [h23] at HK ⊢
              clear h23
              refine wpList_guard_yes (by rfl) ?_
              go_wp2
              refine HK.out _ _ (Below.refl _ _) ?_
              rfl
            · intro vv W K hB hd HK
              simp only [confRules] at hd HK
              have h23 := hd
              clear hd
              simp only [h23] at HK ⊢
              clear h23
              refine wpList_guard_yes (by rfl) ?_
              have hT := (hB.block w.heap.size (by omega)).trans HG4.out
              go_wp2_with (refine wpList_row_on (by rfl) 23 _ rfl w.heap.size rfl 23 _ _ _ hT Try.underlying23 rfl HGI.out ?_)
              refine HK.out _ _ (Below.refl _ _) ?_
              rfl
            · intro vv W K hB hd HK
              simp only [confRules] at hd HK
              obtain ⟨h25, h23, _⟩ := hd
              simp only [h25, h23] at HK ⊢
              clear h25 h23
              refine wpList_guard_yes (by rfl) ?_
              go_wp2_with (refine (HAL2.out _).mono ?_; rintro e w9 ⟨rfl, hB9⟩)
              refine HK.out _ _ hB9 ?_
              rfl
            · intro vv W K hB hd HK
              simp only [confRules] at hd HK
              obtain ⟨h24, h26, _, h23⟩ := hd
              simp only [h24, h26, h23] at HK ⊢
              clear h24 h26 h23
              refine wpList_guard_yes (by rfl) ?_
              have hbA := HB4.out.below hB
              go_wp2_with (refine (L2.out _ hbA).mono ?_; rintro e w9 ⟨rfl, rfl⟩)
              refine HK.out _ _ (Below.refl _ _) ?_
              rfl
            · intro vv W K hB hd HK
              simp only [confRules] at hd HK
              obtain ⟨h27, h23⟩ := hd
              simp only [h27, h23] at HK ⊢
              clear h27 h23
              refine wpList_guard_yes (by rfl) ?_
              go_wp2
              refine HK.out _ _ (Below.refl _ _) ?_
              first | rfl | exact congrArg Value.bool (by simp)
          case rahend =>
            intro vv W hB hf
            have e23 := hf 23 (by decide)
            have e28 := hf 28 (by decide)
            simp only [endRules] at e23 e28
            simp only [e23, e28, dropRules]
            clear hf e23 e28
            go_wp2
            go_roundw
            case rel =>
              have H1 := HB4.out.below hB
              rw [← HLVE.out, ← HNE.out] at H1
              exact ⟨k + 1, es', by omega, by go_num, HMS.out, H1, hO14.trans (Only.of_below hB)⟩
            case measure => simp [intOf]; omega
    · obtain rfl : k = l.length := by omega
      have hBE : Below w.heap.size w wr := hBW.trans (hO.below (B := w.heap.size) (by simp; omega) hBW.size)
      go_wp2
      go_ret
      exact ⟨rfl, hBE⟩
set_option maxRecDepth 100000 in
set_option maxHeartbeats 2000000 in
theorem bm_sums_walk (g : Geo.G) (a : Option Addr) (l : List (Int × BE)) (cp : Nat) (w : World) (hI : RowOf w 7 opC Op64 a l) :
    Calls Try.prog 7 #[.agg (GC g), .slice a l.length cp] w fun e w' => e = .returned (.bool true) ∧ Below w.heap.size w w' := by
  by_cases hl : Geo.right g = true ∧ l.length ≤ 60
  · exact bm_sums_core g hl.1 a l cp w hI hl.2
  · have HA := Lib.hid (fun W => bm_anchor W)
    have HGI := Lib.hid (gsize (g := g))
    have hal := (Below.refl w.heap.size w).alloc (Nat.le_refl _) (.cells (GC g) 23)
    have hnew := heap_alloc_new w (.cells (GC g) 23)
    cases hr : Geo.right g
    · have HN := Lib.hid (fun W => bnew_no g hr W)
      clear hI hl hr
      generalize GC g = C at *
      go_enter Try.func7, Try.ntmps7
      go_wp2_with fail
      refine (HA.out _).mono ?_
      rintro e w0 ⟨rfl, hB0⟩
      have hg0 := (hB0.block w.heap.size (by simp)).trans hnew
      have hBx := hal.trans (hB0.mono hal.size)
      clear hal hnew hB0
      go_wp2_with (refine wpList_row_on (by rfl) 23 _ rfl w.heap.size rfl 23 _ _ _ hg0 Try.underlying23 rfl HGI.out ?_)
      refine (HN.out _).mono ?_
      rintro e w1 ⟨rfl, hB1⟩
      have hBW := hBx.trans (hB1.mono hBx.size)
      go_wp2
      go_ret
      exact ⟨rfl, hBW⟩
    · have HN := Lib.hid (fun W => bnew_any g hr W)
      have t1 : decide (60 < (l.length : Int)) = true := decide_eq_true (by have : ¬ l.length ≤ 60 := fun h => hl ⟨hr, h⟩; omega)
      clear hI hl hr
      generalize GC g = C at *
      go_enter Try.func7, Try.ntmps7
      go_wp2_with fail
      refine (HA.out _).mono ?_
      rintro e w0 ⟨rfl, hB0⟩
      have hg0 := (hB0.block w.heap.size (by simp)).trans hnew
      have hBx := hal.trans (hB0.mono hal.size)
      clear hal hnew hB0
      go_wp2_with (refine wpList_row_on (by rfl) 23 _ rfl w.heap.size rfl 23 _ _ _ hg0 Try.underlying23 rfl HGI.out ?_)
      refine (HN.out _).mono ?_
      rintro e w1 ⟨p, le, ll, rfl, -, -, -, -, hB1⟩
      have hBW := hBx.trans (hB1.mono hBx.size)
      go_wp2
      go_ret
      exact ⟨rfl, hBW⟩
end Go.Proofs.Yteggijkcdlboeaa
