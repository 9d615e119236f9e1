/- Proved here: the law's anchor and its started: both pools at their beginnings. -/
import Derived.Test.YtogijlpclceanaaPlNew
import Derived.Test.YtogijlpclceanaaGeoRefRight
import Derived.Test.YtogijlpclceanaaRes
import Derived.RegionTactic
import Derived.BigRegion
namespace Go.Proofs.Ytogijlpclceanaa
open Go.Conc Go.RowKit Go.Rv Go.Shelf
set_option linter.unusedVariables false
attribute [local go_sem] Oper.semAt_some
open PoolM (dl cnt Ok less allTo giveOf dropOf takeOf pairOf countOf)
def gA : Geo.G := ⟨3, 8, 8, 1, 0, 4⟩
theorem gA_right : Geo.right gA = true := by decide +kernel
theorem builtA : Try.prog.built 58 [(0, .int .i64 3), (1, .int .i64 8), (2, .int .i64 8), (3, .int .i64 1), (5, .int .i64 4)] = some (GC gA) := by kernel_rfl
theorem pool_len {w : World} {P : PR} {L : List Int} (h : PoolIs w P L) {d : Nat} (hd : P.g.d = d) : P.qc.length = d := by have := h.len; omega
set_option maxRecDepth 100000 in
set_option maxHeartbeats 2000000 in
theorem pl_anchor (w : World) :
    Calls Try.prog 27 #[] w fun e w' => e = .returned (.bool true) ∧ Below w.heap.size w w' := by
  have HN := Lib.hid (fun W => pnew_any gA gA_right W)
  go_enter Try.func27, Try.ntmps27
  go_wp2_with fail
  refine (HN.out _).mono ?_
  rintro e w1 ⟨P, rfl, hg, hP, hbs, hB1⟩
  have hl : P.qc.length = 3 := pool_len hP (by rw [hg]; rfl)
  have hz : P.g.z = 8 := by rw [hg]; rfl
  have G1 := Lib.hid (fun (W : World) (h : PoolIs W P []) => by have := pgive_any W P [] h 0; rw [hl, hz, show giveOf 3 8 [] 0 = ([0], 0) by decide +kernel] at this; exact this)
  have G2 := Lib.hid (fun (W : World) (h : PoolIs W P [0]) => by have := pgive_any W P [0] h 1; rw [hl, hz, show giveOf 3 8 [0] 1 = ([0, 1], 0) by decide +kernel] at this; exact this)
  have G3 := Lib.hid (fun (W : World) (h : PoolIs W P [0, 1]) => by have := pgive_any W P [0, 1] h 8; rw [hl, hz, show giveOf 3 8 [0, 1] 8 = ([0, 1, 8], 0) by decide +kernel] at this; exact this)
  have G4 := Lib.hid (fun (W : World) (h : PoolIs W P [0, 1, 8]) => by have := ppairs_eq W P [0, 1, 8] h; rw [hl, hz, show PoolM.npairs 3 8 [0, 1, 8] = 1 by decide +kernel] at this; exact this)
  have G5 := Lib.hid (fun (W : World) (h : PoolIs W P [0, 1, 8]) => by have := pcount_any W P [0, 1, 8] h 0; rw [hl, hz, show countOf 3 8 [0, 1, 8] 0 = 2 by decide +kernel] at this; exact this)
  have HP := Lib.hid hP
  have hcs : ∀ k ∈ P.cs, w.heap.size ≤ k := fun k hk => hbs k (PR.cs_bs hk)
  have HC := Lib.hid hcs
  have HB := Lib.hid hB1
  clear hg hP hbs hB1 hl hz hcs
  go_wp2_with fail
  refine (G1.out _ HP.out).mono ?_
  rintro e w2 ⟨rfl, hP2, hO2⟩
  have HP2 := Lib.hid hP2
  have HB2 := Lib.hid (HB.out.trans (hO2.below HC.out HB.out.size))
  clear hP2 hO2
  go_wp2_with fail
  refine (G2.out _ HP2.out).mono ?_
  rintro e w3 ⟨rfl, hP3, hO3⟩
  have HP3 := Lib.hid hP3
  have HB3 := Lib.hid (HB2.out.trans (hO3.below HC.out HB2.out.size))
  clear hP3 hO3
  go_wp2_with fail
  refine (G3.out _ HP3.out).mono ?_
  rintro e w4 ⟨rfl, hP4, hO4⟩
  have HP4 := Lib.hid hP4
  have HB4 := Lib.hid (HB3.out.trans (hO4.below HC.out HB3.out.size))
  clear hP4 hO4
  go_wp2_with fail
  refine (G4.out _ HP4.out).mono ?_
  rintro e w5 ⟨rfl, hB5⟩
  have HP5 := Lib.hid (HP4.out.below hB5)
  have HB5 := Lib.hid (HB4.out.trans (hB5.mono HB4.out.size))
  clear hB5
  go_wp2_with fail
  refine (G5.out _ HP5.out).mono ?_
  rintro e w6 ⟨rfl, rfl⟩
  go_wp2
  go_ret
  exact ⟨rfl, HB5.out⟩
/-- the document's pool, as a value -/
def RP (d z : Int) (v : Value) : Array Value := #[.int .i64 d, .int .i64 z, v]
theorem Try.infoRP : (Try.prog.info? 61).map (fun i => (i.zero, i.size)) = some (some (.agg (RP 0 0 (.slice none 0 0))), 3) := by kernel_rfl
theorem Try.infoRGp : (Try.prog.info? 73).map (fun i => (i.zero, i.size)) = some (some (.agg (GC ⟨0, 0, 0, 0, 0, 0⟩)), 6) := by kernel_rfl
theorem RP_one (d z : Int) (a : Option Addr) (n c : Nat) : (RP d z (.slice a n c)).all (·.oneCell') = true := by simp [RP, Value.oneCell']
set_option maxRecDepth 100000 in
set_option maxHeartbeats 2000000 in
theorem pstart_no (g : Geo.G) (hr : Geo.right g = false) (w : World) :
    Calls Try.prog 28 #[.agg (GC g)] w fun x w' => x = .returned (.tuple #[.pointer none, .agg (RP 0 0 (.slice none 0 0)), .bool false]) ∧ Below w.heap.size w w' := by
  have HN := Lib.hid (fun W => pnew_no g hr W)
  have HI := Lib.hid (gsize (g := g))
  have hz := (zero_of_info Try.infoRP).1
  have hal := (Below.refl w.heap.size w).alloc (Nat.le_refl _) (.cells (GC g) 58)
  have hnew := heap_alloc_new w (.cells (GC g) 58)
  obtain ⟨W0, hW0⟩ : ∃ W0, (w.alloc (.cells (GC g) 58)).alloc (.cells (RP 0 0 (.slice none 0 0)) 61) = W0 := ⟨_, rfl⟩
  have hal0 : Below w.heap.size w W0 := by rw [← hW0]; exact hal.alloc (by simp) _
  have hg0 : W0.heap[w.heap.size]? = some (.cells (GC g) 58 (0, 0)) := by rw [← hW0]; exact heap_alloc2_old w _ _
  have hr0 : W0.heap[w.heap.size + 1]? = some (.cells (RP 0 0 (.slice none 0 0)) 61 (0, 0)) := by rw [← hW0]; exact heap_alloc2_new w _ _
  have HBZ : Hid (Try.prog.built 61 [] = some (RP 0 0 (.slice none 0 0))) := Lib.hid (by kernel_rfl)
  have HRI : Hid (∀ d z v, (Try.prog.info? 61).map (·.size) = some (RP d z v).size) := Lib.hid (fun _ _ _ => (zero_of_info Try.infoRP).2)
  have HW0 := Lib.hid hW0
  clear hr hal hnew hW0
  generalize GC g = C at *
  go_enter Try.func28, Try.ntmps28
  go_upto_region 1 with (fail)
  rw [HW0.out]
  go_wp2_with (refine wpList_row_on (by rfl) 58 _ rfl w.heap.size rfl 58 _ _ _ hg0 Try.underlying58 rfl HI.out ?_)
  refine (HN.out _).mono ?_
  rintro e w1 ⟨rfl, hB1⟩
  have z0 : w.heap.size + 1 < W0.heap.size := (Array.getElem?_eq_some_iff.1 hr0).1
  have HR1 := Lib.hid ((hB1.block (w.heap.size + 1) z0).trans hr0)
  have HB1 := Lib.hid (hal0.trans (hB1.mono hal0.size))
  clear hB1 hal0 hg0 hr0
  go_wp2_with (first | (refine wpList_build_on (by rfl) 61 _ rfl #[] (by simp) (RP 0 0 (.slice none 0 0)) HBZ.out ?_) | (refine wpList_store_row rfl 61 _ _ rfl (w.heap.size + 1) (RP 0 0 (.slice none 0 0)) rfl rfl 61 (RP 0 0 (.slice none 0 0)) HR1.out (HRI.out _ _ _) rfl (RP_one _ _ _ _ _) ?_))
  refine bodyPost_ret (rres_tct rfl _ _ (w.heap.size + 1) 61 (RP 0 0 (.slice none 0 0)) _ _ rfl (setRow_heap _ _ _ _ _ _ HR1.out) Try.underlying61 rfl (HRI.out _ _ _)) rfl ?_
  exact ⟨rfl, below_setRow HB1.out (by omega) _⟩
theorem built_rp (d z : Int) : Try.prog.built 61 [(0, .int .i64 d), (1, .int .i64 z)] = some (RP d z (.slice none 0 0)) := by kernel_rfl
set_option maxRecDepth 100000 in
set_option maxHeartbeats 4000000 in
theorem pstart_any (g : Geo.G) (hr : Geo.right g = true) (w : World) :
    Calls Try.prog 28 #[.agg (GC g)] w fun x w' => ∃ P : PR, x = .returned (.tuple #[.pointer (some ⟨P.p, 0, none⟩), .agg (RP g.d g.z (.slice none 0 0)), .bool true]) ∧ P.g = g ∧ PoolIs w' P [] ∧ (∀ k ∈ P.bs, w.heap.size ≤ k) ∧ Below w.heap.size w w' := by
  have HN := Lib.hid (fun W => pnew_any g hr W)
  have HI := Lib.hid (gsize (g := g))
  have HRG : Hid (∀ W, Calls Try.prog 39 #[.agg (GC g)] W fun e w' => e = .returned (.bool true) ∧ Below W.heap.size W w') := Lib.hid (fun W => by have := grefright_any g W; rwa [hr] at this)
  have hz := (zero_of_info Try.infoRP).1
  have hal := (Below.refl w.heap.size w).alloc (Nat.le_refl _) (.cells (GC g) 58)
  obtain ⟨W0, hW0⟩ : ∃ W0, (w.alloc (.cells (GC g) 58)).alloc (.cells (RP 0 0 (.slice none 0 0)) 61) = W0 := ⟨_, rfl⟩
  have hal0 : Below w.heap.size w W0 := by rw [← hW0]; exact hal.alloc (by simp) _
  have hg0 : W0.heap[w.heap.size]? = some (.cells (GC g) 58 (0, 0)) := by rw [← hW0]; exact heap_alloc2_old w _ _
  have hr0 : W0.heap[w.heap.size + 1]? = some (.cells (RP 0 0 (.slice none 0 0)) 61 (0, 0)) := by rw [← hW0]; exact heap_alloc2_new w _ _
  have HBU := Lib.hid (built_rp g.d g.z)
  have HRI : Hid (∀ d z v, (Try.prog.info? 61).map (·.size) = some (RP d z v).size) := Lib.hid (fun _ _ _ => (zero_of_info Try.infoRP).2)
  have HCS : Hid (∀ (W : World), W.heap[w.heap.size]? = some (.cells (GC g) 58 (0, 0)) → W.cell? ⟨w.heap.size, 0, none⟩ = some (.int .i64 g.d) ∧ W.cell? ⟨w.heap.size, 1, none⟩ = some (.int .i64 g.z)) := Lib.hid (fun W hh => ⟨(geo_cells hh).1, (geo_cells hh).2.1⟩)
  have HW0 := Lib.hid hW0
  have z0 : w.heap.size + 1 < W0.heap.size := (Array.getElem?_eq_some_iff.1 hr0).1
  clear hr hal hW0
  generalize GC g = C at *
  go_enter Try.func28, Try.ntmps28
  go_upto_region 1 with (fail)
  rw [HW0.out]
  go_wp2_with (refine wpList_row_on (by rfl) 58 _ rfl w.heap.size rfl 58 _ _ _ hg0 Try.underlying58 rfl HI.out ?_)
  refine (HN.out _).mono ?_
  rintro e w1 ⟨P, rfl, hg, hP, hbs, hB1⟩
  have HR1 := Lib.hid ((hB1.block (w.heap.size + 1) z0).trans hr0)
  have hg1 := (hB1.block w.heap.size (by omega)).trans hg0
  have HB1 := Lib.hid (hal0.trans (hB1.mono hal0.size))
  have HBS : Hid (∀ k ∈ P.bs, w.heap.size + 2 ≤ k) := Lib.hid (fun k hk => by have := hbs k hk; omega)
  have HP1 := Lib.hid hP
  have z1 : w.heap.size + 1 < w1.heap.size := (Array.getElem?_eq_some_iff.1 HR1.out).1
  have HPG := Lib.hid hg
  clear hB1 hal0 hg0 hr0 hP hbs hg
  go_wp2_with (refine wpList_row_on (by rfl) 58 _ rfl w.heap.size rfl 58 _ _ _ hg1 Try.underlying58 rfl HI.out ?_)
  refine (HRG.out _).mono ?_
  rintro e w2 ⟨rfl, hB2⟩
  have HR2 := Lib.hid ((hB2.block (w.heap.size + 1) z1).trans HR1.out)
  have HG2 := Lib.hid ((hB2.block w.heap.size (by omega)).trans hg1)
  have HB2 := Lib.hid (HB1.out.trans (hB2.mono HB1.out.size))
  have HP2 := Lib.hid (HP1.out.below hB2)
  clear hB2 hg1
  obtain ⟨g0, g1⟩ := HCS.out _ HG2.out
  have hr2 := HR2.out
  have c0 : w2.cell? ⟨w.heap.size + 1, 0, none⟩ = some (.int .i64 0) := (cell_of_row _ _ _ _ _ _ hr2).trans rfl
  have c1 : w2.cell? ⟨w.heap.size + 1, 1, none⟩ = some (.int .i64 0) := (cell_of_row _ _ _ _ _ _ hr2).trans rfl
  have c2 : w2.cell? ⟨w.heap.size + 1, 2, none⟩ = some (.slice none 0 0) := (cell_of_row _ _ _ _ _ _ hr2).trans rfl
  have f0 := frozen_of_row _ (w.heap.size + 1) 0 _ _ hr2
  have f1 := frozen_of_row _ (w.heap.size + 1) 1 _ _ hr2
  have f2 := frozen_of_row _ (w.heap.size + 1) 2 _ _ hr2
  have hne : (w.heap.size = w.heap.size + 1) = False := by simp
  clear hr2 hz
  have hz2 : ∀ w : World, (zeroValue 61).run Try.prog w = .ok (.agg #[.int .i64 0, .int .i64 0, .slice none 0 0]) w := (zero_of_info Try.infoRP).1
  go_wp2
  go_region
  have s0 := heap_setCell_same w2 (w.heap.size + 1) 0 _ _ (.int .i64 g.d) HR2.out
  have s1 := heap_setCell_same _ (w.heap.size + 1) 1 _ _ (.int .i64 g.z) s0
  have s2 := heap_setCell_same _ (w.heap.size + 1) 2 _ _ (.slice none 0 0) s1
  have hO3 : Only [w.heap.size + 1] w2 (((w2.setCell ⟨w.heap.size + 1, 0, none⟩ (.int .i64 g.d)).setCell ⟨w.heap.size + 1, 1, none⟩ (.int .i64 g.z)).setCell ⟨w.heap.size + 1, 2, none⟩ (.slice none 0 0)).drew := ((((Only.refl [w.heap.size + 1] w2).setCell (.inl (by simp)) _).setCell (.inl (by simp)) _).setCell (.inl (by simp)) _).drew
  obtain ⟨W3, hW3⟩ : ∃ W3, (((w2.setCell ⟨w.heap.size + 1, 0, none⟩ (.int .i64 g.d)).setCell ⟨w.heap.size + 1, 1, none⟩ (.int .i64 g.z)).setCell ⟨w.heap.size + 1, 2, none⟩ (.slice none 0 0)).drew = W3 := ⟨_, rfl⟩
  have hs3 : W3.heap[w.heap.size + 1]? = some (.cells (RP g.d g.z (.slice none 0 0)) 61 (0, 0)) := by rw [← hW3]; exact s2
  rw [hW3] at hO3 ⊢
  clear s0 s1 s2 hW3 c0 c1 c2 f0 f1 f2 g0 g1
  have HS3 := Lib.hid hs3
  have HP3 := Lib.hid (HP2.out.only hO3 (by intro k hk h; obtain rfl : k = w.heap.size + 1 := by simpa using hk
                                            have := HBS.out _ h; omega))
  have HB3 := Lib.hid (HB2.out.trans (hO3.below (by simp) HB2.out.size))
  clear hs3 hO3
  go_wp2
  refine bodyPost_ret (rres_tct rfl _ _ (w.heap.size + 1) 61 (RP g.d g.z (.slice none 0 0)) _ _ rfl HS3.out Try.underlying61 rfl (HRI.out _ _ _)) rfl ?_
  exact ⟨P, rfl, HPG.out, HP3.out, fun k hk => by have := HBS.out k hk; omega, HB3.out⟩
end Go.Proofs.Ytogijlpclceanaa
