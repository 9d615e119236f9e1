/- Proved here: the document's example of a geometry. -/
import Derived.Test.YteggijkcdlboeaaGeoIn
import Derived.RangeFuncFrom
import Derived.RangeFuncWrites
import Derived.Maps.AppendAt
namespace Go.Proofs.Yteggijkcdlboeaa
open Go.RowKit Go.Rv Go.Shelf
set_option linter.unusedVariables false
attribute [local go_sem] Oper.semAt_some
def g0 : Geo.G := ⟨3, 8, 8, 12, 0, 4⟩
theorem small0 : Geo.Small g0 := by unfold Geo.Small g0; decide
theorem right0 : Geo.right g0 = true := by decide
theorem parts0 : Geo.parts g0 = 7 := by decide
/-- a sum, as it is reckoned -/
def sumW (l : List Int) : Int := l.foldl (fun s x => wrap64 (s + x)) 0
theorem sumW_snoc (l : List Int) (x : Int) : sumW (l ++ [x]) = wrap64 (sumW l + x) := by simp [sumW]
theorem sum0 : sumW (zonesOf g0 2) = 156 := by kernel_rfl
theorem ownFrom_heap {β : Type} {B b : Nat} (X : β → Obj) (hb : b < B) : OwnFrom B (fun (s : β) W => W.heap[b]? = some (X s)) :=
  fun s W W' row hs hg hr => (hg.block b (Array.getElem?_eq_some_iff.1 hs).1 (fun e => by have := (hr b e.symm).1; omega)).trans hs
theorem ownFrom_only {β : Type} {B : Nat} {S : List Nat} {w₀ : World} (hB : w₀.heap.size ≤ B) : OwnFrom B (fun (_ : β) W => Only S w₀ W) :=
  fun _ _ _ _ hs hg hr => hs.grown hg (fun k e => .inr (Nat.le_trans hB (hr k e).1))
theorem only_putObj {S : List Nat} {a w : World} (h : Only S a w) {l : Nat} (hl : a.heap.size ≤ l) (o : Obj) : Only S a (w.putObj l o) :=
  ⟨h.os, h.tape, h.output, by simpa [World.putObj] using h.size, fun i hi hn => by
    rw [World.putObj_heap_other (by omega)]
    exact h.block i hi hn⟩
set_option maxRecDepth 100000 in
set_option maxHeartbeats 4000000 in
theorem geo_anchor (w : World) : Calls Try.prog 10 #[] w fun e w' => e = .returned (.bool true) ∧ Below w.heap.size w w' := by
  refine (callsIn_wide (n := 4)).1 ?_
  have HR := Lib.hid (fun (W : World) => (callsIn_wide (n := 3)).2 (gright_any g0 W))
  have HI := Lib.hid (fun (W : World) => (callsIn_wide (n := 3)).2 (gin_any g0 2 W))
  have HA := Lib.hid (fun (W : World) => (callsIn_wide (n := 3)).2 (gall_any g0 W small0))
  have HP := Lib.hid (fun (W : World) => (callsIn_wide (n := 3)).2 (gparts_any g0 W small0))
  rw [right0] at HR
  rw [parts0] at HP
  rw [show g0.d * g0.z = 24 from rfl] at HA
  have hB0 : Below w.heap.size w ((w.alloc (.cells (GC g0) 23)).alloc (.cells #[.int .i64 0] 3)) := ((Below.refl _ w).alloc (Nat.le_refl _) _).alloc (by simp) _
  have hg : ((w.alloc (.cells (GC g0) 23)).alloc (.cells #[.int .i64 0] 3)).heap[w.heap.size]? = some (.cells (GC g0) 23) := (((Below.refl (w.alloc (.cells (GC g0) 23)).heap.size (w.alloc (.cells (GC g0) 23))).alloc (Nat.le_refl _) (.cells #[.int .i64 0] 3)).block w.heap.size (by simp)).trans (heap_alloc_new w _)
  have hn : ((w.alloc (.cells (GC g0) 23)).alloc (.cells #[.int .i64 0] 3)).heap[w.heap.size + 1]? = some (.cells #[.int .i64 0] 3) := by have := heap_alloc_new (w.alloc (.cells (GC g0) 23)) (.cells #[.int .i64 0] 3); rwa [World.size_alloc] at this
  refine callsIn_of_wp_marks Try.func10 rfl trivial ?_ rfl
  simp only [Try.ntmps10, List.size_toArray, List.length_cons, List.length_nil, Nat.reduceSub, Array.replicate_succ, Array.replicate_zero, List.push_toArray, List.append_toArray, List.nil_append, List.cons_append]
  have z0 : ((w.alloc (.cells (GC g0) 23)).alloc (.cells #[.int .i64 0] 3)).heap.size = w.heap.size + 1 + 1 := by simp
  obtain ⟨W0, hW0⟩ : ∃ W0, (w.alloc (.cells (GC g0) 23)).alloc (.cells #[.int .i64 0] 3) = W0 := ⟨_, rfl⟩
  rw [hW0] at hB0 hg hn z0
  have HW0 := Lib.hid hW0
  clear hW0
  gi_wp2_with (first | (refine ⟨trivial, ?_⟩; gi_at_call 11; refine (HR.out _).mono ?_; rintro e w1 ⟨rfl, hB1⟩; rw [show (w.alloc (.cells #[Value.int .i64 3, .int .i64 8, .int .i64 8, .int .i64 12, .int .i64 0, .int .i64 4] 23)).alloc (.cells #[.int .i64 0] 3) = W0 from HW0.out] at hB1; have hg1 := (hB1.block w.heap.size (by omega)).trans hg; have hn1 := (hB1.block (w.heap.size + 1) (by omega)).trans hn; have z1 := hB1.size; obtain ⟨c0, c1, c2, c3, c4, c5⟩ := geo_cells hg1) | (refine ⟨trivial, ?_⟩; gi_at_call 22; refine (HI.out _).mono ?_; rintro e w2 ⟨rfl, rfl⟩))
  obtain ⟨WL, hWL⟩ : ∃ WL, (w1.alloc (.cells (GC g0) 23)).alloc (.cells #[.int .i64 2] 3) = WL := ⟨_, rfl⟩
  have zL : WL.heap.size = w1.heap.size + 1 + 1 := by rw [← hWL]; simp
  have hBL : Below w1.heap.size w1 WL := by rw [← hWL]; exact ((Below.refl _ w1).alloc (Nat.le_refl _) _).alloc (by simp) _
  have hgL := (hBL.block w.heap.size (by omega)).trans hg1
  have hnL := (hBL.block (w.heap.size + 1) (by omega)).trans hn1
  have hLg : WL.heap[w1.heap.size]? = some (.cells (GC g0) 23) := by rw [← hWL]; exact (((Below.refl (w1.alloc (.cells (GC g0) 23)).heap.size (w1.alloc (.cells (GC g0) 23))).alloc (Nat.le_refl _) (.cells #[.int .i64 2] 3)).block w1.heap.size (by simp)).trans (heap_alloc_new w1 _)
  have hLd : WL.heap[w1.heap.size + 1]? = some (.cells #[.int .i64 2] 3) := by rw [← hWL]; have := heap_alloc_new (w1.alloc (.cells (GC g0) 23)) (.cells #[.int .i64 2] 3); rwa [World.size_alloc] at this
  obtain ⟨l0, l1, -⟩ := geo_cells hLg
  have ld := cell_of_one hLd
  have hOL : Below w.heap.size w WL := hB0.trans ((hB1.trans (hBL.mono hB1.size)).mono (by omega))
  rw [hWL]
  clear hWL hLg hLd hg hn hg1 hn1 HW0 c0 c1 c2 c3 c4 c5 hB0 hB1 hBL
  refine wpIn_rangeFunc_ownF rfl (by omega) (gf := 38) (lb := #[.pointer (some ⟨w1.heap.size + 1, 0, none⟩), .pointer (some ⟨w1.heap.size, 0, none⟩)]) rfl trivial (enters_of Try.func38 (by kernel_rfl) rfl)
    (gin1_stops 3 (by omega) (w1.heap.size + 1) w1.heap.size g0 small0 2 WL (by omega) (by omega) ld l0 l1) KeepsRows.trans (keepsRows_b (by simp; omega)) (Below.refl _ _) (fun _ => rfl)
    (fun pre W => W.heap[w.heap.size + 1]? = some (.cells #[.int .i64 (sumW pre)] 3) ∧ Only [w.heap.size + 1] WL W)
    (fun _ _ _ => False)
    (OwnFrom.and (ownFrom_heap (fun pre => .cells #[.int .i64 (sumW pre)] 3) (by omega)) (ownFrom_only (Nat.le_refl _)))
    (fun _ _ _ _ _ hs _ _ => hs)
    ⟨hnL, Only.refl _ _⟩
    (fun x => { tmps := #[.bool false, .pointer (some ⟨w.heap.size, 0, none⟩), .pointer (some ⟨w.heap.size + 1, 0, none⟩), .int .i64 x, .agg #[.int .i64 3, .int .i64 8, .int .i64 8, .int .i64 12, .int .i64 0, .int .i64 4], .agg #[.int .i64 3, .int .i64 8, .int .i64 8, .int .i64 12, .int .i64 0, .int .i64 4], .bool true, .bool false, .agg #[.int .i64 g0.d, .int .i64 g0.z, .int .i64 g0.s, .int .i64 g0.b, .int .i64 g0.p, .int .i64 g0.o], .func (.func 38) #[] #[.pointer (some ⟨w1.heap.size + 1, 0, none⟩), .pointer (some ⟨w1.heap.size, 0, none⟩)], .int .i64 x, undef, undef, undef, undef, undef, undef, undef, undef, undef, undef, undef, undef, undef, undef, undef, undef, undef, undef, undef], defers := [] }) ?assign ?body ?done ?stop
  case assign =>
    intro l x W K hK
    gi_wp2
    exact hK
  case body =>
    rintro l pre x W ⟨hn, hO⟩ _
    have hc := cell_of_one hn
    have hf := free_of_one hn
    have HS := Lib.hid (sumW_snoc pre x)
    have HN := Lib.hid hn
    have hzW := hO.size
    clear hn
    gi_wp2
    exact ⟨KeepsOthers.setCell _ _ _, (KeepsRows.refl _ _).setCell (by simp; omega) _, ⟨by rw [HS.out]; exact one_setCell HN.out, hO.setCell (.inl (by simp)) _⟩⟩
  case done =>
    rintro D ys W hD rfl ⟨hn, hO⟩ hK
    have hgW := (hO.block w.heap.size (by omega) (by simp)).trans hgL
    obtain ⟨c0, c1, c2, c3, c4, c5⟩ := geo_cells hgW
    rw [sum0] at hn
    have hc := cell_of_one hn
    have hDW : D < W.heap.size := (Array.getElem?_eq_some_iff.1 hK).1
    have hBW : Below w.heap.size w W := hOL.trans (hO.below (by simp) (by omega))
    have hzW := hO.size
    have HN := Lib.hid hn
    have HK := Lib.hid hK
    have HG := Lib.hid hgW
    clear hn hK hgW hgL hnL l0 l1 ld
    gi_wp2_with fail
    refine ⟨trivial, ?_⟩
    refine (HR.out _).mono ?_
    rintro e w2 ⟨rfl, hB2⟩
    have HG2 := Lib.hid ((hB2.block w.heap.size (by omega)).trans HG.out)
    have HN2 := Lib.hid ((hB2.block (w.heap.size + 1) (by omega)).trans HN.out)
    have HK2 := Lib.hid ((hB2.block D (by omega)).trans HK.out)
    have z2 := hB2.size
    obtain ⟨c0, c1, c2, c3, c4, c5⟩ := geo_cells HG2.out
    have hc := cell_of_one HN2.out
    gi_wp2_with fail
    refine ⟨trivial, ?_⟩
    refine (HA.out _).mono ?_
    rintro e w3 ⟨rfl, hB3⟩
    have HG3 := Lib.hid ((hB3.block w.heap.size (by omega)).trans HG2.out)
    have HN3 := Lib.hid ((hB3.block (w.heap.size + 1) (by omega)).trans HN2.out)
    have HK3 := Lib.hid ((hB3.block D (by omega)).trans HK2.out)
    have z3 := hB3.size
    obtain ⟨c0, c1, c2, c3, c4, c5⟩ := geo_cells HG3.out
    have hc := cell_of_one HN3.out
    gi_wp2_with fail
    refine ⟨trivial, ?_⟩
    refine (HP.out _).mono ?_
    rintro e w4 ⟨rfl, hB4⟩
    have HG4 := Lib.hid ((hB4.block w.heap.size (by omega)).trans HG3.out)
    have HN4 := Lib.hid ((hB4.block (w.heap.size + 1) (by omega)).trans HN3.out)
    have HK4 := Lib.hid ((hB4.block D (by omega)).trans HK3.out)
    have z4 := hB4.size
    obtain ⟨c0, c1, c2, c3, c4, c5⟩ := geo_cells HG4.out
    have hc := cell_of_one HN4.out
    gi_wp2
    refine ⟨by simp, .inl ⟨_, _, rfl, run_takeDeferred HK4.out, ?_⟩⟩
    have hE : Below w.heap.size w w4 := hBW.trans ((hB2.mono (by omega)).trans ((hB3.mono (by omega)).trans (hB4.mono (by omega))))
    exact ⟨_, results_tmp rfl _ _ _, rfl, hE.trans (belowK_b (w := w) (Nat.le_refl _) w4 D _ _ (by omega) HK4.out rfl rfl)⟩
  case stop =>
    rintro D c pre W _ _ h _
    exact h.elim
end Go.Proofs.Yteggijkcdlboeaa
