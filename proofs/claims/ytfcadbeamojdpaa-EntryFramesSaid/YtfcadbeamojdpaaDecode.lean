/- Proved here: the contract of the frame's Decode. -/
import Derived.Test.YtfcadbeamojdpaaEncode
import Derived.Test.YtfcadbeamojdpaaRd
import Derived.Deep.RegionHeld3
import Derived.Deep.DrawnRows
namespace Go.Proofs.Ytfcadbeamojdpaa
open Go.RowKit Go.Rv Frm
set_option linter.unusedVariables false
attribute [local go_sem ↓] Go.wp_at_zero Go.wp_at_succ
theorem range_row {w : World} {b : Nat} {C : Array Value} {t : TypeId} {fr : Nat × Nat} (hg : w.heap[b]? = some (.cells C t fr)) : w.rangeAt b 0 C.toList := by
  intro j v hv
  rw [cell_of_row _ _ _ _ _ _ hg, Nat.zero_add]
  simpa using hv
theorem RdAt.under {w w' : World} {B C g : Nat} {l : List Nat} {bad : Bool} (h : RdAt w B g l bad) (hB : Below C w w') (hC : g < C) : RdAt w' B g l bad := by
  obtain ⟨a, cap, hh, hb, h1, h2, h3, h4⟩ := h
  refine ⟨a, cap, (hB.block g hC).trans hh, ⟨hb.1, ?_⟩, h1, h2, h3, h4⟩
  rcases hb.2 with h | ⟨bb, oo, rfl, hlt, hc⟩
  · exact .inl h
  · have hbb : bb < g := (h4 _ rfl).1
    exact .inr ⟨bb, oo, rfl, Nat.lt_of_lt_of_le hlt hB.size, fun i hi => by rw [hB.cell (by show bb < C; omega)]; exact hc i hi⟩
/-- a whole row is loaded behind a guard that asks for it -/
theorem wpList_load_row_asked {P : Program} {ops : Array Oper} {rest : List Oper} {o : Oper} {a : Act} {w : World} {Q : Exit → Act → World → Prop} (hgd : Region.wanted o (yielded ops a.tmps) = true) (ty : TypeId) (x : Operand) (ho : o.op = .load ty x)
    (g : Nat) (hx : a.eval x = .pointer (some ⟨g, 0, none⟩)) (t : TypeId) (cs : Array Value) (fr : Nat × Nat) (d : TypeDesc) (hg : w.heap[g]? = some (.cells cs t fr))
    (hu : P.underlying ty = some d) (hd : (match d with | .struct _ | .array _ _ => true | _ => false) = true) (hi : (P.info? ty).map (·.size) = some cs.size)
    (h : wpList P ops Q rest (a.put o.dst (.agg cs)) w) : wpList P ops Q (o :: rest) a w := by
  unfold wpList
  rw [if_pos hgd]
  exact .inl (wp_load_row ty x ho g hx t cs fr d hg hu hd hi h)
/-- a frame and an error -/
def FrmPost (r : Fr × Int) (w : World) (e : Ending) (w' : World) : Prop := e = .returned (.tuple #[.agg (FC r.1), .int .i64 r.2]) ∧ Below w.heap.size w w'
theorem FC_sets (f : Fr) (v : Int) : (FC f).setIfInBounds 0 (.int .i64 v) = FC { f with kind := v } ∧ (FC f).setIfInBounds 1 (.int .i64 v) = FC { f with zone := v } ∧ (FC f).setIfInBounds 2 (.int .i64 v) = FC { f with off := v } ∧ (FC f).setIfInBounds 3 (.int .i64 v) = FC { f with epoch := v } ∧ (FC f).setIfInBounds 4 (.int .i64 v) = FC { f with seq := v } := by
  refine ⟨?_, ?_, ?_, ?_, ?_⟩ <;> (unfold FC; apply Array.toList_inj.1; simp)
theorem splice_FC (f : Fr) (b : List Nat) (hf : f.body.length = 44) (hb : b.length = 44) : splice (FC f).toList 5 (b.map bv) = (FC { f with body := b }).toList := by
  unfold splice FC byteCells bv
  simp [hb]
  omega
theorem src_cells {w : World} {b : Option Addr} {m : List Nat} (hb : Bytes w b m) (N : Nat) (h0 : 0 < ((m.take N).map bv).length) : ∃ ad, b = some ad ∧ ∀ (j : Nat) (v : Value), ((m.take N).map bv)[j]? = some v → w.cell? (ad.add j) = some v := by
  simp at h0
  obtain ⟨b1, o1, c1, rfl, _⟩ := hb.at (k := 0) (by omega)
  refine ⟨_, rfl, fun j v hv => ?_⟩
  simp only [List.getElem?_map, Option.map_eq_some_iff] at hv
  obtain ⟨x, hx, rfl⟩ := hv
  have hj : j < m.length := by have := (List.getElem?_eq_some_iff.1 hx).1; simp at this; omega
  obtain ⟨b2, o2, c2, e, _, hc, _, hl⟩ := hb.at hj
  cases e
  have hadd : (⟨b1, o1, none⟩ : Addr).add j = ⟨b1, o1 + j, none⟩ := by unfold Addr.add; split <;> simp_all
  rw [hadd, hc]
  rw [List.getElem?_take] at hx
  split at hx
  · rw [hl] at hx; cases hx; rfl
  · cases hx
theorem rd_to {B : Nat} (g : Nat) (l q : List Nat) (x k : Nat) (K : Int) (w : World) (hR : RdAt w B g l false) (hK : K = k) (h1 : 1 ≤ k) (h7 : k ≤ 7) (hk : k ≤ l.length) (hx : x = Cod.rd (l.take k)) (hq : q = l.drop k) :
    Calls Try.prog 44 #[.pointer (some ⟨g, 0, none⟩), .int .i64 K] w (RdNumPost B g x q false w) := by
  subst hK hx hq
  exact rd_num_yes g l k w hR h1 h7 hk
set_option maxRecDepth 100000 in
set_option maxHeartbeats 1000000 in
theorem decode_any (s : List Nat) (w : World) (hl : s.length = 64) (hs : ∀ c ∈ s, c < 256) :
    Calls Try.prog 18 #[.agg Tb.tabV, .agg (byteCells s)] w (FrmPost (decF s) w) := by
  have hz := (zero_of_info Try.infoFrame).1
  have hone := FC_one Fr.zero
  have HIZ := Lib.hid (size_frm (f := Fr.zero) (by simp [Fr.zero]))
  have HI := Lib.hid (size_sec hl)
  have hIT := size_tab
  have hOP := fun (W : World) (g : Nat) hb => open_at (some ⟨g, 0, none⟩) s 64 W hb (fun e => by cases e) (by omega) (by omega) (by omega)
  rw [hl] at hOP
  rw [show 64 - 4 = 60 from rfl] at hOP
  obtain ⟨hT0, hF0, hS0⟩ := alloc3_at w (.cells Tb.tabV 28) (.cells (byteCells s) 31) (.cells (FC Fr.zero) 24)
  have hB0 := below3 w (.cells Tb.tabV 28) (.cells (byteCells s) 31) (.cells (FC Fr.zero) 24)
  have hsb := byteCells_row hF0 hs
  generalize hZ : FC Fr.zero = Z at *
  have HZ := Lib.hid hZ
  generalize hSC : byteCells s = SC at *
  have HSC := Lib.hid hSC
  clear hZ hSC
  by_cases hsum : s.drop 60 = Crc.le4 (Crc.sum (s.take 60))
  · have hb60 : (s.take 60).length = 60 := by simp; omega
    have hd : decF s = (if verF (s.take 60) = 1 ∧ rightF (parseF (s.take 60)) = true then (parseF (s.take 60), 0) else (Fr.zero, 10)) := by unfold decF; rw [if_pos hsum]
    have HO := Lib.hid (fun W g hb => hOP W g hb)
    have hb8 : ∀ c ∈ s.take 60, c < 256 := fun c hc => hs c (List.mem_of_mem_take hc)
    have HOP := Lib.hid (show ∀ (W : World) (g : Nat), Bytes W (some ⟨g, 0, none⟩) s → Calls Try.prog 42 #[.agg Tb.tabV, .slice (some ⟨g, 0, none⟩) 64 64] W (OpenPost (some (s.take 60)) 0 W) from fun W g hb => by have := HO.out W g hb; rw [if_pos hsum] at this; exact this)
    rw [hd]
    clear hOP HO hsum hd
    have hlT : Tb.tabV.toList.length = 256 := by rw [Array.length_toList, Tb.size_tabV]
    have h1T : ∀ v ∈ Tb.tabV.toList, v.oneCell' = true := by
      intro v hv
      have := Tb.one_tabV
      rw [Array.all_eq_true_iff_forall_mem] at this
      exact this v (by simpa using hv)
    have hIT' : (Try.prog.info? 28).map (·.size) = some Tb.tabV.toList.length := by rw [Array.length_toList]; exact hIT
    clear hIT
    generalize Tb.tabV = TV at *
    obtain ⟨TL⟩ := TV
    simp only at hlT h1T hIT'
    have hrT := range_row hT0
    have hu := Try.underlying28
    have hbs := hsb
    clear hsb
    generalize s.take 60 = b at *
    obtain ⟨r, hr⟩ : ∃ r : Fr × Int, (if verF b = 1 ∧ rightF (parseF b) = true then (parseF b, 0) else (Fr.zero, 10)) = r := ⟨_, rfl⟩
    rw [hr]
    have HRR := Lib.hid hr
    clear hr
    have HB60 := Lib.hid hb60
    have HB8 := Lib.hid hb8
    clear hb60 hb8
    go_enter Try.func18, Try.ntmps18
    go_wp2_with fail
    go_region_held3 (fun W => W.rangeAt w.heap.size 0 TL) (first | assumption | go_keep_ranges) (first | (go_at_call 42; refine (HOP.out _ (w.heap.size + 1) (hbs.below (Below.refl _ _).drew)).mono ?_; rintro e w1 ⟨⟨v1, rfl, hown1⟩, hB1⟩; have hown1' : OwnB w1 5 _ v1 b := hown1; obtain ⟨a1, c1, hv1, hb1, hn1, -⟩ := hown1'.bytes; subst hv1; have hr1 : w1.rangeAt w.heap.size 0 TL := range_row ((hB1.block w.heap.size (by simp; omega)).trans hT0)))
    have hB1' : Below w.heap.size w w1 := hB0.drew.trans (hB1.mono (by simp; omega))
    have hS1 := (hB1.block (w.heap.size + 1 + 1) (by simp)).trans hS0
    have z1 : w.heap.size + 1 + 1 < w1.heap.size := (Array.getElem?_eq_some_iff.1 hS1).1
    clear hrT hr1 hT0 hu hIT' hlT h1T hB1 hB0 hF0 hS0 hbs HOP hown1 hown1'
    have HNW := Lib.hid (rd_new a1 b c1 w1 hb1 hn1 (by rw [HB60.out]; omega))
    go_wp2_with fail
    refine HNW.out.mono ?_
    rintro e2 w2 ⟨g, rfl, hg, hR2, hB2⟩
    have hS2 := (hB2.block (w.heap.size + 1 + 1) (by omega)).trans hS1
    have hBw2 := hB1'.trans (hB2.mono (by omega))
    have hgH : w.heap.size + 1 + 1 < g := by omega
    have hgl := hR2.lt
    generalize w1.heap.size = B at hR2
    clear HNW hS1 hB1' hB2 hg z1 hb1 hn1
    obtain ⟨x0, hx0⟩ : ∃ x, x = Cod.rd (b.take 1) := ⟨_, rfl⟩
    obtain ⟨x1, hx1⟩ : ∃ x, x = Cod.rd ((b.drop 1).take 1) := ⟨_, rfl⟩
    obtain ⟨x2, hx2⟩ : ∃ x, x = Cod.rd ((b.drop 2).take 2) := ⟨_, rfl⟩
    obtain ⟨x3, hx3⟩ : ∃ x, x = Cod.rd ((b.drop 4).take 2) := ⟨_, rfl⟩
    obtain ⟨x4, hx4⟩ : ∃ x, x = Cod.rd ((b.drop 6).take 4) := ⟨_, rfl⟩
    obtain ⟨x5, hx5⟩ : ∃ x, x = Cod.rd ((b.drop 10).take 6) := ⟨_, rfl⟩
    have hbl := HB60.out
    have K0 := Lib.hid (fun W (hR : RdAt W B g b false) => rd_to g b (b.drop 1) x0 1 1 W hR rfl (by omega) (by omega) (by omega) hx0 rfl)
    have K1 := Lib.hid (fun W (hR : RdAt W B g (b.drop 1) false) => rd_to g (b.drop 1) (b.drop 2) x1 1 1 W hR rfl (by omega) (by omega) (by rw [List.length_drop]; omega) hx1 (by rw [List.drop_drop]))
    have K2 := Lib.hid (fun W (hR : RdAt W B g (b.drop 2) false) => rd_to g (b.drop 2) (b.drop 4) x2 2 2 W hR rfl (by omega) (by omega) (by rw [List.length_drop]; omega) hx2 (by rw [List.drop_drop]))
    have K3 := Lib.hid (fun W (hR : RdAt W B g (b.drop 4) false) => rd_to g (b.drop 4) (b.drop 6) x3 2 2 W hR rfl (by omega) (by omega) (by rw [List.length_drop]; omega) hx3 (by rw [List.drop_drop]))
    have K4 := Lib.hid (fun W (hR : RdAt W B g (b.drop 6) false) => rd_to g (b.drop 6) (b.drop 10) x4 4 4 W hR rfl (by omega) (by omega) (by rw [List.length_drop]; omega) hx4 (by rw [List.drop_drop]))
    have K5 := Lib.hid (fun W (hR : RdAt W B g (b.drop 10) false) => rd_to g (b.drop 10) (b.drop 16) x5 6 6 W hR rfl (by omega) (by omega) (by rw [List.length_drop]; omega) hx5 (by rw [List.drop_drop]))
    have K6 := Lib.hid (fun W (hR : RdAt W B g (b.drop 16) false) => rd_bytes_yes g (b.drop 16) 44 W hR (by rw [List.length_drop]; omega))
    have HX := Lib.hid (show parseF b = ⟨x0, x2, x3, x4, x5, (b.drop 16).take 44⟩ ∧ verF b = x1 by rw [hx0, hx1, hx2, hx3, hx4, hx5]; exact ⟨rfl, rfl⟩)
    clear hx0 hx1 hx2 hx3 hx4 hx5 hbl
    go_wp2_with fail
    refine (K0.out _ hR2).mono ?_
    rintro e3 w3 ⟨rfl, hR3, hO3⟩
    have hS3 := (hO3.block (w.heap.size + 1 + 1) (by omega) (by simp; omega)).trans hS2
    have hBw3 := hBw2.trans (hO3.below (by simp; omega) hBw2.size)
    have z3 := hO3.size
    obtain ⟨f0, hf0⟩ : ∃ f : Fr, f = ⟨x0, 0, 0, 0, 0, List.replicate 44 0⟩ := ⟨_, rfl⟩
    have hq0 : Z.setIfInBounds 0 (.int .i64 (x0 : Nat)) = FC f0 := by rw [← HZ.out, (FC_sets Fr.zero x0).1, hf0]; rfl
    have hze : ¬ Z = #[] := by
      intro h
      have : Z.size = 49 := by rw [← HZ.out, FC_size]; simp [Fr.zero]
      rw [h] at this
      simp at this
    have hone0 := FC_one f0
    have HIF0 := Lib.hid (size_frm (f := f0) (by rw [hf0]; simp))
    have HSZ0 := Lib.hid (show Z.size = (FC f0).size by rw [← HZ.out, FC_size, FC_size, hf0]; rfl)
    have HF0 := Lib.hid hf0
    clear hf0
    generalize hC0 : FC f0 = C0 at *
    have HC0 := Lib.hid hC0
    clear hC0
    have hba : Below w3.heap.size w3 (w3.alloc (.cells C0 24)) := (Below.refl _ _).alloc (Nat.le_refl _) _
    have hG4 := heap_alloc_new w3 (.cells C0 24)
    have hS4 := (hba.block (w.heap.size + 1 + 1) (by omega)).trans hS3
    have hR4 := hR3.below hba
    have hBw4 := hBw3.trans (hba.mono hBw3.size)
    go_wp2_with (first | (refine wpList_store_row rfl 24 _ _ rfl w3.heap.size C0 rfl rfl 24 Z (heap_alloc_new w3 _) HIF0.out HSZ0.out hone0 ?_; rw [World.setRow_alloc_new]))
    have hgf : g < w3.heap.size := by omega
    refine (K1.out _ hR4).mono ?_
    rintro e5 w5 ⟨rfl, hR5, hO5⟩
    have hS5 := (hO5.block (w.heap.size + 1 + 1) (by simp; omega) (by simp; omega)).trans hS4
    have hG5 := (hO5.block w3.heap.size (by simp) (by simp; omega)).trans hG4
    rw [← HC0.out] at hG5
    have hBw5 := hBw4.trans (hO5.below (by simp; omega) hBw4.size)
    have z5 := (Array.getElem?_eq_some_iff.1 hG5).1
    clear hS2 hBw2 hS3 hBw3 hS4 hBw4 hG4 hR4 hR2 hR3 hO3 hO5 hba
    go_wp2_with fail
    refine (K2.out _ hR5).mono ?_
    rintro e6 w6 ⟨rfl, hR6, hO6⟩
    have hS6 := (hO6.block (w.heap.size + 1 + 1) (by omega) (by simp; omega)).trans hS5
    have hG6 := (hO6.block w3.heap.size (by omega) (by simp; omega)).trans hG5
    have hBw6 := hBw5.trans (hO6.below (by simp; omega) hBw5.size)
    have z6 := hO6.size
    go_wp2_with fail
    refine (K3.out _ hR6).mono ?_
    rintro e7 w7 ⟨rfl, hR7, hO7⟩
    have hS7 := (hO7.block (w.heap.size + 1 + 1) (by omega) (by simp; omega)).trans hS6
    have hG7 := (hO7.block w3.heap.size (by omega) (by simp; omega)).trans hG6
    have hBw7 := hBw6.trans (hO7.below (by simp; omega) hBw6.size)
    have z7 := hO7.size
    go_wp2_with fail
    refine (K4.out _ hR7).mono ?_
    rintro e8 w8 ⟨rfl, hR8, hO8⟩
    have hS8 := (hO8.block (w.heap.size + 1 + 1) (by omega) (by simp; omega)).trans hS7
    have hG8 := (hO8.block w3.heap.size (by omega) (by simp; omega)).trans hG7
    have hBw8 := hBw7.trans (hO8.below (by simp; omega) hBw7.size)
    have z8 := hO8.size
    go_wp2_with fail
    refine (K5.out _ hR8).mono ?_
    rintro e9 w9 ⟨rfl, hR9, hO9⟩
    have hS9 := (hO9.block (w.heap.size + 1 + 1) (by omega) (by simp; omega)).trans hS8
    have hG9 := (hO9.block w3.heap.size (by omega) (by simp; omega)).trans hG8
    have hBw9 := hBw8.trans (hO9.below (by simp; omega) hBw8.size)
    have z9 := hO9.size
    clear hS5 hS6 hS7 hS8 hG5 hG6 hG7 hG8 hBw5 hBw6 hBw7 hBw8 hR5 hR6 hR7 hR8 hO6 hO7 hO8 hO9
    obtain ⟨-, d1, d2, d3, d4⟩ := frame_cells hG9
    have fz : ∀ i, w9.frozen? ⟨w3.heap.size, i, none⟩ = false := fun i => frozen_of_row _ _ _ _ _ hG9
    have fz1 := fz 1
    have fz2 := fz 2
    have fz3 := fz 3
    have fz4 := fz 4
    clear fz
    obtain ⟨wA, hwA⟩ : ∃ W : World, (((w9.setCell ⟨w3.heap.size, 1, none⟩ (.int .i64 x2)).setCell ⟨w3.heap.size, 2, none⟩ (.int .i64 x3)).setCell ⟨w3.heap.size, 3, none⟩ (.int .i64 x4)).setCell ⟨w3.heap.size, 4, none⟩ (.int .i64 x5) = W := ⟨_, rfl⟩
    have hOA : Only [w3.heap.size] w9 wA := by rw [← hwA]; exact ((((Only.refl _ _).setCell (by simp) _).setCell (by simp) _).setCell (by simp) _).setCell (by simp) _
    have hGA : wA.heap[w3.heap.size]? = some (.cells (FC ⟨x0, x2, x3, x4, x5, List.replicate 44 0⟩) 24 (0, 0)) := by
      rw [← hwA, heap_setCell_same _ _ _ _ _ _ (heap_setCell_same _ _ _ _ _ _ (heap_setCell_same _ _ _ _ _ _ (heap_setCell_same _ _ _ _ _ _ hG9)))]
      rw [(FC_sets _ _).2.1, (FC_sets _ _).2.2.1, (FC_sets _ _).2.2.2.1, (FC_sets _ _).2.2.2.2, HF0.out]
    have hSA := (hOA.block (w.heap.size + 1 + 1) (by omega) (by simp; omega)).trans hS9
    have hRA := hR9.only hOA (by simp; omega) (by simp; omega)
    have hBwA := hBw9.trans (hOA.below (by simp; omega) hBw9.size)
    have zA : w3.heap.size < wA.heap.size := (Array.getElem?_eq_some_iff.1 hGA).1
    have HWA := Lib.hid hwA
    clear hwA
    go_wp2_with fail
    rw [HWA.out]
    clear hOA hS9 hR9 hBw9 hG9 d1 d2 d3 d4 fz1 fz2 fz3 fz4 z9 z8 z7 z6 z5
    have hcur : (FC ⟨x0, x2, x3, x4, x5, List.replicate 44 0⟩).toList.length = 49 := by rw [Array.length_toList, FC_size]; simp
    have hbl : ((b.drop 16).take 44).length = 44 := by have := HB60.out; simp; omega
    obtain ⟨cur, hcu⟩ : ∃ cur, cur = (FC ⟨x0, x2, x3, x4, x5, List.replicate 44 0⟩).toList := ⟨_, rfl⟩
    have hGA' : wA.heap[w3.heap.size]? = some (.cells cur.toArray 24 (0, 0)) := by rw [hcu, Array.toArray_toList]; exact hGA
    rw [← hcu] at hcur
    obtain ⟨cs, hcs⟩ : ∃ cs, cs = ((b.drop 16).take 44).map bv := ⟨_, rfl⟩
    have hcsl : cs.length = 44 := by rw [hcs, List.length_map, hbl]
    have hsp : splice cur 5 cs = (FC ⟨x0, x2, x3, x4, x5, (b.drop 16).take 44⟩).toList := by rw [hcu, hcs]; exact splice_FC ⟨x0, x2, x3, x4, x5, List.replicate 44 0⟩ _ (by simp) hbl
    have h1c : ∀ v ∈ cs, v.oneCell' = true := by
      intro v hv
      rw [hcs] at hv
      simp only [List.mem_map] at hv
      obtain ⟨y, _, rfl⟩ := hv
      rfl
    have HSP := Lib.hid hsp
    have HCS := Lib.hid hcs
    have H1C := Lib.hid h1c
    have HFIT := Lib.hid (show 5 + cs.length ≤ cur.length by rw [hcsl, hcur]; omega)
    have HN44 := Lib.hid (show cs.length = Nat.min 44 44 by rw [hcsl]; rfl)
    have HCL := Lib.hid hcsl
    have HCUR := Lib.hid hcur
    have HGA := Lib.hid hGA'
    clear hsp hcs h1c hcsl hcur hcu hGA hGA' hbl
    have hszb : (Try.prog.info? 5).map (·.size) = some 1 := by kernel_rfl
    have HSZB := Lib.hid hszb
    clear hszb
    go_region_held3 (fun _ => True) (trivial) (first | (go_at_call 45; refine (K6.out _ (hRA.below (Below.refl _ _).drew)).mono ?_; rintro e10 w10 ⟨ax, rfl, hbx, hnx, hxx, hR10, hO10⟩; have hG10 := (hO10.block w3.heap.size (by simpa using zA) (by simp; omega)).trans HGA.out; have hS10 := (hO10.block (w.heap.size + 1 + 1) (by simp; omega) (by simp; omega)).trans hSA; have hBw10 := hBwA.drew.trans (hO10.below (by simp; omega) hBwA.size); have hsrc : ∃ ad, ax = some ad ∧ ∀ (j : Nat) (v : Value), cs[j]? = some v → w10.cell? (ad.add j) = some v := (by rw [HCS.out]; have h := src_cells hbx 44 (by have := HB60.out; simp; omega); rw [List.take_take] at h; simpa using h); have HSRC := Lib.hid hsrc; clear hsrc) | (refine step_copy_splice rfl (.tmp 41) (.tmp 43) 47 47 rfl 5 Try.underlying47 HSZB.out (some ⟨w3.heap.size, 5, none⟩) ax 44 44 44 44 (by rfl) (by rfl) w3.heap.size 5 cur 24 hG10 cs HN44.out (fun _ => ⟨rfl, HSRC.out⟩) HFIT.out H1C.out w3.heap.size _ (Below.refl _ _) (Nat.le_refl _) ?_; intro w11 HG11 hB11))
    obtain ⟨f2, hf2⟩ : ∃ f : Fr, f = ⟨x0, x2, x3, x4, x5, (b.drop 16).take 44⟩ := ⟨_, rfl⟩
    have hG11 : w11.heap[w3.heap.size]? = some (.cells (FC f2) 24 (0, 0)) := by
      have h := HG11.out
      rw [HSP.out, Array.toArray_toList, ← hf2] at h
      exact h
    have hl44 : f2.body.length = 44 := by rw [hf2]; have := HB60.out; simp; omega
    have HI2 := Lib.hid (size_frm hl44)
    have hone2 := FC_one f2
    have HSZ2 := Lib.hid (show Z.size = (FC f2).size by rw [← HZ.out, FC_size, FC_size, hl44]; simp [Fr.zero])
    have hR11 : RdAt w11 B g [] false := by
      have h := hR10.under hB11 hgf
      rw [List.drop_drop, List.drop_eq_nil_of_le (by have := HB60.out; omega)] at h
      exact h
    have hS11 := (hB11.block (w.heap.size + 1 + 1) (by omega)).trans hS10
    have hBw11 := hBw10.trans (hB11.mono (by omega))
    have HPX : Hid (parseF b = f2 ∧ verF b = x1) := by have h := HX.out; rw [← hf2] at h; exact h
    have HFR := Lib.hid (fun W => fright_any f2 W)
    have HL44 := Lib.hid hl44
    clear hl44
    clear hG10 hS10 hBw10 hB11 HG11 HSP HCS H1C HFIT HN44 HCL HCUR HGA HSZB HSRC hbx hnx hxx hR10 hO10 hf2 K0 K1 K2 K3 K4 K5 K6 HX hRA hSA hBwA
    by_cases hx1 : x1 = 1
    · have t1 : ((x1 : Int) != 1) = false := by rw [bne_eq_false_iff_eq]; omega
      have HX1 := Lib.hid hx1
      clear hx1
      obtain ⟨FA, hFA⟩ : ∃ FA, FC f2 = FA := ⟨_, rfl⟩
      have HIF2 := Lib.hid HI2.out
      rw [hFA] at hG11 hone2
      have hIF : (Try.prog.info? 24).map (·.size) = some FA.size := by rw [← hFA]; exact HI2.out
      have HSF := Lib.hid (show Z.size = FA.size by rw [← hFA]; exact HSZ2.out)
      have HFA := Lib.hid hFA
      have HIF := Lib.hid hIF
      rw [hFA] at HFR
      clear hFA hIF
      cases hrt : rightF f2
      · rw [hrt] at HFR
        have HR0 : Hid (r = (Fr.zero, 10)) := by
          have h := HRR.out
          rw [if_neg (by rw [HPX.out.1, hrt]; simp)] at h
          exact h.symm
        clear hrt
        go_wp2_with (first | (refine wpList_load_row_asked (by rfl) 24 _ rfl w3.heap.size rfl 24 _ _ _ hG11 Try.underlying24 rfl HIF.out ?_) | (go_at_call 23; refine (HFR.out _).mono ?_; rintro e12 w12 ⟨rfl, hB12⟩; have hS12 := (hB12.block (w.heap.size + 1 + 1) (Array.getElem?_eq_some_iff.1 hS11).1).trans hS11; have hG12 := (hB12.block w3.heap.size (Array.getElem?_eq_some_iff.1 hG11).1).trans hG11) | (refine wpList_store_row rfl 24 _ _ rfl (w.heap.size + 1 + 1) Z rfl rfl 24 Z hS12 HIZ.out rfl hone ?_))
        have hBw12 := hBw11.trans (hB12.mono hBw11.size)
        refine bodyPost_ret (results_row_tmp rfl _ _ (w.heap.size + 1 + 1) 24 Z _ _ rfl (setRow_heap _ _ _ _ _ _ hS12) Try.underlying24 rfl HIZ.out) rfl ?_
        rw [HR0.out]
        exact ⟨by rw [HZ.out]; rfl, below_setRow hBw12 (by omega) _⟩
      · rw [hrt] at HFR
        have HR0 : Hid (r = (f2, 0)) := by
          have h := HRR.out
          rw [if_pos ⟨by rw [HPX.out.2, HX1.out], by rw [HPX.out.1, hrt]⟩, HPX.out.1] at h
          exact h.symm
        have HDO := Lib.hid (fun W (hR : RdAt W B g [] false) => rd_done g [] false W hR (by simp))
        rw [show doneOf [] false = 0 from rfl] at HDO
        clear hrt
        go_wp2_with (first | (refine wpList_load_row_asked (by rfl) 24 _ rfl w3.heap.size rfl 24 _ _ _ hG11 Try.underlying24 rfl HIF.out ?_) | (go_at_call 23; refine (HFR.out _).mono ?_; rintro e12 w12 ⟨rfl, hB12⟩; have hS12 := (hB12.block (w.heap.size + 1 + 1) (Array.getElem?_eq_some_iff.1 hS11).1).trans hS11; have hG12 := (hB12.block w3.heap.size (Array.getElem?_eq_some_iff.1 hG11).1).trans hG11) | (go_at_call 46; refine (HDO.out _ (hR11.below hB12)).mono ?_; rintro e13 w13 ⟨rfl, rfl⟩) | (refine wpList_load_row rfl 24 _ rfl w3.heap.size rfl 24 _ _ _ hG12 Try.underlying24 rfl HIF.out ?_) | (refine wpList_store_row rfl 24 _ _ rfl (w.heap.size + 1 + 1) FA rfl rfl 24 Z hS12 HIF.out HSF.out hone2 ?_))
        have hBw12 := hBw11.trans (hB12.mono hBw11.size)
        refine bodyPost_ret (results_row_tmp rfl _ _ (w.heap.size + 1 + 1) 24 FA _ _ rfl (setRow_heap _ _ _ _ _ _ hS12) Try.underlying24 rfl HIF.out) rfl ?_
        rw [HR0.out]
        exact ⟨by rw [HFA.out]; rfl, below_setRow hBw12 (by omega) _⟩
    · have t1 : ((x1 : Int) != 1) = true := by rw [bne_iff_ne]; omega
      have HR0 : Hid (r = (Fr.zero, 10)) := by
        have h := HRR.out
        rw [if_neg (by rw [HPX.out.2]; rintro ⟨h, _⟩; exact hx1 h)] at h
        exact h.symm
      clear hx1
      go_wp2_with (refine wpList_store_row rfl 24 _ _ rfl (w.heap.size + 1 + 1) Z rfl rfl 24 Z hS11 HIZ.out rfl hone ?_)
      refine bodyPost_ret (results_row_tmp rfl _ _ (w.heap.size + 1 + 1) 24 Z _ _ rfl (setRow_heap _ _ _ _ _ _ hS11) Try.underlying24 rfl HIZ.out) rfl ?_
      rw [HR0.out]
      exact ⟨by rw [HZ.out]; rfl, below_setRow hBw11 (by omega) _⟩
  · have hd : decF s = (Fr.zero, 11) := by unfold decF; rw [if_neg hsum]
    have HO := Lib.hid (fun W g hb => hOP W g hb)
    have HOP := Lib.hid (show ∀ (W : World) (g : Nat), Bytes W (some ⟨g, 0, none⟩) s → Calls Try.prog 42 #[.agg Tb.tabV, .slice (some ⟨g, 0, none⟩) 64 64] W (OpenPost none 11 W) from fun W g hb => by have := HO.out W g hb; rw [if_neg hsum] at this; exact this)
    rw [hd]
    clear hOP HO hsum hd
    have hlT : Tb.tabV.toList.length = 256 := by rw [Array.length_toList, Tb.size_tabV]
    have h1T : ∀ v ∈ Tb.tabV.toList, v.oneCell' = true := by
      intro v hv
      have := Tb.one_tabV
      rw [Array.all_eq_true_iff_forall_mem] at this
      exact this v (by simpa using hv)
    have hIT' : (Try.prog.info? 28).map (·.size) = some Tb.tabV.toList.length := by rw [Array.length_toList]; exact hIT
    clear hIT
    generalize Tb.tabV = TV at *
    obtain ⟨TL⟩ := TV
    simp only at hlT h1T hIT'
    have hrT := range_row hT0
    have hu := Try.underlying28
    have hbs := hsb
    clear hsb
    go_enter Try.func18, Try.ntmps18
    go_wp2_with fail
    go_region_held3 (fun W => W.rangeAt w.heap.size 0 TL) (first | assumption | go_keep_ranges) (first | (go_at_call 42; refine (HOP.out _ (w.heap.size + 1) (hbs.below (Below.refl _ _).drew)).mono ?_; rintro e w1 ⟨⟨v1, rfl, rfl⟩, hB1⟩; have hr1 : w1.rangeAt w.heap.size 0 TL := range_row ((hB1.block w.heap.size (by simp; omega)).trans hT0)))
    have hB1' : Below w.heap.size w w1 := hB0.drew.trans (hB1.mono (by simp; omega))
    have hS1 := (hB1.block (w.heap.size + 1 + 1) (by simp)).trans hS0
    clear hrT hr1 hT0 hu hIT' hlT h1T
    go_wp2_with (refine wpList_store_row rfl 24 _ _ rfl (w.heap.size + 1 + 1) Z rfl rfl 24 Z hS1 HIZ.out rfl hone ?_)
    refine bodyPost_ret (results_row_tmp rfl _ _ (w.heap.size + 1 + 1) 24 Z _ _ rfl (setRow_heap _ _ _ _ _ _ hS1) Try.underlying24 rfl HIZ.out) rfl ?_
    exact ⟨by rw [HZ.out]; rfl, below_setRow hB1' (by omega) _⟩
end Go.Proofs.Ytfcadbeamojdpaa
