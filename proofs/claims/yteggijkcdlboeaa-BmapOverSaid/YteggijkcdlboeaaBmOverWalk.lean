/- Proved here: the walk of the law on a block that is set again. -/
import Derived.Test.YteggijkcdlboeaaBmAnchor
import Derived.Test.YteggijkcdlboeaaBmOps2
import Derived.Test.YteggijkcdlboeaaConf5
import Derived.LoopTactic
import Derived.Deep.Cut
import Derived.WalkLawsBesides
namespace Go.Rv
open Go.RowKit
theorem Only.setRow {S : List Nat} {a w : World} (h : Only S a w) {g : Nat} (hp : g ∈ S ∨ a.heap.size ≤ g) (cs : Array Value) : Only S a (w.setRow g cs) := by
  have h1 : Only [g] w (w.setRow g cs) := ⟨rfl, rfl, rfl, by simp [World.setRow], fun i hi hn => setRow_other w g i cs (by simp at hn; omega)⟩
  exact h.trans' h1 (by simp; exact hp)
end Go.Rv
namespace Go.Proofs.Yteggijkcdlboeaa
open Go.RowKit Go.Rv
set_option linter.unusedVariables false
theorem replicate_set_set (n k : Nat) (e f : BE) : ((List.replicate n BE.zero).set k e).set k f = (List.replicate n BE.zero).set k f := by simp
theorem replicate_set_zero (n k : Nat) : (List.replicate n BE.zero).set k BE.zero = List.replicate n BE.zero := by
  apply List.ext_getElem?
  intro i
  rw [List.getElem?_set]
  split
  · rename_i h
    subst h
    simp only [List.length_replicate, List.getElem?_replicate]
  · rfl
theorem over_live (n b k : Nat) (e : BE) (hk : k < b) (i : Nat) (hi : i < n) : (liveL n ((List.replicate b BE.zero).set k e))[i]? = some (if hits e i then (1 : Int) else 0) := by
  rw [liveL_at hi]
  have h1 := liveN_set (List.replicate b BE.zero) k BE.zero e i (by simp [hk])
  have h2 : liveN (List.replicate b BE.zero) i = 0 := by
    unfold liveN
    rw [List.filter_replicate]
    simp [hits, BE.zero]
  have h3 : hits BE.zero i = false := rfl
  rw [h1, h2, h3]
  simp
theorem over_count (b k : Nat) : countB ((List.replicate b BE.zero).set k BE.zero) 0 = b := by
  rw [replicate_set_zero]
  unfold countB
  rw [List.filter_replicate]
  simp [BE.zero]
/-- the map has been made, and its block is set to e -/
structure OverAt (g : Geo.G) (p le ll k0 : Nat) (e : BE) (w : World) : Prop where
  m : BmIs w p le ll g.b.toNat (nz g) g ((List.replicate g.b.toNat BE.zero).set k0 e) (liveL (nz g) ((List.replicate g.b.toNat BE.zero).set k0 e))
  r : beRight g e = true
  n : E64 e
theorem OverAt.only {g : Geo.G} {p le ll k0 : Nat} {e : BE} {S : List Nat} {w w' : World} (h : OverAt g p le ll k0 e w) (hO : Only S w w') (h1 : p ∉ S) (h2 : le ∉ S) (h3 : ll ∉ S) : OverAt g p le ll k0 e w' := ⟨h.m.only hO h1 h2 h3, h.r, h.n⟩
theorem OverAt.ok {g : Geo.G} {p le ll k0 : Nat} {e : BE} {w : World} (hr : Geo.right g = true) (h : OverAt g p le ll k0 e w) : MapOk g ((List.replicate g.b.toNat BE.zero).set k0 e) := (mapOk_new g hr).set h.r h.n k0
/-- the block is set again -/
theorem over_set (g : Geo.G) (hr : Geo.right g = true) (p le ll k0 : Nat) (hk : k0 < g.b.toNat) (e : BE) (w : World) (h : OverAt g p le ll k0 e w) (x : BE) (hx : E64 x) :
    Calls Try.prog 26 #[.pointer (some ⟨p, 0, none⟩), .int .i64 (k0 : Nat), .agg (BEC x)] w fun r w' => r = .returned (.int .i64 (if beRight g x = true then 0 else 10)) ∧ OverAt g p le ll k0 (if beRight g x = true then x else e) w' ∧ Only [le, ll] w w' := by
  have hl : ((List.replicate g.b.toNat BE.zero).set k0 e).length = g.b.toNat := by simp
  refine (bset_any w p le ll _ _ g _ hr (h.ok hr) h.m k0 x hx).mono ?_
  rintro r w' ⟨rfl, h1, h2⟩
  have hn : ¬ ((k0 : Int) < 0 ∨ (((List.replicate g.b.toNat BE.zero).set k0 e).length : Int) ≤ k0) := by rw [hl]; omega
  unfold setErr
  unfold setEs at h1
  rw [if_neg hn]
  rw [if_neg hn] at h1
  refine ⟨rfl, ?_, h2⟩
  by_cases hb : beRight g x = true
  · rw [if_pos hb] at h1 ⊢
    rw [Int.toNat_natCast, replicate_set_set] at h1
    exact ⟨h1, hb, hx⟩
  · rw [if_neg hb] at h1 ⊢
    exact ⟨h1, h.r, h.n⟩
theorem over_at (b k : Nat) (e : BE) (hk : k < b) : ((List.replicate b BE.zero).set k e)[k]? = some e := by rw [List.getElem?_set]; simp [hk]
theorem hits_cases (e : BE) (i : Nat) : ((e.st == 1) = false ∧ (if hits e i then (1 : Int) else 0) = 0) ∨ ((e.st == 1) = true ∧ ((i : Int) == e.z) = true ∧ (if hits e i then (1 : Int) else 0) = 1) ∨ ((e.st == 1) = true ∧ ((i : Int) == e.z) = false ∧ ((i : Int) == e.m) = true ∧ (if hits e i then (1 : Int) else 0) = 1) ∨ ((e.st == 1) = true ∧ ((i : Int) == e.z) = false ∧ ((i : Int) == e.m) = false ∧ (if hits e i then (1 : Int) else 0) = 0) := by
  unfold hits
  rw [Bool.beq_comm (a := e.z), Bool.beq_comm (a := e.m)]
  cases e.st == 1 <;> cases ((i : Int) == e.z) <;> cases ((i : Int) == e.m) <;> simp
set_option maxRecDepth 100000 in
set_option maxHeartbeats 8000000 in
theorem bm_over_core (g : Geo.G) (hr : Geo.right g = true) (a : Option Addr) (l : List BE) (cp : Nat) (k0 : Nat) (hk0 : k0 < g.b.toNat) (w : World) (hI : RowOf w 6 BEC E64 a l) (hl : l.length ≤ 60) :
    Calls Try.prog 8 #[.agg (GC g), .slice a l.length cp, .int .i64 (k0 : Nat)] w fun e w' => e = .returned (.bool true) ∧ Below w.heap.size w w' := by
  have hs := ((Geo.right_iff g).1 hr).1
  have HSM := Lib.hid hs
  have HA := Lib.hid (fun W => bm_anchor W)
  have HN := Lib.hid (fun W => bnew_any g hr W)
  have HST := Lib.hid (fun (p le ll : Nat) (e : BE) (W : World) (h : OverAt g p le ll k0 e W) (x : BE) (hx : E64 x) => over_set g hr p le ll k0 hk0 e W h x hx)
  have HI := Lib.hid hI
  have HGI := Lib.hid (gsize (g := g))
  have HAL := Lib.hid (fun W => gall_any g W hs)
  have HCS := Lib.hid (fun (W : World) (b : Nat) (hh : W.heap[b]? = some (.cells (GC g) 23 (0, 0))) => geo_cells hh)
  have hz := (zero_of_info Try.infoEnt).1
  have HIE := Lib.hid (fun e => esize e)
  have HON := Lib.hid (fun e => BEC_one e)
  have hnz : ((nz g : Nat) : Int) = g.d * g.z := by have := (Geo.dz_bd hs).1; unfold nz; omega
  have hnz2 : nz g ≤ 512 := by have := (Geo.dz_bd hs).2; omega
  have HNZ := Lib.hid hnz.symm
  have hgb1 := hs.2.2.2.1.1
  have hgb2 := hs.2.2.2.1.2
  have HSTART : Hid (∀ p le ll W, BmIs W p le ll g.b.toNat (nz g) g (List.replicate g.b.toNat BE.zero) (liveL (nz g) (List.replicate g.b.toNat BE.zero)) → OverAt g p le ll k0 BE.zero W) := Lib.hid (fun p le ll W h => ⟨by rw [replicate_set_zero]; exact h, zero_right g, rfl, rfl, rfl, rfl, rfl, rfl⟩)
  have t1 : decide (60 < (l.length : Int)) = false := decide_eq_false (by omega)
  have t2 : decide ((k0 : Int) < 0) = false := decide_eq_false (by omega)
  have t3 : decide (g.b ≤ (k0 : Int)) = false := decide_eq_false (by omega)
  have hal := (Below.refl w.heap.size w).alloc (Nat.le_refl _) (.cells (GC g) 23)
  have hnew := heap_alloc_new w (.cells (GC g) 23)
  have hz0 := hal.size
  have hz1 : w.heap.size < (w.alloc (.cells (GC g) 23)).heap.size := by simp
  clear hI hnz hs
  generalize hC : GC g = C at *
  have HC := Lib.hid hC
  clear hC
  generalize hZ : BEC BE.zero = Z at *
  have HZ := Lib.hid hZ
  have HIZ : Hid ((Try.prog.info? 41).map (·.size) = some Z.size) := Lib.hid (by rw [← hZ]; exact HIE.out _)
  have HOZ : Hid (Z.all (·.oneCell') = true) := Lib.hid (by rw [← hZ]; exact HON.out _)
  have HSZ : Hid (∀ e, Z.size = (BEC e).size) := Lib.hid (fun e => by rw [← hZ, BEC_size, BEC_size])
  clear hZ
  go_enter Try.func8, Try.ntmps8
  go_wp2_with fail
  refine (HA.out _).mono ?_
  rintro e w0 ⟨rfl, hB0⟩
  have hg0 := (hB0.block w.heap.size hz1).trans hnew
  have hBx := hal.trans (hB0.mono hal.size)
  have zz0 := hB0.size
  clear hal hnew hB0
  go_wp2_with (refine wpList_row_on (by rfl) 23 _ rfl w.heap.size rfl 23 _ _ _ hg0 Try.underlying23 rfl HGI.out ?_)
  refine (HN.out _).mono ?_
  rintro e w1 ⟨p, le, ll, rfl, hb1, q1, q2, q3, hB1⟩
  have hg1 := (hB1.block w.heap.size (by omega)).trans hg0
  have hBW := hBx.trans (hB1.mono hBx.size)
  have zz1 := hB1.size
  have hov := HSTART.out _ _ _ _ hb1
  have hlt1 := hb1.lt
  obtain ⟨-, -, -, c3, -⟩ := HCS.out _ _ hg1
  have hb2 : Below w1.heap.size w1 (w1.alloc (.cells Z 41)) := (Below.refl w1.heap.size w1).alloc (Nat.le_refl _) _
  have hla2 : (w1.alloc (.cells Z 41)).heap[w1.heap.size]? = some (.cells Z 41 (0, 0)) := heap_alloc_new w1 _
  have hov2 := hov.only (Only.of_below (S := []) hb2) (by simp) (by simp) (by simp)
  have hg2 := (hb2.block w.heap.size (by omega)).trans hg1
  have hBW2 := hBW.trans (hb2.mono (by have := hBW.size; omega))
  obtain ⟨W2, hW2⟩ : ∃ W2, w1.alloc (.cells Z 41) = W2 := ⟨_, rfl⟩
  have HW2 := Lib.hid hW2
  have z2 : W2.heap.size = w1.heap.size + 1 := by rw [← hW2]; simp
  rw [hW2] at hla2 hov2 hg2 hBW2
  have HOV := Lib.hid hov2
  have HG2 := Lib.hid hg2
  have HLA := Lib.hid hla2
  have hz2 : w1.heap.size < W2.heap.size := by omega
  have hz3 : W2.heap.size ≤ w1.heap.size + 1 := by omega
  clear hb1 hg0 hg1 hB1 hBx hov hb2 hla2 hov2 hg2 hBW hW2 z2 HSTART
  go_wp2_with (refine wpList_store_row rfl 41 _ _ rfl w1.heap.size Z rfl rfl 41 Z (heap_alloc_new w1 _) HIZ.out rfl HOZ.out ?_; rw [World.setRow_alloc_new])
  rw [HW2.out]
  clear c3
  go_loopw [47] (fun i wr => ∃ (k : Nat) (e : BE), k ≤ l.length ∧ i = .int .i64 k ∧ OverAt g p le ll k0 e wr ∧ wr.heap[w1.heap.size]? = some (.cells (BEC e) 41 (0, 0)) ∧ Only [le, ll, w1.heap.size] W2 wr) (fun i _ => l.length - (intOf i).toNat)
  case atStart => exact ⟨0, _, Nat.zero_le _, rfl, HOV.out, by rw [HZ.out]; exact HLA.out, Only.refl _ _⟩
  case round =>
    obtain ⟨k, e, hk, rfl, hov, hla, hO⟩ := hrel
    by_cases hlt : k < l.length
    · obtain ⟨x, hx⟩ : ∃ x, l[k]? = some x := ⟨_, List.getElem?_eq_getElem hlt⟩
      obtain ⟨b, o, rfl, hbl, hcx, he64⟩ := HI.out.at hx
      have key : ∀ j, j < 6 → wr.cell? ⟨b, o + k * 6 + j, none⟩ = (BEC x)[j]? := fun j hj => by
        rw [← hcx j hj]
        exact (World.cell?_of_block (a := ⟨b, o + k * 6 + j, none⟩) (hO.block b (by have := hBW2.size; omega) (by have := hBW2.size; simp; omega))).trans (hBW2.cell (p := ⟨b, o + k * 6 + j, none⟩) hbl)
      have d0 : wr.cell? ⟨b, o + k * 6, none⟩ = some (.int .i64 x.st) := key 0 (by omega)
      have d1 : wr.cell? ⟨b, o + k * 6 + 1, none⟩ = some (.int .i64 x.z) := key 1 (by omega)
      have d2 : wr.cell? ⟨b, o + k * 6 + 2, none⟩ = some (.int .i64 x.m) := key 2 (by omega)
      have d3 : wr.cell? ⟨b, o + k * 6 + 3, none⟩ = some (.int .i64 x.o) := key 3 (by omega)
      have d4 : wr.cell? ⟨b, o + k * 6 + 4, none⟩ = some (.int .i64 x.q) := key 4 (by omega)
      have d5 : wr.cell? ⟨b, o + k * 6 + 5, none⟩ = some (.int .i64 x.s) := key 5 (by omega)
      have zO := hO.size
      obtain ⟨WA, hWA⟩ : ∃ WA, wr.alloc (.cells (BEC x) 41) = WA := ⟨_, rfl⟩
      have hba : Below wr.heap.size wr WA := by rw [← hWA]; exact (Below.refl wr.heap.size wr).alloc (Nat.le_refl _) _
      have hop : WA.heap[wr.heap.size]? = some (.cells (BEC x) 41 (0, 0)) := by rw [← hWA]; exact heap_alloc_new wr _
      have zA : wr.heap.size < WA.heap.size := by rw [← hWA]; simp
      have HWA := Lib.hid hWA
      have HST1 := Lib.hid (HST.out p le ll e WA (hov.only (Only.of_below (S := []) hba) (by simp) (by simp) (by simp)) x he64)
      have hlaA := (hba.block w1.heap.size (by omega)).trans hla
      have hOA := hO.trans (Only.of_below (S := [le, ll, w1.heap.size]) hba)
      have HOP := Lib.hid hop
      have HLA1 := Lib.hid hlaA
      clear hcx hx key hWA hba hop hov hla hlaA HOV
      go_upto_region 10 with (refine wpList_store_row rfl 41 _ _ rfl wr.heap.size (BEC x) rfl rfl 41 Z (heap_alloc_new wr _) (HIE.out _) (HSZ.out _) (HON.out _) ?_; rw [World.setRow_alloc_new])
      rw [HWA.out]
      clear d0 d1 d2 d3 d4 d5
      cases hbr : beRight g x
      · rw [hbr] at HST1
        simp only [Bool.false_eq_true, if_false] at HST1
        clear hbr
        go_wp2_with (first | (refine wpList_load_row rfl 41 _ rfl wr.heap.size rfl 41 _ _ _ HOP.out Try.underlying41 rfl (HIE.out _) ?_) | (refine HST1.out.mono ?_; rintro y w3 ⟨rfl, hov3, hO3⟩; have hla3 := hO3.get HLA1.out (by simp; omega); have hg3 := (hOA.trans (hO3.mono (by simp))).get HG2.out (by simp; omega); have hO13 := hOA.trans (hO3.mono (T := [le, ll, w1.heap.size]) (by simp)); have HOV3 := Lib.hid hov3; have HLA3 := Lib.hid hla3; have HG3 := Lib.hid hg3; clear hov3 hla3 HST1 hO3) | (refine wpList_row_on (by rfl) 23 _ rfl w.heap.size rfl 23 _ _ _ hg3 Try.underlying23 rfl HGI.out ?_))
        refine (HAL.out _).mono ?_
        rintro y w4 ⟨rfl, hB4⟩
        have z4 := hB4.size
        have HOV4 := Lib.hid (HOV3.out.only (Only.of_below (S := []) hB4) (by simp) (by simp) (by simp))
        have hla4 := (hB4.block w1.heap.size (Array.getElem?_eq_some_iff.1 HLA3.out).1).trans HLA3.out
        have HLA4 := Lib.hid hla4
        have HO14 := Lib.hid (hO13.trans (Only.of_below (S := [le, ll, w1.heap.size]) hB4))
        have HLV := Lib.hid (fun i hi => over_live (nz g) g.b.toNat k0 e hk0 i hi)
        have l0 : w4.cell? ⟨w1.heap.size, 0, none⟩ = some (.int .i64 e.st) := (cell_of_row _ _ _ _ _ _ hla4).trans rfl
        have l1 : w4.cell? ⟨w1.heap.size, 1, none⟩ = some (.int .i64 e.z) := (cell_of_row _ _ _ _ _ _ hla4).trans rfl
        have l2 : w4.cell? ⟨w1.heap.size, 2, none⟩ = some (.int .i64 e.m) := (cell_of_row _ _ _ _ _ _ hla4).trans rfl
        rw [HNZ.out]
        clear hla4 HOV3 HLA3 hO13 hB4
        go_wp2
        go_loop [59] (fun j => ∃ i : Nat, i ≤ nz g ∧ j = .int .i64 i) (fun j => nz g - (intOf j).toNat)
        case atStart => exact ⟨0, Nat.zero_le _, rfl⟩
        case round =>
          obtain ⟨i, hi, rfl⟩ := hrel
          by_cases hlt2 : i < nz g
          · have hli := blive_in w4 p le ll _ _ g _ _ HOV4.out.m i _ (HLV.out i hlt2) (by rw [liveL_length]; omega)
            rcases hits_cases e i with ⟨c1, hv⟩ | ⟨c1, c2, hv⟩ | ⟨c1, c2, c3, hv⟩ | ⟨c1, c2, c3, hv⟩
            · rw [hv] at hli
              have HLI := Lib.hid hli
              clear hli hv
              go_wp2_with (refine HLI.out.mono ?_; rintro y2 w6 ⟨rfl, rfl⟩)
              go_round
              case rel => exact ⟨i + 1, by omega, by go_num⟩
              case measure => simp [intOf]; omega
            · rw [hv] at hli
              have HLI := Lib.hid hli
              clear hli hv
              go_wp2_with (refine HLI.out.mono ?_; rintro y2 w6 ⟨rfl, rfl⟩)
              go_round
              case rel => exact ⟨i + 1, by omega, by go_num⟩
              case measure => simp [intOf]; omega
            · rw [hv] at hli
              have HLI := Lib.hid hli
              clear hli hv
              go_wp2_with (refine HLI.out.mono ?_; rintro y2 w6 ⟨rfl, rfl⟩)
              go_round
              case rel => exact ⟨i + 1, by omega, by go_num⟩
              case measure => simp [intOf]; omega
            · rw [hv] at hli
              have HLI := Lib.hid hli
              clear hli hv
              go_wp2_with (refine HLI.out.mono ?_; rintro y2 w6 ⟨rfl, rfl⟩)
              go_round
              case rel => exact ⟨i + 1, by omega, by go_num⟩
              case measure => simp [intOf]; omega
          · obtain rfl : i = nz g := by omega
            go_wp2
            go_roundw
            case rel => exact ⟨k + 1, e, by omega, by go_num, HOV4.out, HLA4.out, HO14.out⟩
            case measure => simp [intOf]; omega
      · rw [hbr] at HST1
        simp only [if_true] at HST1
        clear hbr
        have HS2 := Lib.hid (show (BEC e).size = (BEC x).size by rw [BEC_size, BEC_size])
        go_wp2_with (refine wpList_load_row rfl 41 _ rfl wr.heap.size rfl 41 _ _ _ HOP.out Try.underlying41 rfl (HIE.out _) ?_)
        refine HST1.out.mono ?_
        rintro y w3 ⟨rfl, hov3, hO3⟩
        have hla3 := hO3.get HLA1.out (by simp; omega)
        have hop3 := hO3.get HOP.out (by simp; omega)
        have hg3 := (hOA.trans (hO3.mono (by simp))).get HG2.out (by simp; omega)
        have hO13 := hOA.trans (hO3.mono (T := [le, ll, w1.heap.size]) (by simp))
        have HOV3 := Lib.hid hov3
        have HLA3 := Lib.hid hla3
        have HOP3 := Lib.hid hop3
        have HG3 := Lib.hid hg3
        clear hov3 hla3 hg3 HST1 hO3 hop3
        go_upto_region 12 with (first | (refine wpList_load_row rfl 41 _ rfl wr.heap.size rfl 41 _ _ _ HOP3.out Try.underlying41 rfl (HIE.out _) ?_) | (refine wpList_store_row rfl 41 _ _ rfl w1.heap.size (BEC x) rfl rfl 41 (BEC e) HLA3.out (HIE.out _) HS2.out (HON.out _) ?_))
        obtain ⟨w5, hw5⟩ : ∃ w5, w3.setRow w1.heap.size (BEC x) = w5 := ⟨_, rfl⟩
        rw [hw5]
        have hO35 : Only [w1.heap.size] w3 w5 := by rw [← hw5]; exact (Only.refl _ _).setRow (.inl (by simp)) _
        have HLA5 : Hid (w5.heap[w1.heap.size]? = some (.cells (BEC x) 41 (0, 0))) := Lib.hid (by rw [← hw5]; exact setRow_heap _ _ _ _ _ _ HLA3.out)
        have HOV5 := Lib.hid (HOV3.out.only hO35 (by simp; omega) (by simp; omega) (by simp; omega))
        have hg5 := hO35.get HG3.out (by simp; omega)
        have hO15 := hO13.trans (hO35.mono (T := [le, ll, w1.heap.size]) (by simp))
        clear hw5 hO35 HOV3 HLA3 HG3 hO13
        go_wp2_with (refine wpList_row_on (by rfl) 23 _ rfl w.heap.size rfl 23 _ _ _ hg5 Try.underlying23 rfl HGI.out ?_)
        clear hg5
        refine (HAL.out _).mono ?_
        rintro y w4 ⟨rfl, hB4⟩
        have z4 := hB4.size
        have HOV4 := Lib.hid (HOV5.out.only (Only.of_below (S := []) hB4) (by simp) (by simp) (by simp))
        have hla4 := (hB4.block w1.heap.size (Array.getElem?_eq_some_iff.1 HLA5.out).1).trans HLA5.out
        have HLA4 := Lib.hid hla4
        have HO14 := Lib.hid (hO15.trans (Only.of_below (S := [le, ll, w1.heap.size]) hB4))
        have HLV := Lib.hid (fun i hi => over_live (nz g) g.b.toNat k0 x hk0 i hi)
        have l0 : w4.cell? ⟨w1.heap.size, 0, none⟩ = some (.int .i64 x.st) := (cell_of_row _ _ _ _ _ _ hla4).trans rfl
        have l1 : w4.cell? ⟨w1.heap.size, 1, none⟩ = some (.int .i64 x.z) := (cell_of_row _ _ _ _ _ _ hla4).trans rfl
        have l2 : w4.cell? ⟨w1.heap.size, 2, none⟩ = some (.int .i64 x.m) := (cell_of_row _ _ _ _ _ _ hla4).trans rfl
        rw [HNZ.out]
        clear hla4 HOV5 HLA5 hO15 hB4
        go_wp2
        go_loop [59] (fun j => ∃ i : Nat, i ≤ nz g ∧ j = .int .i64 i) (fun j => nz g - (intOf j).toNat)
        case atStart => exact ⟨0, Nat.zero_le _, rfl⟩
        case round =>
          obtain ⟨i, hi, rfl⟩ := hrel
          by_cases hlt2 : i < nz g
          · have hli := blive_in w4 p le ll _ _ g _ _ HOV4.out.m i _ (HLV.out i hlt2) (by rw [liveL_length]; omega)
            rcases hits_cases x i with ⟨c1, hv⟩ | ⟨c1, c2, hv⟩ | ⟨c1, c2, c3, hv⟩ | ⟨c1, c2, c3, hv⟩
            · rw [hv] at hli
              have HLI := Lib.hid hli
              clear hli hv
              go_wp2_with (refine HLI.out.mono ?_; rintro y2 w6 ⟨rfl, rfl⟩)
              go_round
              case rel => exact ⟨i + 1, by omega, by go_num⟩
              case measure => simp [intOf]; omega
            · rw [hv] at hli
              have HLI := Lib.hid hli
              clear hli hv
              go_wp2_with (refine HLI.out.mono ?_; rintro y2 w6 ⟨rfl, rfl⟩)
              go_round
              case rel => exact ⟨i + 1, by omega, by go_num⟩
              case measure => simp [intOf]; omega
            · rw [hv] at hli
              have HLI := Lib.hid hli
              clear hli hv
              go_wp2_with (refine HLI.out.mono ?_; rintro y2 w6 ⟨rfl, rfl⟩)
              go_round
              case rel => exact ⟨i + 1, by omega, by go_num⟩
              case measure => simp [intOf]; omega
            · rw [hv] at hli
              have HLI := Lib.hid hli
              clear hli hv
              go_wp2_with (refine HLI.out.mono ?_; rintro y2 w6 ⟨rfl, rfl⟩)
              go_round
              case rel => exact ⟨i + 1, by omega, by go_num⟩
              case measure => simp [intOf]; omega
          · obtain rfl : i = nz g := by omega
            go_wp2
            go_roundw
            case rel => exact ⟨k + 1, x, by omega, by go_num, HOV4.out, HLA4.out, HO14.out⟩
            case measure => simp [intOf]; omega
    · obtain rfl : k = l.length := by omega
      obtain ⟨hm, hrt, hn64⟩ := hov
      have HGET := Lib.hid (bget_in wr p le ll _ _ g _ _ hm k0 e (over_at _ _ _ hk0) (by simp; omega))
      have zO := hO.size
      have HOVX := Lib.hid (OverAt.mk hm hrt hn64)
      have HLAX := Lib.hid hla
      have HEQ : Hid (∀ W, (Op.equalIn 10000 41 (.agg (BEC e)) (.agg (BEC e))).run Try.prog W = .ok true W) := Lib.hid (fun W => by have := eq_be e e hn64 hn64 W; rwa [decide_eq_true rfl] at this)
      have HSTZ : Hid (∀ W, OverAt g p le ll k0 e W → Calls Try.prog 26 #[.pointer (some ⟨p, 0, none⟩), .int .i64 (k0 : Nat), .agg Z] W fun r w' => r = .returned (.int .i64 0) ∧ OverAt g p le ll k0 BE.zero w' ∧ Only [le, ll] W w') := Lib.hid (fun W h => by
        have := HST.out p le ll e W h BE.zero ⟨rfl, rfl, rfl, rfl, rfl, rfl⟩
        rwa [if_pos (zero_right g), if_pos (zero_right g), HZ.out] at this)
      have HCNT : Hid (∀ W, OverAt g p le ll k0 BE.zero W → Calls Try.prog 28 #[.pointer (some ⟨p, 0, none⟩), .int .i64 0] W fun e w' => e = .returned (.int .i64 g.b) ∧ Below W.heap.size W w') := Lib.hid (fun W h => by
        have := bcount_any W p le ll _ _ g _ _ h.m 0 (by simp; omega)
        rwa [over_count, Int.toNat_of_nonneg (by omega)] at this)
      clear hm hrt hn64 hla HST HI HOV HN HAL
      go_wp2_with fail
      refine HGET.out.mono ?_
      rintro y w3 ⟨rfl, hB3⟩
      go_upto_region 23 with (refine wpList_store_row rfl 41 _ _ rfl w3.heap.size (BEC e) rfl rfl 41 Z (heap_alloc_new w3 _) (HIE.out _) (HSZ.out _) (HON.out _) ?_; rw [World.setRow_alloc_new])
      obtain ⟨W4, hW4⟩ : ∃ W4, w3.alloc (.cells (BEC e) 41) = W4 := ⟨_, rfl⟩
      rw [hW4]
      have z3 := hB3.size
      have hB34 : Below wr.heap.size wr W4 := by rw [← hW4]; exact hB3.alloc z3 _
      have H14 : Hid (W4.heap[w3.heap.size]? = some (.cells (BEC e) 41 (0, 0))) := Lib.hid (by rw [← hW4]; exact heap_alloc_new w3 _)
      have z4 : w3.heap.size < W4.heap.size := by rw [← hW4]; simp
      have HLA4 := Lib.hid ((hB34.block w1.heap.size (by omega)).trans HLAX.out)
      have HOV4 := Lib.hid (HOVX.out.only (Only.of_below (S := []) hB34) (by simp) (by simp) (by simp))
      have HG4 := Lib.hid ((hO.trans (Only.of_below hB34)).get HG2.out (by simp; omega))
      have hO4 := hO.trans (Only.of_below hB34)
      have HO4 := Lib.hid hO4
      clear hW4 hB34 hB3 HGET HLAX HOVX hO hO4
      refine wp_region_stage 21 [.int .i64 0, .bool true, .bool true, .agg (BEC e), .agg (BEC e), .bool true, .bool true, .bool true, .pointer (some ⟨p, 0, none⟩), .int .i64 (k0 : Nat), .agg Z, .int .i64 0, .bool true, .bool true, .bool true, .pointer (some ⟨p, 0, none⟩), .int .i64 g.b, .pointer (some ⟨w.heap.size, 3, none⟩), .int .i64 g.b, .bool true, .bool true] [11] [0, 0, 0, 0, 0, 0, 0, 0, 0, 0, 0, 1, 1, 1, 1, 1, 1, 1, 1, 1, 1] (fun s W => Only [le, ll] W4 W ∧ OverAt g p le ll k0 (if s = 0 then e else BE.zero) W) ?raA (by kernel_rfl) (by kernel_rfl) (by kernel_rfl) ?rahA ?rah0 ?rahb ?raho ?rahend
      case rahA =>
        intro vv
        simp only [putRules, Nat.reduceAdd]
        rfl
      case rah0 =>
        exact ⟨(Only.refl _ _).drew, by rw [if_pos rfl]; exact HOV4.out.only (Only.refl [] _).drew (by simp) (by simp) (by simp)⟩
      case rahb =>
        intro s W W' ⟨h1, h2⟩ hB
        exact ⟨h1.trans (Only.of_below hB), h2.only (Only.of_below (S := []) hB) (by simp) (by simp) (by simp)⟩
      case raho =>
        refine ⟨?_, ?_, ?_, ?_, ?_, ?_, ?_, ?_, ?_, ?_, ?_, ?_, ?_, ?_, ?_, ?_, ?_, ?_, ?_, ?_, ?_, trivial⟩
        · intro vv W K s hlo hI hd HK
          simp only [confRules, conf5Rules] at HK
          clear hd
          go_wp2
          refine HK.out _ _ (Below.refl _ _) ?_
          rfl
        · intro vv W K s hlo hI hd HK
          simp only [confRules, conf5Rules] at hd HK
          have h0 := hd
          clear hd
          simp only [h0] at HK ⊢
          clear h0
          go_wp2
          refine HK.out _ _ (Below.refl _ _) ?_
          rfl
        · intro vv W K s hlo hI hd HK
          simp only [confRules, conf5Rules] at hd HK
          have h1 := hd
          clear hd
          simp only [h1] at HK ⊢
          clear h1
          go_wp2
          refine HK.out _ _ (Below.refl _ _) ?_
          rfl
        · intro vv W K s hlo hI hd HK
          simp only [confRules, conf5Rules] at hd HK
          have h2 := hd
          clear hd
          simp only [h2] at HK ⊢
          clear h2
          refine wpList_guard_yes (by rfl) ?_
          have hT := hI.1.get H14.out (by simp; omega)
          go_wp2_with (refine wpList_row_on (by rfl) 41 _ rfl w3.heap.size rfl 41 _ _ _ hT Try.underlying41 rfl (HIE.out _) ?_)
          refine HK.out _ _ (Below.refl _ _) ?_
          rfl
        · intro vv W K s hlo hI hd HK
          simp only [confRules, conf5Rules] at hd HK
          have h2 := hd
          clear hd
          simp only [h2] at HK ⊢
          clear h2
          refine wpList_guard_yes (by rfl) ?_
          have hT := hI.1.get HLA4.out (by simp; omega)
          go_wp2_with (refine wpList_row_on (by rfl) 41 _ rfl w1.heap.size rfl 41 _ _ _ hT Try.underlying41 rfl (HIE.out _) ?_)
          refine HK.out _ _ (Below.refl _ _) ?_
          rfl
        · intro vv W K s hlo hI hd HK
          simp only [confRules, conf5Rules] at hd HK
          obtain ⟨h3, h4, h2⟩ := hd
          simp only [h3, h4, h2] at HK ⊢
          clear h3 h4 h2
          refine wpList_guard_yes (by rfl) ?_
          go_wp2_with (refine wpList_eql_on (by rfl) 41 41 _ _ rfl (BEC e) (BEC e) rfl rfl (by kernel_rfl) true HEQ.out ?_)
          refine HK.out _ _ (Below.refl _ _) ?_
          rfl
        · intro vv W K s hlo hI hd HK
          simp only [confRules, conf5Rules] at hd HK
          obtain ⟨h2, h5⟩ := hd
          simp only [h2, h5] at HK ⊢
          clear h2 h5
          go_wp2
          refine HK.out _ _ (Below.refl _ _) ?_
          rfl
        · intro vv W K s hlo hI hd HK
          simp only [confRules, conf5Rules] at hd HK
          obtain ⟨h6, h2⟩ := hd
          simp only [h6, h2] at HK ⊢
          clear h6 h2
          go_wp2
          refine HK.out _ _ (Below.refl _ _) ?_
          rfl
        · intro vv W K s hlo hI hd HK
          simp only [confRules, conf5Rules] at hd HK
          have h7 := hd
          clear hd
          simp only [h7] at HK ⊢
          clear h7
          refine wpList_guard_yes (by rfl) ?_
          go_wp2
          refine HK.out _ _ (Below.refl _ _) ?_
          rfl
        · intro vv W K s hlo hI hd HK
          simp only [confRules, conf5Rules] at hd HK
          have h7 := hd
          clear hd
          simp only [h7] at HK ⊢
          clear h7
          refine wpList_guard_yes (by rfl) ?_
          go_wp2
          refine HK.out _ _ (Below.refl _ _) ?_
          rfl
        · intro vv W K s hlo hI hd HK
          simp only [confRules, conf5Rules] at hd HK
          have h7 := hd
          clear hd
          simp only [h7] at HK ⊢
          clear h7
          refine wpList_guard_yes (by rfl) ?_
          go_wp2
          refine HK.out _ _ (Below.refl _ _) ?_
          rfl
        · intro vv W K hI hd HK
          simp only [confRules, conf5Rules] at hd HK
          obtain ⟨h8, h9, h10, h7, _⟩ := hd
          simp only [h8, h9, h10, h7] at HK ⊢
          clear h8 h9 h10 h7
          refine wpList_guard_yes (by rfl) ?_
          obtain ⟨h1, h2⟩ := hI
          rw [if_pos rfl] at h2
          go_wp2_with (refine (HSTZ.out _ h2).mono ?_; rintro y w9 ⟨rfl, h9, hO9⟩)
          refine HK.out _ _ ⟨h1.trans hO9, by rw [if_neg (by omega)]; exact h9⟩ ?_
          rfl
        · intro vv W K s hlo hI hd HK
          simp only [confRules, conf5Rules] at hd HK
          obtain ⟨h11, h7⟩ := hd
          simp only [h11, h7] at HK ⊢
          clear h11 h7
          refine wpList_guard_yes (by rfl) ?_
          go_wp2
          refine HK.out _ _ (Below.refl _ _) ?_
          rfl
        · intro vv W K s hlo hI hd HK
          simp only [confRules, conf5Rules] at hd HK
          obtain ⟨h7, h12⟩ := hd
          simp only [h7, h12] at HK ⊢
          clear h7 h12
          go_wp2
          refine HK.out _ _ (Below.refl _ _) ?_
          rfl
        · intro vv W K s hlo hI hd HK
          simp only [confRules, conf5Rules] at hd HK
          obtain ⟨h13, h11⟩ := hd
          simp only [h13, h11] at HK ⊢
          clear h13 h11
          go_wp2
          refine HK.out _ _ (Below.refl _ _) ?_
          rfl
        · intro vv W K s hlo hI hd HK
          simp only [confRules, conf5Rules] at hd HK
          have h14 := hd
          clear hd
          simp only [h14] at HK ⊢
          clear h14
          refine wpList_guard_yes (by rfl) ?_
          go_wp2
          refine HK.out _ _ (Below.refl _ _) ?_
          rfl
        · intro vv W K s hlo hI hd HK
          simp only [confRules, conf5Rules] at hd HK
          obtain ⟨h15, h14, _⟩ := hd
          simp only [h15, h14] at HK ⊢
          clear h15 h14
          refine wpList_guard_yes (by rfl) ?_
          obtain ⟨h1, h2⟩ := hI
          have hlo' : 1 ≤ s := hlo
          rw [if_neg (by omega)] at h2
          go_wp2_with (refine (HCNT.out _ h2).mono ?_; rintro y w9 ⟨rfl, hB9⟩)
          refine HK.out _ _ hB9 ?_
          rfl
        · intro vv W K s hlo hI hd HK
          simp only [confRules, conf5Rules] at hd HK
          have h14 := hd
          clear hd
          simp only [h14] at HK ⊢
          clear h14
          refine wpList_guard_yes (by rfl) ?_
          go_wp2
          refine HK.out _ _ (Below.refl _ _) ?_
          rfl
        · intro vv W K s hlo hI hd HK
          simp only [confRules, conf5Rules] at hd HK
          obtain ⟨h17, h14⟩ := hd
          simp only [h17, h14] at HK ⊢
          clear h17 h14
          refine wpList_guard_yes (by rfl) ?_
          have hT := hI.1.get HG4.out (by simp; omega)
          obtain ⟨-, -, -, k3, -⟩ := HCS.out _ _ hT
          go_wp2
          refine HK.out _ _ (Below.refl _ _) ?_
          rfl
        · intro vv W K s hlo hI hd HK
          simp only [confRules, conf5Rules] at hd HK
          obtain ⟨h16, h18, h14⟩ := hd
          simp only [h16, h18, h14] at HK ⊢
          clear h16 h18 h14
          refine wpList_guard_yes (by rfl) ?_
          go_wp2
          refine HK.out _ _ (Below.refl _ _) ?_
          first | rfl | exact congrArg Value.bool (by simp)
        · intro vv W K s hlo hI hd HK
          simp only [confRules, conf5Rules] at hd HK
          obtain ⟨h14, h19⟩ := hd
          simp only [h14, h19] at HK ⊢
          clear h14 h19
          go_wp2
          refine HK.out _ _ (Below.refl _ _) ?_
          rfl
      case rahend =>
        intro vv W hI hf
        have e20 := hf 20 (by decide)
        simp only [conf5Rules] at e20
        simp only [e20, dropRules]
        clear hf e20
        go_wp2
        obtain ⟨hO5, -⟩ := hI
        have hO6 := HO4.out.trans' hO5 (by simp)
        go_ret
        exact ⟨rfl, hBW2.trans (hO6.below (by simp; omega) hBW2.size)⟩
set_option maxRecDepth 100000 in
set_option maxHeartbeats 2000000 in
theorem bm_over_walk (g : Geo.G) (a : Option Addr) (l : List BE) (cp : Nat) (blk : Int) (w : World) (hI : RowOf w 6 BEC E64 a l) :
    Calls Try.prog 8 #[.agg (GC g), .slice a l.length cp, .int .i64 blk] w fun e w' => e = .returned (.bool true) ∧ Below w.heap.size w w' := by
  by_cases hl : Geo.right g = true ∧ l.length ≤ 60 ∧ 0 ≤ blk ∧ blk < g.b
  · obtain ⟨h1, h2, h3, h4⟩ := hl
    obtain ⟨k0, rfl⟩ := Int.eq_ofNat_of_zero_le h3
    exact bm_over_core g h1 a l cp k0 (by omega) w hI h2
  · have HA := Lib.hid (fun W => bm_anchor W)
    have HGI := Lib.hid (gsize (g := g))
    have hal := (Below.refl w.heap.size w).alloc (Nat.le_refl _) (.cells (GC g) 23)
    have hnew := heap_alloc_new w (.cells (GC g) 23)
    have HCS := Lib.hid (fun (W : World) (b : Nat) (hh : W.heap[b]? = some (.cells (GC g) 23 (0, 0))) => geo_cells hh)
    cases hr : Geo.right g
    · have HN := Lib.hid (fun W => bnew_no g hr W)
      clear hI hl hr
      generalize GC g = C at *
      go_enter Try.func8, Try.ntmps8
      go_wp2_with fail
      refine (HA.out _).mono ?_
      rintro e w0 ⟨rfl, hB0⟩
      have hg0 := (hB0.block w.heap.size (by simp)).trans hnew
      have hBx := hal.trans (hB0.mono hal.size)
      clear hal hnew hB0
      go_wp2_with (refine wpList_row_on (by rfl) 23 _ rfl w.heap.size rfl 23 _ _ _ hg0 Try.underlying23 rfl HGI.out ?_)
      refine (HN.out _).mono ?_
      rintro e w1 ⟨rfl, hB1⟩
      have hBW := hBx.trans (hB1.mono hBx.size)
      go_wp2
      go_ret
      exact ⟨rfl, hBW⟩
    · have HN := Lib.hid (fun W => bnew_any g hr W)
      have hcs : decide (60 < (l.length : Int)) = true ∨ (decide (60 < (l.length : Int)) = false ∧ decide (blk < 0) = true) ∨ (decide (60 < (l.length : Int)) = false ∧ decide (blk < 0) = false ∧ decide (g.b ≤ blk) = true) := by
        by_cases c1 : l.length ≤ 60
        · by_cases c2 : 0 ≤ blk
          · refine .inr (.inr ⟨decide_eq_false (by omega), decide_eq_false (by omega), decide_eq_true ?_⟩)
            have : ¬ blk < g.b := fun h => hl ⟨hr, c1, c2, h⟩
            omega
          · exact .inr (.inl ⟨decide_eq_false (by omega), decide_eq_true (by omega)⟩)
        · exact .inl (decide_eq_true (by omega))
      clear hI hl hr
      generalize GC g = C at *
      rcases hcs with t1 | ⟨t1, t2⟩ | ⟨t1, t2, t3⟩
      · go_enter Try.func8, Try.ntmps8
        go_wp2_with fail
        refine (HA.out _).mono ?_
        rintro e w0 ⟨rfl, hB0⟩
        have hg0 := (hB0.block w.heap.size (by simp)).trans hnew
        have hBx := hal.trans (hB0.mono hal.size)
        clear hal hnew hB0
        go_wp2_with (refine wpList_row_on (by rfl) 23 _ rfl w.heap.size rfl 23 _ _ _ hg0 Try.underlying23 rfl HGI.out ?_)
        refine (HN.out _).mono ?_
        rintro e w1 ⟨p, le, ll, rfl, -, -, -, -, hB1⟩
        have hg1 := (hB1.block w.heap.size (Array.getElem?_eq_some_iff.1 hg0).1).trans hg0
        obtain ⟨-, -, -, c3, -⟩ := HCS.out _ _ hg1
        have hBW := hBx.trans (hB1.mono hBx.size)
        go_wp2
        go_ret
        exact ⟨rfl, hBW⟩
      · go_enter Try.func8, Try.ntmps8
        go_wp2_with fail
        refine (HA.out _).mono ?_
        rintro e w0 ⟨rfl, hB0⟩
        have hg0 := (hB0.block w.heap.size (by simp)).trans hnew
        have hBx := hal.trans (hB0.mono hal.size)
        clear hal hnew hB0
        go_wp2_with (refine wpList_row_on (by rfl) 23 _ rfl w.heap.size rfl 23 _ _ _ hg0 Try.underlying23 rfl HGI.out ?_)
        refine (HN.out _).mono ?_
        rintro e w1 ⟨p, le, ll, rfl, -, -, -, -, hB1⟩
        have hg1 := (hB1.block w.heap.size (Array.getElem?_eq_some_iff.1 hg0).1).trans hg0
        obtain ⟨-, -, -, c3, -⟩ := HCS.out _ _ hg1
        have hBW := hBx.trans (hB1.mono hBx.size)
        go_wp2
        go_ret
        exact ⟨rfl, hBW⟩
      · go_enter Try.func8, Try.ntmps8
        go_wp2_with fail
        refine (HA.out _).mono ?_
        rintro e w0 ⟨rfl, hB0⟩
        have hg0 := (hB0.block w.heap.size (by simp)).trans hnew
        have hBx := hal.trans (hB0.mono hal.size)
        clear hal hnew hB0
        go_wp2_with (refine wpList_row_on (by rfl) 23 _ rfl w.heap.size rfl 23 _ _ _ hg0 Try.underlying23 rfl HGI.out ?_)
        refine (HN.out _).mono ?_
        rintro e w1 ⟨p, le, ll, rfl, -, -, -, -, hB1⟩
        have hg1 := (hB1.block w.heap.size (Array.getElem?_eq_some_iff.1 hg0).1).trans hg0
        obtain ⟨-, -, -, c3, -⟩ := HCS.out _ _ hg1
        have hBW := hBx.trans (hB1.mono hBx.size)
        go_wp2
        go_ret
        exact ⟨rfl, hBW⟩
end Go.Proofs.Yteggijkcdlboeaa
