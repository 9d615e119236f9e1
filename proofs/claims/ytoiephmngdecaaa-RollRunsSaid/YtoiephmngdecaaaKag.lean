/- Proved here: the contract of the geometry's Domain; the contract of the geometry's Holds; a map of blocks in memory; contracts of Geom, Get, Live and Count; contracts of the map's Get and Geom; The law on drawn regions, its obligations' last premise hidden from the first: no long term is hidden by hand; the contract of the map's count. -/
import Derived.LoopTactic
import Derived.Deep.Cut
import Derived.Test.YtoiephmngdecaaaKaa
import Derived.Test.YtoiephmngdecaaaKac
import Derived.Test.YtoiephmngdecaaaKae
import Derived.Test.YtoiephmngdecaaaKaf
namespace Go.Proofs.Ytoiephmngdecaaa
open Go.RowKit Go.Rv
set_option linter.unusedVariables false
/-- a zone's domain -/
def domOf (g : Geo.G) (zone : Int) : Int := if 0 ≤ zone ∧ zone < g.d * g.z then zone / g.z else -1
theorem gsize {g : Geo.G} : (Try.prog.info? 23).map (·.size) = some (GC g).size := by rw [GC_size]; exact Try.infoGeom
set_option maxRecDepth 100000 in
set_option maxHeartbeats 1000000 in
theorem gdomain_any (g : Geo.G) (zone : Int) (w : World) (h : Geo.Small g) :
    Calls Try.prog 41 #[.agg (GC g), .int .i64 zone] w fun e w' => e = .returned (.int .i64 (domOf g zone)) ∧ Below w.heap.size w w' := by
  have HA := Lib.hid (fun W => gall_any g W h); have hg := heap_alloc_new w (.cells (GC g) 23); have hB : Below w.heap.size w (w.alloc (.cells (GC g) 23)) := (Below.refl _ _).alloc (Nat.le_refl _) _; have hcs := fun (W : World) (hh : W.heap[w.heap.size]? = some (.cells (GC g) 23 (0, 0))) => geo_cells hh; have HCS := Lib.hid hcs; have HS := Lib.hid (gsize (g := g)); have hzl := h.2.1.1; clear hcs; by_cases h1 : zone < 0
  · have t1 : decide (zone < 0) = true := decide_eq_true h1; have HR : Hid (domOf g zone = -1) := Lib.hid (if_neg (by omega)); rw [HR.out]; generalize GC g = C at *; clear hg h HR; go_enter Try.func41, Try.ntmps41; go_wp2; go_ret; exact ⟨rfl, hB⟩
  · have t1 : decide (zone < 0) = false := decide_eq_false h1; by_cases h2 : zone < g.d * g.z
    · have t2 : decide (g.d * g.z ≤ zone) = false := decide_eq_false (by omega); have HR : Hid (domOf g zone = zone / g.z) := Lib.hid (if_pos ⟨by omega, h2⟩); rw [HR.out]; have hz0 : 0 ≤ zone := by omega
      have hz1 : zone ≤ 512 := by have := (Geo.dz_bd h).2; omega
      have hz2 := h.2.1.2; generalize GC g = C at *; clear h h1 HR h2; go_enter Try.func41, Try.ntmps41; go_wp2_with (refine wpList_row_on (by rfl) 23 _ rfl w.heap.size rfl 23 _ _ _ hg Try.underlying23 rfl HS.out ?_); refine (HA.out _).mono ?_; rintro e w1 ⟨rfl, hB1⟩; have hg1 := (hB1.block w.heap.size (by simp)).trans hg; have hB2 := hB.trans (hB1.mono hB.size); obtain ⟨c0, c1, c2, c3, c4, c5⟩ := HCS.out _ hg1; clear hg hg1 hB hB1; go_wp2; go_ret; exact ⟨rfl, hB2⟩
    · have t2 : decide (g.d * g.z ≤ zone) = true := decide_eq_true (by omega); have HR : Hid (domOf g zone = -1) := Lib.hid (if_neg (by omega)); rw [HR.out]; generalize GC g = C at *; clear h h1 HR h2; go_enter Try.func41, Try.ntmps41; go_wp2_with (refine wpList_row_on (by rfl) 23 _ rfl w.heap.size rfl 23 _ _ _ hg Try.underlying23 rfl HS.out ?_); refine (HA.out _).mono ?_; rintro e w1 ⟨rfl, hB1⟩; have hB2 := hB.trans (hB1.mono hB.size); clear hg hB hB1; go_wp2; go_ret; exact ⟨rfl, hB2⟩
end Go.Proofs.Ytoiephmngdecaaa
namespace Go.Proofs.Ytoiephmngdecaaa
open Go.RowKit Go.Rv
set_option linter.unusedVariables false
/-- is there a sector? -/
def holdsG (g : Geo.G) (zone off : Int) : Bool := Geo.right g && (Geo.inB zone 0 (g.d * g.z - 1) && Geo.inB off 0 (g.s - 1))
set_option maxRecDepth 100000 in
set_option maxHeartbeats 1000000 in
theorem gholds_core (C : Array Value) (d z s zone off : Int) (r b1 b2 : Bool) (w : World) (hC : ∀ (W : World) (b : Nat), W.heap[b]? = some (.cells C 23 (0, 0)) → W.cell? ⟨b, 2, none⟩ = some (.int .i64 s)) (hI : (Try.prog.info? 23).map (·.size) = some C.size)
    (HR : ∀ W, Calls Try.prog 45 #[.agg C] W fun e w' => e = .returned (.bool r) ∧ Below W.heap.size W w')
    (HA : r = true → (∀ W, Calls Try.prog 46 #[.agg C] W fun e w' => e = .returned (.int .i64 (d * z)) ∧ Below W.heap.size W w') ∧ (1 ≤ d * z ∧ d * z ≤ 512) ∧ 1 ≤ s ∧ s ≤ 64)
    (h1 : ∀ W, Calls Try.prog 59 #[.int .i64 zone, .int .i64 0, .int .i64 (d * z - 1)] W fun e w' => e = .returned (.bool b1) ∧ W = w') (h2 : ∀ W, Calls Try.prog 59 #[.int .i64 off, .int .i64 0, .int .i64 (s - 1)] W fun e w' => e = .returned (.bool b2) ∧ W = w') :
    Calls Try.prog 40 #[.agg C, .int .i64 zone, .int .i64 off] w fun e w' => e = .returned (.bool (r && (b1 && b2))) ∧ Below w.heap.size w w' := by
  have HR := Lib.hid HR; have HA := Lib.hid HA; have H1 := Lib.hid h1; have H2 := Lib.hid h2; have HC := Lib.hid hC; have HS := Lib.hid hI; have hg := heap_alloc_new w (.cells C 23); have hB : Below w.heap.size w (w.alloc (.cells C 23)) := (Below.refl _ _).alloc (Nat.le_refl _) _; clear h1 h2 hC hI; go_enter Try.func40, Try.ntmps40; go_wp2_with (refine wpList_row_on (by rfl) 23 _ rfl w.heap.size rfl 23 _ _ _ hg Try.underlying23 rfl HS.out ?_); refine (HR.out _).mono ?_; rintro e w1 ⟨rfl, hB1⟩; have hg1 := (hB1.block w.heap.size (by simp)).trans hg; have hB2 := hB.trans (hB1.mono hB.size); have z1 := hB1.size; rw [World.size_alloc] at z1; clear hg hB hB1; cases r
  · go_wp2; go_ret; exact ⟨rfl, hB2⟩
  · obtain ⟨ha, ⟨hd1, hd2⟩, hs1, hs2⟩ := HA.out rfl; have HAA := Lib.hid ha; clear ha HA; go_wp2_with (refine wpList_row_on (by rfl) 23 _ rfl w.heap.size rfl 23 _ _ _ hg1 Try.underlying23 rfl HS.out ?_); refine (HAA.out _).mono ?_; rintro e w2 ⟨rfl, hB3⟩; have hg2 := (hB3.block w.heap.size (by omega)).trans hg1; have hB4 := hB2.trans (hB3.mono hB2.size); have c2 := HC.out _ _ hg2; clear hg1 hB2 hB3 hg2 z1; generalize d * z = dz at *; go_wp2_with fail; refine (H1.out _).mono ?_; rintro e w3 ⟨rfl, rfl⟩; cases b1
    · go_wp2; go_ret; exact ⟨rfl, hB4⟩
    · go_wp2_with fail; refine (H2.out _).mono ?_; rintro e w3 ⟨rfl, rfl⟩; go_wp2; go_ret; exact ⟨rfl, hB4⟩
theorem gholds_any (g : Geo.G) (zone off : Int) (w : World) :
    Calls Try.prog 40 #[.agg (GC g), .int .i64 zone, .int .i64 off] w fun e w' => e = .returned (.bool (holdsG g zone off)) ∧ Below w.heap.size w w' := by
  refine gholds_core (GC g) g.d g.z g.s zone off (Geo.right g) _ _ w (fun W b h => (geo_cells h).2.2.1) gsize (fun W => gright_any g W) (fun h => ?_) (fun W => gwithin_any zone 0 (g.d * g.z - 1) W) (fun W => gwithin_any off 0 (g.s - 1) W); have hs := ((Geo.right_iff g).1 h).1; refine ⟨fun W => gall_any g W hs, ⟨by have := (Geo.dz_bd hs).1; omega, (Geo.dz_bd hs).2⟩, ?_, hs.2.2.1.2⟩; have := hs.2.2.1.1; omega
end Go.Proofs.Ytoiephmngdecaaa
namespace Go.Proofs.Ytoiephmngdecaaa
open Go.RowKit Go.Rv
set_option linter.unusedVariables false
/-- an entry -/
structure BE where
  st : Int
  z : Int
  m : Int
  o : Int
  q : Int
  s : Int
deriving DecidableEq
def BE.zero : BE := ⟨0, 0, 0, 0, 0, 0⟩
def BEC (e : BE) : Array Value := #[.int .i64 e.st, .int .i64 e.z, .int .i64 e.m, .int .i64 e.o, .int .i64 e.q, .int .i64 e.s]
theorem BEC_one (e : BE) : (BEC e).all (·.oneCell') = true := by simp [BEC, Value.oneCell']
theorem BEC_size (e : BE) : (BEC e).size = 6 := rfl
theorem Try.infoEnt : (Try.prog.info? 54).map (fun i => (i.zero, i.size)) = some (some (.agg (BEC BE.zero)), 6) := by kernel_rfl
theorem esize (e : BE) : (Try.prog.info? 54).map (·.size) = some (BEC e).size := by rw [BEC_size]; kernel_rfl
/-- entries, cell by cell -/
def flatE (es : List BE) : List Value := es.flatMap fun e => (BEC e).toList
theorem flatE_length (es : List BE) : (flatE es).length = es.length * 6 := by
  induction es with
  | nil => rfl
  | cons e es ih => simp only [flatE, List.flatMap_cons, List.length_append, List.length_cons] at ih ⊢; rw [ih]; simp [BEC]; omega
theorem flatE_at : ∀ (es : List BE) (k j : Nat) (e : BE), es[k]? = some e → j < 6 → (flatE es)[k * 6 + j]? = (BEC e)[j]?
  | [], k, j, e, h, _ => by simp at h
  | x :: es, 0, j, e, h, hj => by
    simp at h; subst h; show ((BEC x).toList ++ flatE es)[0 * 6 + j]? = _; rw [List.getElem?_append_left (by simp [BEC]; omega)]; simp
  | x :: es, k + 1, j, e, h, hj => by
    show ((BEC x).toList ++ flatE es)[(k + 1) * 6 + j]? = _; rw [List.getElem?_append_right (by simp [BEC]; omega), show (k + 1) * 6 + j - (BEC x).toList.length = k * 6 + j by simp [BEC]; omega]; exact flatE_at es k j e (by simpa using h) hj
/-- a map's own cells -/
def mapC (g : Geo.G) (le n ce ll m cl : Nat) : Array Value := #[.int .i64 g.d, .int .i64 g.z, .int .i64 g.s, .int .i64 g.b, .int .i64 g.p, .int .i64 g.o, .slice (some ⟨le, 0, none⟩) n ce, .slice (some ⟨ll, 0, none⟩) m cl]
/-- block p is a map: its entries lie in block le, its counts in block ll -/
structure BmIs (w : World) (p le ll ce cl : Nat) (g : Geo.G) (es : List BE) (lv : List Int) : Prop where
  hp : w.heap[p]? = some (.cells (mapC g le es.length ce ll lv.length cl) 117 (0, 0))
  he : ∃ Lc : Array Value, w.heap[le]? = some (.cells Lc 54 (0, 0)) ∧ Lc.toList.take (es.length * 6) = flatE es
  hl : ∃ Vc : Array Value, w.heap[ll]? = some (.cells Vc 3 (0, 0)) ∧ Vc.toList.take lv.length = lv.map (Value.int .i64)
  h1 : es.length ≤ ce ∧ ce ≤ 9223372036854775807
  h2 : lv.length ≤ cl ∧ cl ≤ 9223372036854775807
theorem BmIs.ne {w : World} {p le ll ce cl : Nat} {g : Geo.G} {es : List BE} {lv : List Int} (h : BmIs w p le ll ce cl g es lv) : p ≠ le ∧ p ≠ ll ∧ le ≠ ll := by
  obtain ⟨L, hL, -⟩ := h.he; obtain ⟨V, hV, -⟩ := h.hl; refine ⟨fun e => ?_, fun e => ?_, fun e => ?_⟩
  · subst e; have := hL.symm.trans h.hp; simp at this
  · subst e; have := hV.symm.trans h.hp; simp at this
  · subst e; have := hV.symm.trans hL; simp at this
theorem BmIs.lt {w : World} {p le ll ce cl : Nat} {g : Geo.G} {es : List BE} {lv : List Int} (h : BmIs w p le ll ce cl g es lv) : p < w.heap.size ∧ le < w.heap.size ∧ ll < w.heap.size := by
  obtain ⟨L, hL, -⟩ := h.he; obtain ⟨V, hV, -⟩ := h.hl; exact ⟨(Array.getElem?_eq_some_iff.1 h.hp).1, (Array.getElem?_eq_some_iff.1 hL).1, (Array.getElem?_eq_some_iff.1 hV).1⟩
theorem BmIs.only {S : List Nat} {w w' : World} {p le ll ce cl : Nat} {g : Geo.G} {es : List BE} {lv : List Int} (h : BmIs w p le ll ce cl g es lv) (hb : Only S w w') (hp : p ∉ S) (he : le ∉ S) (hl : ll ∉ S) : BmIs w' p le ll ce cl g es lv := by
  obtain ⟨L, hL, hL2⟩ := h.he; obtain ⟨V, hV, hV2⟩ := h.hl; exact ⟨hb.get h.hp hp, ⟨L, hb.get hL he, hL2⟩, ⟨V, hb.get hV hl, hV2⟩, h.h1, h.h2⟩
theorem BmIs.below {w w' : World} {p le ll ce cl : Nat} {g : Geo.G} {es : List BE} {lv : List Int} (h : BmIs w p le ll ce cl g es lv) (hb : Below w.heap.size w w') : BmIs w' p le ll ce cl g es lv :=
  h.only (Only.of_below (S := []) hb) (by simp) (by simp) (by simp)
/-- the map's cells: the two slices, and the geometry -/
theorem BmIs.cells {w : World} {p le ll ce cl : Nat} {g : Geo.G} {es : List BE} {lv : List Int} (h : BmIs w p le ll ce cl g es lv) :
    w.cell? ⟨p, 6, none⟩ = some (.slice (some ⟨le, 0, none⟩) es.length ce) ∧ w.cell? ⟨p, 7, none⟩ = some (.slice (some ⟨ll, 0, none⟩) lv.length cl) :=
  ⟨(cell_of_row _ _ _ _ _ _ h.hp).trans rfl, (cell_of_row _ _ _ _ _ _ h.hp).trans rfl⟩
theorem BmIs.geo {w : World} {p le ll ce cl : Nat} {g : Geo.G} {es : List BE} {lv : List Int} (h : BmIs w p le ll ce cl g es lv) :
    w.cell? ⟨p, 0, none⟩ = some (.int .i64 g.d) ∧ w.cell? ⟨p, 1, none⟩ = some (.int .i64 g.z) ∧ w.cell? ⟨p, 2, none⟩ = some (.int .i64 g.s) ∧ w.cell? ⟨p, 3, none⟩ = some (.int .i64 g.b) ∧ w.cell? ⟨p, 4, none⟩ = some (.int .i64 g.p) ∧ w.cell? ⟨p, 5, none⟩ = some (.int .i64 g.o) :=
  ⟨(cell_of_row _ _ _ _ _ _ h.hp).trans rfl, (cell_of_row _ _ _ _ _ _ h.hp).trans rfl, (cell_of_row _ _ _ _ _ _ h.hp).trans rfl, (cell_of_row _ _ _ _ _ _ h.hp).trans rfl, (cell_of_row _ _ _ _ _ _ h.hp).trans rfl, (cell_of_row _ _ _ _ _ _ h.hp).trans rfl⟩
/-- an entry's cells -/
theorem BmIs.ent {w : World} {p le ll ce cl : Nat} {g : Geo.G} {es : List BE} {lv : List Int} (h : BmIs w p le ll ce cl g es lv) {k : Nat} {e : BE} (hk : es[k]? = some e) :
    w.cell? ⟨le, k * 6, none⟩ = some (.int .i64 e.st) ∧ w.cell? ⟨le, k * 6 + 1, none⟩ = some (.int .i64 e.z) ∧ w.cell? ⟨le, k * 6 + 2, none⟩ = some (.int .i64 e.m) ∧ w.cell? ⟨le, k * 6 + 3, none⟩ = some (.int .i64 e.o) ∧ w.cell? ⟨le, k * 6 + 4, none⟩ = some (.int .i64 e.q) ∧ w.cell? ⟨le, k * 6 + 5, none⟩ = some (.int .i64 e.s) := by
  obtain ⟨L, hL, hL2⟩ := h.he; have hkl : k < es.length := (List.getElem?_eq_some_iff.1 hk).1
  have key : ∀ j, j < 6 → w.cell? ⟨le, k * 6 + j, none⟩ = (BEC e)[j]? := fun j hj => by
    rw [cell_of_row _ _ _ _ _ _ hL, ← flatE_at es k j e hk hj, ← hL2, List.getElem?_take, if_pos (by omega), Array.getElem?_toList]
  exact ⟨key 0 (by omega), key 1 (by omega), key 2 (by omega), key 3 (by omega), key 4 (by omega), key 5 (by omega)⟩
theorem BmIs.live {w : World} {p le ll ce cl : Nat} {g : Geo.G} {es : List BE} {lv : List Int} (h : BmIs w p le ll ce cl g es lv) {k : Nat} {x : Int} (hk : lv[k]? = some x) : w.cell? ⟨ll, k, none⟩ = some (.int .i64 x) ∧ w.frozen? ⟨ll, k, none⟩ = false := by
  obtain ⟨V, hV, hV2⟩ := h.hl; have hkl : k < lv.length := (List.getElem?_eq_some_iff.1 hk).1; refine ⟨?_, frozen_of_row _ _ _ _ _ hV⟩; have h1 : (V.toList.take lv.length)[k]? = (lv.map (Value.int .i64))[k]? := by rw [hV2]
  rw [List.getElem?_take, if_pos hkl, Array.getElem?_toList] at h1; rw [cell_of_row _ _ _ _ _ _ hV, h1]; simp [hk]
/-- how many entries have a state -/
def countB (es : List BE) (s : Int) : Nat := (es.filter fun e => e.st == s).length
theorem countB_succ {es : List BE} {k : Nat} {e : BE} (s : Int) (h : es[k]? = some e) : countB (es.take (k + 1)) s = countB (es.take k) s + if e.st == s then 1 else 0 := by
  obtain ⟨hk, rfl⟩ := List.getElem?_eq_some_iff.1 h; unfold countB; rw [List.take_succ_eq_append_getElem hk, List.filter_append]; cases he : (es[k].st == s) <;> simp [he]
theorem countB_le (es : List BE) (s : Int) : countB es s ≤ es.length := List.length_filter_le _ _
set_option maxRecDepth 100000 in
set_option maxHeartbeats 2000000 in
theorem bcount_any (w : World) (p le ll ce cl : Nat) (g : Geo.G) (es : List BE) (lv : List Int) (h : BmIs w p le ll ce cl g es lv) (s : Int) (hn : es.length ≤ 100000) :
    Calls Try.prog 24 #[.pointer (some ⟨p, 0, none⟩), .int .i64 s] w fun e w' => e = .returned (.int .i64 (countB es s : Nat)) ∧ Below w.heap.size w w' := by
  obtain ⟨c6, c7⟩ := h.cells; have h1 := h.h1; have HB := Lib.hid h; have hz := (zero_of_info Try.infoEnt).1; have HIE := Lib.hid (fun e => esize e); have HON := Lib.hid (fun e => BEC_one e); clear h; go_enter Try.func24, Try.ntmps24; go_wp2; go_loopw [5, 13] (fun n i wr => ∃ k : Nat, k ≤ es.length ∧ i = .int .i64 k ∧ n = .int .i64 (countB (es.take k) s : Nat) ∧ Below w.heap.size w wr) (fun _ i _ => es.length - (intOf i).toNat)
  case atStart => exact ⟨0, Nat.zero_le _, rfl, by simp [countB], Below.refl _ _⟩
  case round =>
    obtain ⟨k, hk, rfl, rfl, hB⟩ := hrel; by_cases hlt : k < es.length
    · obtain ⟨e, he⟩ : ∃ e, es[k]? = some e := ⟨_, List.getElem?_eq_getElem hlt⟩; have hbw := HB.out.below hB; obtain ⟨e0, e1, e2, e3, e4, e5⟩ := hbw.ent he; have HS := Lib.hid (countB_succ s he); have hcl := countB_le (es.take k) s; rw [List.length_take] at hcl; have hB2 := hB.alloc hB.size (.cells (BEC e) 54); have HB2 := Lib.hid hB2; generalize countB (es.take k) s = cn at *; have hce : (wr.alloc (.cells (BEC e) 54)).cell? ⟨wr.heap.size, 0, none⟩ = some (.int .i64 e.st) := (cell_of_row _ _ _ _ _ _ (heap_alloc_new wr _)).trans rfl; clear hbw hB2 he; cases hs : (e.st == s)
      · rw [hs] at HS; go_wp2_with (refine wpList_store_row rfl 54 _ _ rfl wr.heap.size (BEC e) rfl rfl 54 (BEC BE.zero) (heap_alloc_new wr _) (HIE.out _) rfl (HON.out _) ?_; rw [World.setRow_alloc_new]); go_roundw
        case rel => exact ⟨k + 1, by omega, by go_num, by rw [HS.out]; go_num, HB2.out⟩
        case measure => simp [intOf]; omega
      · rw [hs] at HS; go_wp2_with (refine wpList_store_row rfl 54 _ _ rfl wr.heap.size (BEC e) rfl rfl 54 (BEC BE.zero) (heap_alloc_new wr _) (HIE.out _) rfl (HON.out _) ?_; rw [World.setRow_alloc_new]); go_roundw
        case rel => exact ⟨k + 1, by omega, by go_num, by rw [HS.out]; go_num, HB2.out⟩
        case measure => simp [intOf]; omega
    · obtain rfl : k = es.length := by omega
      rw [List.take_length]; go_wp2; go_ret; exact ⟨rfl, hB⟩
end Go.Proofs.Ytoiephmngdecaaa
namespace Go.Rv
open Go.RowKit
theorem res_row_tmp {P : Program} {fn : Func} {p q : Tmp} {ty : TypeId} (h : fn.results = #[.cell p ty, .tmp q]) (tmps : Array Value) (w : World) (g : Nat) (t : TypeId) (cs : Array Value) (fr : Nat × Nat) (d : TypeDesc)
    (hp : tmps.getD p undef = .pointer (some ⟨g, 0, none⟩)) (hg : w.heap[g]? = some (.cells cs t fr))
    (hu : P.underlying ty = some d) (hd : (match d with | .struct _ | .array _ _ => true | _ => false) = true) (hi : (P.info? ty).map (·.size) = some cs.size) :
    (results fn tmps).run P w = .ok (.tuple #[.agg cs, tmps.getD q undef]) w := by
  have hp' : tmps[p]?.getD undef = .pointer (some ⟨g, 0, none⟩) := by simpa using hp
  simp [results, h, hp', asAddr, run_loadVar_row w g t ty cs fr d hg hu hd hi]
theorem res_row {P : Program} {fn : Func} {p : Tmp} {ty : TypeId} (h : fn.results = #[.cell p ty]) (tmps : Array Value) (w : World) (g : Nat) (t : TypeId) (cs : Array Value) (fr : Nat × Nat) (d : TypeDesc)
    (hp : tmps.getD p undef = .pointer (some ⟨g, 0, none⟩)) (hg : w.heap[g]? = some (.cells cs t fr))
    (hu : P.underlying ty = some d) (hd : (match d with | .struct _ | .array _ _ => true | _ => false) = true) (hi : (P.info? ty).map (·.size) = some cs.size) :
    (results fn tmps).run P w = .ok (.agg cs) w := by
  have hp' : tmps[p]?.getD undef = .pointer (some ⟨g, 0, none⟩) := by simpa using hp
  simp [results, h, hp', asAddr, run_loadVar_row w g t ty cs fr d hg hu hd hi]
end Go.Rv
namespace Go.Proofs.Ytoiephmngdecaaa
open Go.RowKit Go.Rv
set_option linter.unusedVariables false
set_option maxRecDepth 100000 in
set_option maxHeartbeats 1000000 in
theorem bget_in (w : World) (p le ll ce cl : Nat) (g : Geo.G) (es : List BE) (lv : List Int) (h : BmIs w p le ll ce cl g es lv) (k : Nat) (e : BE) (hk : es[k]? = some e) (hn : es.length ≤ 100000) :
    Calls Try.prog 19 #[.pointer (some ⟨p, 0, none⟩), .int .i64 (k : Nat)] w fun x w' => x = .returned (.tuple #[.agg (BEC e), .int .i64 0]) ∧ Below w.heap.size w w' := by
  have hz := (zero_of_info Try.infoEnt).1; have hal := (Below.refl w.heap.size w).alloc (Nat.le_refl _) (.cells (BEC BE.zero) 54); obtain ⟨c6, c7⟩ := (h.below hal).cells; obtain ⟨e0, e1, e2, e3, e4, e5⟩ := (h.below hal).ent hk; have hkl : k < es.length := (List.getElem?_eq_some_iff.1 hk).1; have h1 := h.h1; have HIE := Lib.hid (fun e => esize e); have HON := Lib.hid (fun e => BEC_one e); have hB2 : Below w.heap.size w (w.alloc (.cells (BEC e) 54)) := (Below.refl w.heap.size w).alloc (Nat.le_refl _) _; have hnew := heap_alloc_new w (.cells (BEC e) 54); clear h hk; go_enter Try.func19, Try.ntmps19; go_wp2_with (refine wpList_store_row rfl 54 _ _ rfl w.heap.size (BEC e) rfl rfl 54 (BEC BE.zero) (heap_alloc_new w _) (HIE.out _) rfl (HON.out _) ?_; rw [World.setRow_alloc_new]); refine bodyPost_ret (res_row_tmp rfl _ _ w.heap.size 54 (BEC e) _ _ rfl hnew Try.underlying54 rfl (HIE.out _)) rfl ?_; exact ⟨rfl, hB2⟩
set_option maxRecDepth 100000 in
set_option maxHeartbeats 1000000 in
theorem bget_out (w : World) (p le ll ce cl : Nat) (g : Geo.G) (es : List BE) (lv : List Int) (h : BmIs w p le ll ce cl g es lv) (k : Int) (hk : k < 0 ∨ (es.length : Int) ≤ k) :
    Calls Try.prog 19 #[.pointer (some ⟨p, 0, none⟩), .int .i64 k] w fun x w' => x = .returned (.tuple #[.agg (BEC BE.zero), .int .i64 13]) ∧ Below w.heap.size w w' := by
  have hz := (zero_of_info Try.infoEnt).1; have hal := (Below.refl w.heap.size w).alloc (Nat.le_refl _) (.cells (BEC BE.zero) 54); obtain ⟨c6, c7⟩ := (h.below hal).cells; have HIE := Lib.hid (fun e => esize e); have HON := Lib.hid (fun e => BEC_one e); have hnew := heap_alloc_new w (.cells (BEC BE.zero) 54); have HNEW := Lib.hid hnew; clear h hnew; generalize hZ : BEC BE.zero = Z at *; have hsz : Z.size = Z.size := rfl; have HSZ : Hid ((Try.prog.info? 54).map (·.size) = some Z.size) := Lib.hid (by rw [← hZ]; exact HIE.out _); have HOZ : Hid (Z.all (·.oneCell') = true) := Lib.hid (by rw [← hZ]; exact HON.out _); clear hZ hsz; rcases hk with hk | hk
  · have t1 : decide (k < 0) = true := decide_eq_true hk; clear hk; go_enter Try.func19, Try.ntmps19; go_wp2_with (refine wpList_store_row rfl 54 _ _ rfl w.heap.size Z rfl rfl 54 Z (heap_alloc_new w _) HSZ.out rfl HOZ.out ?_; rw [World.setRow_alloc_new]); refine bodyPost_ret (res_row_tmp rfl _ _ w.heap.size 54 Z _ _ rfl HNEW.out Try.underlying54 rfl HSZ.out) rfl ?_; exact ⟨rfl, hal⟩
  · have t1 : decide (k < 0) = false := decide_eq_false (by omega); have t2 : decide ((es.length : Int) ≤ k) = true := decide_eq_true hk; clear hk; go_enter Try.func19, Try.ntmps19; go_wp2_with (refine wpList_store_row rfl 54 _ _ rfl w.heap.size Z rfl rfl 54 Z (heap_alloc_new w _) HSZ.out rfl HOZ.out ?_; rw [World.setRow_alloc_new]); refine bodyPost_ret (res_row_tmp rfl _ _ w.heap.size 54 Z _ _ rfl HNEW.out Try.underlying54 rfl HSZ.out) rfl ?_; exact ⟨rfl, hal⟩
theorem Try.infoGeoZ : (Try.prog.info? 23).map (fun i => (i.zero, i.size)) = some (some (.agg (GC ⟨0, 0, 0, 0, 0, 0⟩)), 6) := by kernel_rfl
set_option maxRecDepth 100000 in
set_option maxHeartbeats 1000000 in
theorem bgeom_any (w : World) (p le ll ce cl : Nat) (g : Geo.G) (es : List BE) (lv : List Int) (h : BmIs w p le ll ce cl g es lv) :
    Calls Try.prog 29 #[.pointer (some ⟨p, 0, none⟩)] w fun x w' => x = .returned (.agg (GC g)) ∧ Below w.heap.size w w' := by
  have hz := (zero_of_info Try.infoGeoZ).1; have hal := (Below.refl w.heap.size w).alloc (Nat.le_refl _) (.cells (GC ⟨0, 0, 0, 0, 0, 0⟩) 23); obtain ⟨c0, c1, c2, c3, c4, c5⟩ := (h.below hal).geo; have HIE := Lib.hid (gsize (g := g)); have HON := Lib.hid (GC_one g); have hB2 : Below w.heap.size w (w.alloc (.cells (GC g) 23)) := (Below.refl w.heap.size w).alloc (Nat.le_refl _) _; have hnew := heap_alloc_new w (.cells (GC g) 23); clear h; go_enter Try.func29, Try.ntmps29; go_wp2_with (refine wpList_store_row rfl 23 _ _ rfl w.heap.size (GC g) rfl rfl 23 (GC ⟨0, 0, 0, 0, 0, 0⟩) (heap_alloc_new w _) HIE.out rfl HON.out ?_; rw [World.setRow_alloc_new]); refine bodyPost_ret (res_row rfl _ _ w.heap.size 23 (GC g) _ _ rfl hnew Try.underlying23 rfl HIE.out) rfl ?_; exact ⟨rfl, hB2⟩
end Go.Proofs.Ytoiephmngdecaaa
namespace Go.Rv
open Go.RowKit
def Obl2 (P : Program) (ops : Array Oper) (Q : Exit → Act → World → Prop) (A : (Nat → Value) → Act) (w0 : World) (Φ : List Fact) (i : Nat) (o : Oper) : Prop :=
  ∀ (v : Nat → Value) (w : World) (K : Act → World → Prop), Below w0.heap.size w0 w → Deps Φ v w o.after.toList →
    Hid (∀ u w', Below w.heap.size w w' → (Φ.getD i Fact.any).p u w' → K ((A v).put o.dst u) w') → wpList P ops (Exit.then K Q) [o] (A v) w
def Obls2 (P : Program) (ops : Array Oper) (Q : Exit → Act → World → Prop) (A : (Nat → Value) → Act) (w0 : World) (Φ : List Fact) : Nat → List Oper → Prop
  | _, [] => True
  | i, o :: r => Obl2 P ops Q A w0 Φ i o ∧ Obls2 P ops Q A w0 Φ (i + 1) r
theorem obls_of2 {P : Program} {ops : Array Oper} {Q : Exit → Act → World → Prop} {A : (Nat → Value) → Act} {w0 : World} {Φ : List Fact} : ∀ {i : Nat} {l : List Oper}, Obls2 P ops Q A w0 Φ i l → Obls P ops Q A w0 Φ i l
  | _, [], _ => trivial
  | _, _ :: _, h => ⟨fun v w K hB hd hK => h.1 v w K hB hd (Lib.hid hK), obls_of2 h.2⟩
theorem wp_region_conf2 {P : Program} {ops : Array Oper} {Q : Exit → Act → World → Prop} {a0 : Act} {w0 : World} {id : Nat} (n : Nat) (Φ : List Fact) (A : (Nat → Value) → Act) (hm : P.follows .mixedOrders = true) (hok : confOk ops n = true)
    (hA : ∀ v, putAll v 0 (ops.toList.take n) a0 = A v) (ho : Obls2 P ops Q A w0 Φ 0 (ops.toList.take n))
    (hend : ∀ v w, Below w0.heap.size w0 w → (∀ j, j < n → (Φ.getD j Fact.any).p (v j) w) → wpList P ops Q (ops.toList.drop n) (A v) w) : (Code.region id ops true).wp P Q a0 w0 :=
  wp_region_conf n Φ A hm hok hA (obls_of2 ho) hend
end Go.Rv
namespace Go.Proofs.Ytoiephmngdecaaa
open Go.RowKit Go.Rv
set_option linter.unusedVariables false
theorem BmIs.setLive {w : World} {p le ll ce cl : Nat} {g : Geo.G} {es : List BE} {lv : List Int} (h : BmIs w p le ll ce cl g es lv) {k : Nat} (hk : k < lv.length) (v : Int) :
    BmIs (w.setCell ⟨ll, k, none⟩ (.int .i64 v)) p le ll ce cl g es (lv.set k v) := by
  obtain ⟨hn1, hn2, hn3⟩ := h.ne; have hO := (Only.refl [ll] w).setCell (p := ⟨ll, k, none⟩) (.inl (by simp)) (.int .i64 v); obtain ⟨L, hL, hL2⟩ := h.he; obtain ⟨V, hV, hV2⟩ := h.hl; have hlen : (lv.set k v).length = lv.length := List.length_set; refine ⟨?_, ⟨L, hO.get hL (by simpa using hn3), hL2⟩, ⟨V.setIfInBounds k (.int .i64 v), heap_setCell_same _ _ _ _ _ _ hV, ?_⟩, h.h1, by rw [hlen]; exact h.h2⟩
  · rw [hlen]; exact hO.get h.hp (by simpa using hn2)
  · rw [hlen, Array.toList_setIfInBounds, List.take_set, hV2, List.map_set]
set_option maxRecDepth 100000 in
set_option maxHeartbeats 2000000 in
theorem bcnt_no (w : World) (p : Nat) (e : BE) (by' : Int) (he : (e.st == 1) = false) :
    Calls Try.prog 48 #[.pointer (some ⟨p, 0, none⟩), .agg (BEC e), .int .i64 by'] w fun x w' => (∃ v, x = .returned v) ∧ Below w.heap.size w w' := by
  have hal := (Below.refl w.heap.size w).alloc (Nat.le_refl _) (.cells (BEC e) 54); have hc : (w.alloc (.cells (BEC e) 54)).cell? ⟨w.heap.size, 0, none⟩ = some (.int .i64 e.st) := (cell_of_row _ _ _ _ _ _ (heap_alloc_new w _)).trans rfl; generalize BEC e = C at *; go_enter Try.func48, Try.ntmps48; go_wp2
  go_end0
  exact ⟨⟨_, rfl⟩, hal⟩
set_option maxRecDepth 100000 in
set_option maxHeartbeats 2000000 in
theorem bcnt_yes (w : World) (p le ll ce cl : Nat) (g : Geo.G) (es : List BE) (lv : List Int) (h : BmIs w p le ll ce cl g es lv) (z m : Nat) (o q s by' x y : Int)
    (hx : lv[z]? = some x) (hy : (lv.set z (x + by'))[m]? = some y) (hb : -1 ≤ by' ∧ by' ≤ 1) (hxb : -100000 ≤ x ∧ x ≤ 100000) (hyb : -100000 ≤ y ∧ y ≤ 100000) (hn : lv.length ≤ 100000) :
    Calls Try.prog 48 #[.pointer (some ⟨p, 0, none⟩), .agg (BEC ⟨1, z, m, o, q, s⟩), .int .i64 by'] w fun e w' => (∃ v, e = .returned v) ∧ BmIs w' p le ll ce cl g es ((lv.set z (x + by')).set m (y + by')) ∧ Only [ll] w w' := by
  obtain ⟨C, hC⟩ : ∃ C, BEC ⟨1, z, m, o, q, s⟩ = C := ⟨_, rfl⟩; have hal := (Below.refl w.heap.size w).alloc (Nat.le_refl _) (.cells C 54); have hnew := heap_alloc_new w (.cells C 54); obtain ⟨W1, hW1⟩ : ∃ W1, w.alloc (.cells C 54) = W1 := ⟨_, rfl⟩; rw [hW1] at hal hnew
  have hq0 : ∀ W : World, W.heap[w.heap.size]? = some (.cells C 54 (0, 0)) → W.cell? ⟨w.heap.size, 0, none⟩ = some (.int .i64 1) ∧ W.cell? ⟨w.heap.size, 1, none⟩ = some (.int .i64 (z : Nat)) ∧ W.cell? ⟨w.heap.size, 2, none⟩ = some (.int .i64 (m : Nat)) := fun W hh => by
    rw [← hC] at hh; exact ⟨(cell_of_row _ _ _ _ _ _ hh).trans rfl, (cell_of_row _ _ _ _ _ _ hh).trans rfl, (cell_of_row _ _ _ _ _ _ hh).trans rfl⟩
  have HQ0 := Lib.hid hq0; have hB1 := h.below hal; have hzl : z < lv.length := (List.getElem?_eq_some_iff.1 hx).1; have hml : m < lv.length := by have := (List.getElem?_eq_some_iff.1 hy).1; rwa [List.length_set] at this
  have hlt := h.lt; have HW1 := Lib.hid hW1; have HC := Lib.hid hC; have hOW : Only [ll] w W1 := Only.of_below hal; have hcl := h.h2; have HB1 := Lib.hid hB1; have HX := Lib.hid hx; have HY := Lib.hid hy; have HNW := Lib.hid hnew; have hzs := (Array.getElem?_eq_some_iff.1 hnew).1; obtain ⟨k0, k1, k2⟩ := hq0 _ hnew; clear hW1 hC hq0 h hB1 hx hy hnew hal; rw [HC.out]; go_enter Try.func48, Try.ntmps48; go_upto_region 1 with (fail); rw [HW1.out]; go_wp2; refine wp_region_conf2 11 [Fact.eq ?rax0, Fact.eq ?rax1, Fact.eq ?rax2, Fact.eq ?rax3, Fact.eq ?rax4, Fact.eq ?rax5, Fact.eq ?rax6, Fact.eq ?rax7, Fact.eq ?rax8, Fact.eq ?rax9, Fact.eq ?rax10] ?raA (by kernel_rfl) (by kernel_rfl) ?rahA ?raho ?rahend
  case rahA =>
    intro vv; simp only [putRules, Nat.reduceAdd]; rfl
  case raho =>
    refine ⟨?_, ?_, ?_, ?_, ?_, ?_, ?_, ?_, ?_, ?_, ?_, trivial⟩
    · intro vv W K hB hd HK; simp only [confRules] at HK; clear hd; go_wp2; refine HK.out _ _ (Below.refl _ _) ?_; rfl
    · intro vv W K hB hd HK; simp only [confRules] at hd HK; have h0 := hd; clear hd; simp only [h0] at HK ⊢; clear h0; go_wp2; refine HK.out _ _ (Below.refl _ _) ?_; rfl
    · intro vv W K hB hd HK; simp only [confRules] at hd HK; have h1 := hd; clear hd; simp only [h1] at HK ⊢; clear h1; go_wp2; refine HK.out _ _ (Below.refl _ _) ?_; rfl
    · intro vv W K hB hd HK; simp only [confRules] at hd HK; have h2 := hd; clear hd; simp only [h2] at HK ⊢; clear h2; have hbA := HB1.out.below hB; obtain ⟨c6, c7⟩ := hbA.cells; go_wp2; refine HK.out _ _ (Below.refl _ _) ?_; rfl
    · intro vv W K hB hd HK; simp only [confRules] at HK; clear hd; go_wp2; refine HK.out _ _ (Below.refl _ _) ?_; rfl
    · intro vv W K hB hd HK; simp only [confRules] at hd HK; have h4 := hd; clear hd; simp only [h4] at HK ⊢; clear h4; have hT := (hB.block w.heap.size hzs).trans HNW.out; obtain ⟨k0, k1, k2⟩ := HQ0.out _ hT; clear hT; go_wp2; refine HK.out _ _ (Below.refl _ _) ?_; rfl
    · intro vv W K hB hd HK; simp only [confRules] at hd HK; obtain ⟨h3, h5⟩ := hd; simp only [h3, h5] at HK ⊢; clear h3 h5; go_wp2; refine HK.out _ _ (Below.refl _ _) ?_; rfl
    · intro vv W K hB hd HK; simp only [confRules] at hd HK; have h6 := hd; clear hd; simp only [h6] at HK ⊢; clear h6; have hbA := HB1.out.below hB; obtain ⟨c8, -⟩ := hbA.live HX.out; go_wp2; refine HK.out _ _ (Below.refl _ _) ?_; rfl
    · intro vv W K hB hd HK; simp only [confRules] at HK; clear hd; go_wp2; refine HK.out _ _ (Below.refl _ _) ?_; rfl
    · intro vv W K hB hd HK; simp only [confRules] at hd HK; obtain ⟨h7, h8⟩ := hd; simp only [h7, h8] at HK ⊢; clear h7 h8; go_wp2; refine HK.out _ _ (Below.refl _ _) ?_; rfl
    · intro vv W K hB hd HK; simp only [confRules] at hd HK; obtain ⟨h3, h5, h0, h1, h2, _, h4, _, h6, h7, h8, h9⟩ := hd; simp only [h3, h5, h0, h1, h2, h4, h6, h7, h8, h9] at HK ⊢; clear h3 h5 h0 h1 h2 h4 h6 h7 h8 h9; go_wp2; refine HK.out _ _ (Below.refl _ _) ?_; rfl
  case rahend =>
    intro vv W hB hf; have e9 := hf 9 (by decide); have e10 := hf 10 (by decide); simp only [endRules] at e9 e10; simp only [e9, e10, dropRules]; clear hf e9 e10; have hbA := HB1.out.below hB; obtain ⟨c7, cf7⟩ := hbA.live HX.out; have hO2 : Only [ll] w W := hOW.trans (Only.of_below hB); have hbS := hbA.setLive hzl (x + by'); have hnS := ((Only.refl [ll] W).setCell (p := ⟨ll, z, none⟩) (.inl (by simp)) (.int .i64 (x + by'))).get ((hB.block w.heap.size hzs).trans HNW.out) (by simp; omega); have hO3 := hO2.setCell (p := ⟨ll, z, none⟩) (.inl (by simp)) (.int .i64 (x + by')); obtain ⟨W2, hW2⟩ : ∃ W2, W.setCell ⟨ll, z, none⟩ (.int .i64 (x + by')) = W2 := ⟨_, rfl⟩; rw [hW2] at hbS hnS hO3; have HW2 := Lib.hid hW2; have HBS := Lib.hid hbS; have HNS := Lib.hid hnS; have hzs2 := (Array.getElem?_eq_some_iff.1 hnS).1; clear hW2 hbA hbS hnS hO2 hB; go_upto_region 3 with (fail); rw [HW2.out]; clear c7 cf7; refine wp_region_conf2 11 [Fact.eq ?rbx0, Fact.eq ?rbx1, Fact.eq ?rbx2, Fact.eq ?rbx3, Fact.eq ?rbx4, Fact.eq ?rbx5, Fact.eq ?rbx6, Fact.eq ?rbx7, Fact.eq ?rbx8, Fact.eq ?rbx9, Fact.eq ?rbx10] ?rbA (by kernel_rfl) (by kernel_rfl) ?rbhA ?rbho ?rbhend
    case rbhA =>
      intro vv; simp only [putRules, Nat.reduceAdd]; rfl
    case rbho =>
      refine ⟨?_, ?_, ?_, ?_, ?_, ?_, ?_, ?_, ?_, ?_, ?_, trivial⟩
      · intro vv W K hB hd HK; simp only [confRules] at HK; clear hd; go_wp2; refine HK.out _ _ (Below.refl _ _) ?_; rfl
      · intro vv W K hB hd HK; simp only [confRules] at hd HK; have h0 := hd; clear hd; simp only [h0] at HK ⊢; clear h0; go_wp2; refine HK.out _ _ (Below.refl _ _) ?_; rfl
      · intro vv W K hB hd HK; simp only [confRules] at hd HK; have h1 := hd; clear hd; simp only [h1] at HK ⊢; clear h1; go_wp2; refine HK.out _ _ (Below.refl _ _) ?_; rfl
      · intro vv W K hB hd HK; simp only [confRules] at hd HK; have h2 := hd; clear hd; simp only [h2] at HK ⊢; clear h2; have hbA := HBS.out.below hB; obtain ⟨c6, c7⟩ := hbA.cells; go_wp2; refine HK.out _ _ (Below.refl _ _) ?_; rfl
      · intro vv W K hB hd HK; simp only [confRules] at HK; clear hd; go_wp2; refine HK.out _ _ (Below.refl _ _) ?_; rfl
      · intro vv W K hB hd HK; simp only [confRules] at hd HK; have h4 := hd; clear hd; simp only [h4] at HK ⊢; clear h4; have hT := (hB.block w.heap.size hzs2).trans HNS.out; obtain ⟨k0, k1, k2⟩ := HQ0.out _ hT; clear hT; go_wp2; refine HK.out _ _ (Below.refl _ _) ?_; rfl
      · intro vv W K hB hd HK; simp only [confRules] at hd HK; obtain ⟨h3, h5⟩ := hd; simp only [h3, h5] at HK ⊢; clear h3 h5; go_wp2; refine HK.out _ _ (Below.refl _ _) ?_; rfl
      · intro vv W K hB hd HK; simp only [confRules] at hd HK; have h6 := hd; clear hd; simp only [h6] at HK ⊢; clear h6; have hbA := HBS.out.below hB; obtain ⟨c8, -⟩ := hbA.live HY.out; go_wp2; refine HK.out _ _ (Below.refl _ _) ?_; rfl
      · intro vv W K hB hd HK; simp only [confRules] at HK; clear hd; go_wp2; refine HK.out _ _ (Below.refl _ _) ?_; rfl
      · intro vv W K hB hd HK; simp only [confRules] at hd HK; obtain ⟨h7, h8⟩ := hd; simp only [h7, h8] at HK ⊢; clear h7 h8; go_wp2; refine HK.out _ _ (Below.refl _ _) ?_; rfl
      · intro vv W K hB hd HK; simp only [confRules] at hd HK; obtain ⟨h3, h5, h0, h1, h2, _, h4, _, h6, h7, h8, h9⟩ := hd; simp only [h3, h5, h0, h1, h2, h4, h6, h7, h8, h9] at HK ⊢; clear h3 h5 h0 h1 h2 h4 h6 h7 h8 h9; go_wp2; refine HK.out _ _ (Below.refl _ _) ?_; rfl
    case rbhend =>
      intro vv W hB hf; have e9 := hf 9 (by decide); have e10 := hf 10 (by decide); simp only [endRules] at e9 e10; simp only [e9, e10, dropRules]; clear hf e9 e10; have hbA := HBS.out.below hB; obtain ⟨c7, cf7⟩ := hbA.live HY.out; have hbT := hbA.setLive (by rw [List.length_set]; exact hml) (y + by'); have hO4 := (hO3.trans (Only.of_below hB)).setCell (p := ⟨ll, m, none⟩) (.inl (by simp)) (.int .i64 (y + by')); have HBT := Lib.hid hbT; clear hbT hbA; go_wp2
      go_end0
      exact ⟨⟨_, rfl⟩, HBT.out, hO4⟩
end Go.Proofs.Ytoiephmngdecaaa
