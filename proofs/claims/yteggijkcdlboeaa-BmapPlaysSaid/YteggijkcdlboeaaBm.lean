/- Proved here: a map of blocks in memory; contracts of Geom, Get, Live and Count. -/
import Derived.Test.YteggijkcdlboeaaGeoDom
import Derived.Test.YteggijkcdlboeaaKitV
import Derived.LoopTactic
namespace Go.Proofs.Yteggijkcdlboeaa
open Go.RowKit Go.Rv
set_option linter.unusedVariables false
/-- an entry -/
structure BE where
  st : Int
  z : Int
  m : Int
  o : Int
  q : Int
  s : Int
deriving DecidableEq
def BE.zero : BE := ⟨0, 0, 0, 0, 0, 0⟩
def BEC (e : BE) : Array Value := #[.int .i64 e.st, .int .i64 e.z, .int .i64 e.m, .int .i64 e.o, .int .i64 e.q, .int .i64 e.s]
theorem BEC_one (e : BE) : (BEC e).all (·.oneCell') = true := by simp [BEC, Value.oneCell']
theorem BEC_size (e : BE) : (BEC e).size = 6 := rfl
theorem BEC_inj {a b : BE} (h : BEC a = BEC b) : a = b := by
  obtain ⟨a0, a1, a2, a3, a4, a5⟩ := a
  obtain ⟨b0, b1, b2, b3, b4, b5⟩ := b
  simp [BEC] at h
  obtain ⟨rfl, rfl, rfl, rfl, rfl, rfl⟩ := h
  rfl
theorem Try.infoEnt : (Try.prog.info? 41).map (fun i => (i.zero, i.size)) = some (some (.agg (BEC BE.zero)), 6) := by kernel_rfl
theorem esize (e : BE) : (Try.prog.info? 41).map (·.size) = some (BEC e).size := by rw [BEC_size]; kernel_rfl
/-- entries, cell by cell -/
def flatE (es : List BE) : List Value := es.flatMap fun e => (BEC e).toList
theorem flatE_length (es : List BE) : (flatE es).length = es.length * 6 := by
  induction es with
  | nil => rfl
  | cons e es ih => simp only [flatE, List.flatMap_cons, List.length_append, List.length_cons] at ih ⊢; rw [ih]; simp [BEC]; omega
theorem flatE_at : ∀ (es : List BE) (k j : Nat) (e : BE), es[k]? = some e → j < 6 → (flatE es)[k * 6 + j]? = (BEC e)[j]?
  | [], k, j, e, h, _ => by simp at h
  | x :: es, 0, j, e, h, hj => by
    simp at h
    subst h
    show ((BEC x).toList ++ flatE es)[0 * 6 + j]? = _
    rw [List.getElem?_append_left (by simp [BEC]; omega)]
    simp
  | x :: es, k + 1, j, e, h, hj => by
    show ((BEC x).toList ++ flatE es)[(k + 1) * 6 + j]? = _
    rw [List.getElem?_append_right (by simp [BEC]; omega), show (k + 1) * 6 + j - (BEC x).toList.length = k * 6 + j by simp [BEC]; omega]
    exact flatE_at es k j e (by simpa using h) hj
/-- a map's own cells -/
def mapC (g : Geo.G) (le n ce ll m cl : Nat) : Array Value := #[.int .i64 g.d, .int .i64 g.z, .int .i64 g.s, .int .i64 g.b, .int .i64 g.p, .int .i64 g.o, .slice (some ⟨le, 0, none⟩) n ce, .slice (some ⟨ll, 0, none⟩) m cl]
/-- block p is a map: its entries lie in block le, its counts in block ll -/
structure BmIs (w : World) (p le ll ce cl : Nat) (g : Geo.G) (es : List BE) (lv : List Int) : Prop where
  hp : w.heap[p]? = some (.cells (mapC g le es.length ce ll lv.length cl) 62 (0, 0))
  he : ∃ Lc : Array Value, w.heap[le]? = some (.cells Lc 41 (0, 0)) ∧ Lc.toList.take (es.length * 6) = flatE es
  hl : ∃ Vc : Array Value, w.heap[ll]? = some (.cells Vc 3 (0, 0)) ∧ Vc.toList.take lv.length = lv.map (Value.int .i64)
  h1 : es.length ≤ ce ∧ ce ≤ 9223372036854775807
  h2 : lv.length ≤ cl ∧ cl ≤ 9223372036854775807
theorem BmIs.ne {w : World} {p le ll ce cl : Nat} {g : Geo.G} {es : List BE} {lv : List Int} (h : BmIs w p le ll ce cl g es lv) : p ≠ le ∧ p ≠ ll ∧ le ≠ ll := by
  obtain ⟨L, hL, -⟩ := h.he
  obtain ⟨V, hV, -⟩ := h.hl
  refine ⟨fun e => ?_, fun e => ?_, fun e => ?_⟩
  · subst e; have := hL.symm.trans h.hp; simp at this
  · subst e; have := hV.symm.trans h.hp; simp at this
  · subst e; have := hV.symm.trans hL; simp at this
theorem BmIs.lt {w : World} {p le ll ce cl : Nat} {g : Geo.G} {es : List BE} {lv : List Int} (h : BmIs w p le ll ce cl g es lv) : p < w.heap.size ∧ le < w.heap.size ∧ ll < w.heap.size := by
  obtain ⟨L, hL, -⟩ := h.he
  obtain ⟨V, hV, -⟩ := h.hl
  exact ⟨(Array.getElem?_eq_some_iff.1 h.hp).1, (Array.getElem?_eq_some_iff.1 hL).1, (Array.getElem?_eq_some_iff.1 hV).1⟩
theorem BmIs.only {S : List Nat} {w w' : World} {p le ll ce cl : Nat} {g : Geo.G} {es : List BE} {lv : List Int} (h : BmIs w p le ll ce cl g es lv) (hb : Only S w w') (hp : p ∉ S) (he : le ∉ S) (hl : ll ∉ S) : BmIs w' p le ll ce cl g es lv := by
  obtain ⟨L, hL, hL2⟩ := h.he
  obtain ⟨V, hV, hV2⟩ := h.hl
  exact ⟨hb.get h.hp hp, ⟨L, hb.get hL he, hL2⟩, ⟨V, hb.get hV hl, hV2⟩, h.h1, h.h2⟩
theorem BmIs.below {w w' : World} {p le ll ce cl : Nat} {g : Geo.G} {es : List BE} {lv : List Int} (h : BmIs w p le ll ce cl g es lv) (hb : Below w.heap.size w w') : BmIs w' p le ll ce cl g es lv :=
  h.only (Only.of_below (S := []) hb) (by simp) (by simp) (by simp)
/-- the map's cells: the two slices, and the geometry -/
theorem BmIs.cells {w : World} {p le ll ce cl : Nat} {g : Geo.G} {es : List BE} {lv : List Int} (h : BmIs w p le ll ce cl g es lv) :
    w.cell? ⟨p, 6, none⟩ = some (.slice (some ⟨le, 0, none⟩) es.length ce) ∧ w.cell? ⟨p, 7, none⟩ = some (.slice (some ⟨ll, 0, none⟩) lv.length cl) :=
  ⟨(cell_of_row _ _ _ _ _ _ h.hp).trans rfl, (cell_of_row _ _ _ _ _ _ h.hp).trans rfl⟩
theorem BmIs.geo {w : World} {p le ll ce cl : Nat} {g : Geo.G} {es : List BE} {lv : List Int} (h : BmIs w p le ll ce cl g es lv) :
    w.cell? ⟨p, 0, none⟩ = some (.int .i64 g.d) ∧ w.cell? ⟨p, 1, none⟩ = some (.int .i64 g.z) ∧ w.cell? ⟨p, 2, none⟩ = some (.int .i64 g.s) ∧ w.cell? ⟨p, 3, none⟩ = some (.int .i64 g.b) ∧ w.cell? ⟨p, 4, none⟩ = some (.int .i64 g.p) ∧ w.cell? ⟨p, 5, none⟩ = some (.int .i64 g.o) :=
  ⟨(cell_of_row _ _ _ _ _ _ h.hp).trans rfl, (cell_of_row _ _ _ _ _ _ h.hp).trans rfl, (cell_of_row _ _ _ _ _ _ h.hp).trans rfl, (cell_of_row _ _ _ _ _ _ h.hp).trans rfl, (cell_of_row _ _ _ _ _ _ h.hp).trans rfl, (cell_of_row _ _ _ _ _ _ h.hp).trans rfl⟩
/-- an entry's cells -/
theorem BmIs.ent {w : World} {p le ll ce cl : Nat} {g : Geo.G} {es : List BE} {lv : List Int} (h : BmIs w p le ll ce cl g es lv) {k : Nat} {e : BE} (hk : es[k]? = some e) :
    w.cell? ⟨le, k * 6, none⟩ = some (.int .i64 e.st) ∧ w.cell? ⟨le, k * 6 + 1, none⟩ = some (.int .i64 e.z) ∧ w.cell? ⟨le, k * 6 + 2, none⟩ = some (.int .i64 e.m) ∧ w.cell? ⟨le, k * 6 + 3, none⟩ = some (.int .i64 e.o) ∧ w.cell? ⟨le, k * 6 + 4, none⟩ = some (.int .i64 e.q) ∧ w.cell? ⟨le, k * 6 + 5, none⟩ = some (.int .i64 e.s) := by
  obtain ⟨L, hL, hL2⟩ := h.he
  have hkl : k < es.length := (List.getElem?_eq_some_iff.1 hk).1
  have key : ∀ j, j < 6 → w.cell? ⟨le, k * 6 + j, none⟩ = (BEC e)[j]? := fun j hj => by
    rw [cell_of_row _ _ _ _ _ _ hL, ← flatE_at es k j e hk hj, ← hL2, List.getElem?_take, if_pos (by omega), Array.getElem?_toList]
  exact ⟨key 0 (by omega), key 1 (by omega), key 2 (by omega), key 3 (by omega), key 4 (by omega), key 5 (by omega)⟩
theorem BmIs.live {w : World} {p le ll ce cl : Nat} {g : Geo.G} {es : List BE} {lv : List Int} (h : BmIs w p le ll ce cl g es lv) {k : Nat} {x : Int} (hk : lv[k]? = some x) : w.cell? ⟨ll, k, none⟩ = some (.int .i64 x) ∧ w.frozen? ⟨ll, k, none⟩ = false := by
  obtain ⟨V, hV, hV2⟩ := h.hl
  have hkl : k < lv.length := (List.getElem?_eq_some_iff.1 hk).1
  refine ⟨?_, frozen_of_row _ _ _ _ _ hV⟩
  have h1 : (V.toList.take lv.length)[k]? = (lv.map (Value.int .i64))[k]? := by rw [hV2]
  rw [List.getElem?_take, if_pos hkl, Array.getElem?_toList] at h1
  rw [cell_of_row _ _ _ _ _ _ hV, h1]
  simp [hk]
set_option maxRecDepth 100000 in
set_option maxHeartbeats 1000000 in
theorem blive_in (w : World) (p le ll ce cl : Nat) (g : Geo.G) (es : List BE) (lv : List Int) (h : BmIs w p le ll ce cl g es lv) (k : Nat) (x : Int) (hk : lv[k]? = some x) (hn : lv.length ≤ 100000) :
    Calls Try.prog 27 #[.pointer (some ⟨p, 0, none⟩), .int .i64 (k : Nat)] w fun e w' => e = .returned (.int .i64 x) ∧ w = w' := by
  obtain ⟨c6, c7⟩ := h.cells
  obtain ⟨hc, -⟩ := h.live hk
  have hkl : k < lv.length := (List.getElem?_eq_some_iff.1 hk).1
  have h2 := h.h2
  go_enter Try.func27, Try.ntmps27
  go_wp2
  go_ret
  exact ⟨rfl, rfl⟩
set_option maxRecDepth 100000 in
set_option maxHeartbeats 1000000 in
theorem blive_out (w : World) (p le ll ce cl : Nat) (g : Geo.G) (es : List BE) (lv : List Int) (h : BmIs w p le ll ce cl g es lv) (z : Int) (hz : z < 0 ∨ (lv.length : Int) ≤ z) :
    Calls Try.prog 27 #[.pointer (some ⟨p, 0, none⟩), .int .i64 z] w fun e w' => e = .returned (.int .i64 0) ∧ w = w' := by
  obtain ⟨c6, c7⟩ := h.cells
  rcases hz with hz | hz
  · have t1 : decide (z < 0) = true := decide_eq_true hz
    go_enter Try.func27, Try.ntmps27
    go_wp2
    go_ret
    exact ⟨rfl, rfl⟩
  · have t1 : decide (z < 0) = false := decide_eq_false (by omega)
    have t2 : decide ((lv.length : Int) ≤ z) = true := decide_eq_true hz
    go_enter Try.func27, Try.ntmps27
    go_wp2
    go_ret
    exact ⟨rfl, rfl⟩
/-- how many entries have a state -/
def countB (es : List BE) (s : Int) : Nat := (es.filter fun e => e.st == s).length
theorem countB_succ {es : List BE} {k : Nat} {e : BE} (s : Int) (h : es[k]? = some e) : countB (es.take (k + 1)) s = countB (es.take k) s + if e.st == s then 1 else 0 := by
  obtain ⟨hk, rfl⟩ := List.getElem?_eq_some_iff.1 h
  unfold countB
  rw [List.take_succ_eq_append_getElem hk, List.filter_append]
  cases he : (es[k].st == s) <;> simp [he]
theorem countB_le (es : List BE) (s : Int) : countB es s ≤ es.length := List.length_filter_le _ _
set_option maxRecDepth 100000 in
set_option maxHeartbeats 2000000 in
theorem bcount_any (w : World) (p le ll ce cl : Nat) (g : Geo.G) (es : List BE) (lv : List Int) (h : BmIs w p le ll ce cl g es lv) (s : Int) (hn : es.length ≤ 100000) :
    Calls Try.prog 28 #[.pointer (some ⟨p, 0, none⟩), .int .i64 s] w fun e w' => e = .returned (.int .i64 (countB es s : Nat)) ∧ Below w.heap.size w w' := by
  obtain ⟨c6, c7⟩ := h.cells
  have h1 := h.h1
  have HB := Lib.hid h
  have hz := (zero_of_info Try.infoEnt).1
  have HIE := Lib.hid (fun e => esize e)
  have HON := Lib.hid (fun e => BEC_one e)
  clear h
  go_enter Try.func28, Try.ntmps28
  go_wp2
  go_loopw [5, 13] (fun n i wr => ∃ k : Nat, k ≤ es.length ∧ i = .int .i64 k ∧ n = .int .i64 (countB (es.take k) s : Nat) ∧ Below w.heap.size w wr) (fun _ i _ => es.length - (intOf i).toNat)
  case atStart => exact ⟨0, Nat.zero_le _, rfl, by simp [countB], Below.refl _ _⟩
  case round =>
    obtain ⟨k, hk, rfl, rfl, hB⟩ := hrel
    by_cases hlt : k < es.length
    · obtain ⟨e, he⟩ : ∃ e, es[k]? = some e := ⟨_, List.getElem?_eq_getElem hlt⟩
      have hbw := HB.out.below hB
      obtain ⟨e0, e1, e2, e3, e4, e5⟩ := hbw.ent he
      have HS := Lib.hid (countB_succ s he)
      have hcl := countB_le (es.take k) s
      rw [List.length_take] at hcl
      have hB2 := hB.alloc hB.size (.cells (BEC e) 41)
      have HB2 := Lib.hid hB2
      generalize countB (es.take k) s = cn at *
      have hce : (wr.alloc (.cells (BEC e) 41)).cell? ⟨wr.heap.size, 0, none⟩ = some (.int .i64 e.st) := (cell_of_row _ _ _ _ _ _ (heap_alloc_new wr _)).trans rfl
      clear hbw hB2 he
      cases hs : (e.st == s)
      · rw [hs] at HS
        go_wp2_with (refine wpList_store_row rfl 41 _ _ rfl wr.heap.size (BEC e) rfl rfl 41 (BEC BE.zero) (heap_alloc_new wr _) (HIE.out _) rfl (HON.out _) ?_; rw [World.setRow_alloc_new])
        go_roundw
        case rel => exact ⟨k + 1, by omega, by go_num, by rw [HS.out]; go_num, HB2.out⟩
        case measure => simp [intOf]; omega
      · rw [hs] at HS
        go_wp2_with (refine wpList_store_row rfl 41 _ _ rfl wr.heap.size (BEC e) rfl rfl 41 (BEC BE.zero) (heap_alloc_new wr _) (HIE.out _) rfl (HON.out _) ?_; rw [World.setRow_alloc_new])
        go_roundw
        case rel => exact ⟨k + 1, by omega, by go_num, by rw [HS.out]; go_num, HB2.out⟩
        case measure => simp [intOf]; omega
    · obtain rfl : k = es.length := by omega
      rw [List.take_length]
      go_wp2
      go_ret
      exact ⟨rfl, hB⟩
end Go.Proofs.Yteggijkcdlboeaa
