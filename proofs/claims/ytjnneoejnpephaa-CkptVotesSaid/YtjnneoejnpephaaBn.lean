/- Proved here, one behind the other: Proved here: a map of blocks in memory; contracts of Geom, Get, Live and Count; Proved here: contracts of the map's Get and Geom; Proved here: the contract of the map's count; Proved here: the contract of an entry's Right; Proved here: the contract of an entry's Right, at every entry; Plain laws: how many blocks lie in a zone, when an entry is set; Proved here: what an argument of entries, or of steps, has in its cells; Proved here: a map's entries, one by one (slices.All), by the law on turns; the map's All; Proved here: the map's All; Proved here: the contract of the map's Set; Proved here: the contract of the map's Set, at every block and entry; the one of New; Proved here: the contract of the map's New. -/
import Derived.LoopTactic
import Derived.Deep.Cut
import Derived.Test.YtjnneoejnpephaaBa
import Derived.Test.YtjnneoejnpephaaBc
namespace Go.Proofs.Ytjnneoejnpephaa
open Go.RowKit Go.Rv
set_option linter.unusedVariables false
/-- an entry -/
structure BE where
  st : Int
  z : Int
  m : Int
  o : Int
  q : Int
  s : Int
deriving DecidableEq
def BE.zero : BE := ⟨0, 0, 0, 0, 0, 0⟩
def BEC (e : BE) : Array Value := #[.int .i64 e.st, .int .i64 e.z, .int .i64 e.m, .int .i64 e.o, .int .i64 e.q, .int .i64 e.s]
theorem BEC_one (e : BE) : (BEC e).all (·.oneCell') = true := by simp [BEC, Value.oneCell']
theorem BEC_size (e : BE) : (BEC e).size = 6 := rfl
theorem BEC_inj {a b : BE} (h : BEC a = BEC b) : a = b := by
  obtain ⟨a0, a1, a2, a3, a4, a5⟩ := a
  obtain ⟨b0, b1, b2, b3, b4, b5⟩ := b
  simp [BEC] at h
  obtain ⟨rfl, rfl, rfl, rfl, rfl, rfl⟩ := h
  rfl
theorem Try.infoEnt : (Try.prog.info? 46).map (fun i => (i.zero, i.size)) = some (some (.agg (BEC BE.zero)), 6) := by kernel_rfl
theorem esize (e : BE) : (Try.prog.info? 46).map (·.size) = some (BEC e).size := by rw [BEC_size]; kernel_rfl
/-- entries, cell by cell -/
def flatE (es : List BE) : List Value := es.flatMap fun e => (BEC e).toList
theorem flatE_length (es : List BE) : (flatE es).length = es.length * 6 := by
  induction es with
  | nil => rfl
  | cons e es ih => simp only [flatE, List.flatMap_cons, List.length_append, List.length_cons] at ih ⊢; rw [ih]; simp [BEC]; omega
theorem flatE_at : ∀ (es : List BE) (k j : Nat) (e : BE), es[k]? = some e → j < 6 → (flatE es)[k * 6 + j]? = (BEC e)[j]?
  | [], k, j, e, h, _ => by simp at h
  | x :: es, 0, j, e, h, hj => by
    simp at h
    subst h
    show ((BEC x).toList ++ flatE es)[0 * 6 + j]? = _
    rw [List.getElem?_append_left (by simp [BEC]; omega)]
    simp
  | x :: es, k + 1, j, e, h, hj => by
    show ((BEC x).toList ++ flatE es)[(k + 1) * 6 + j]? = _
    rw [List.getElem?_append_right (by simp [BEC]; omega), show (k + 1) * 6 + j - (BEC x).toList.length = k * 6 + j by simp [BEC]; omega]
    exact flatE_at es k j e (by simpa using h) hj
/-- a map's own cells -/
def mapC (g : Geo.G) (le n ce ll m cl : Nat) : Array Value := #[.int .i64 g.d, .int .i64 g.z, .int .i64 g.s, .int .i64 g.b, .int .i64 g.p, .int .i64 g.o, .slice (some ⟨le, 0, none⟩) n ce, .slice (some ⟨ll, 0, none⟩) m cl]
/-- block p is a map: its entries lie in block le, its counts in block ll -/
structure BmIs (w : World) (p le ll ce cl : Nat) (g : Geo.G) (es : List BE) (lv : List Int) : Prop where
  hp : w.heap[p]? = some (.cells (mapC g le es.length ce ll lv.length cl) 110 (0, 0))
  he : ∃ Lc : Array Value, w.heap[le]? = some (.cells Lc 46 (0, 0)) ∧ Lc.toList.take (es.length * 6) = flatE es
  hl : ∃ Vc : Array Value, w.heap[ll]? = some (.cells Vc 3 (0, 0)) ∧ Vc.toList.take lv.length = lv.map (Value.int .i64)
  h1 : es.length ≤ ce ∧ ce ≤ 9223372036854775807
  h2 : lv.length ≤ cl ∧ cl ≤ 9223372036854775807
theorem BmIs.ne {w : World} {p le ll ce cl : Nat} {g : Geo.G} {es : List BE} {lv : List Int} (h : BmIs w p le ll ce cl g es lv) : p ≠ le ∧ p ≠ ll ∧ le ≠ ll := by
  obtain ⟨L, hL, -⟩ := h.he
  obtain ⟨V, hV, -⟩ := h.hl
  refine ⟨fun e => ?_, fun e => ?_, fun e => ?_⟩
  · subst e; have := hL.symm.trans h.hp; simp at this
  · subst e; have := hV.symm.trans h.hp; simp at this
  · subst e; have := hV.symm.trans hL; simp at this
theorem BmIs.lt {w : World} {p le ll ce cl : Nat} {g : Geo.G} {es : List BE} {lv : List Int} (h : BmIs w p le ll ce cl g es lv) : p < w.heap.size ∧ le < w.heap.size ∧ ll < w.heap.size := by
  obtain ⟨L, hL, -⟩ := h.he
  obtain ⟨V, hV, -⟩ := h.hl
  exact ⟨(Array.getElem?_eq_some_iff.1 h.hp).1, (Array.getElem?_eq_some_iff.1 hL).1, (Array.getElem?_eq_some_iff.1 hV).1⟩
theorem BmIs.only {S : List Nat} {w w' : World} {p le ll ce cl : Nat} {g : Geo.G} {es : List BE} {lv : List Int} (h : BmIs w p le ll ce cl g es lv) (hb : Only S w w') (hp : p ∉ S) (he : le ∉ S) (hl : ll ∉ S) : BmIs w' p le ll ce cl g es lv := by
  obtain ⟨L, hL, hL2⟩ := h.he
  obtain ⟨V, hV, hV2⟩ := h.hl
  exact ⟨hb.get h.hp hp, ⟨L, hb.get hL he, hL2⟩, ⟨V, hb.get hV hl, hV2⟩, h.h1, h.h2⟩
theorem BmIs.below {w w' : World} {p le ll ce cl : Nat} {g : Geo.G} {es : List BE} {lv : List Int} (h : BmIs w p le ll ce cl g es lv) (hb : Below w.heap.size w w') : BmIs w' p le ll ce cl g es lv :=
  h.only (Only.of_below (S := []) hb) (by simp) (by simp) (by simp)
/-- the map's cells: the two slices, and the geometry -/
theorem BmIs.cells {w : World} {p le ll ce cl : Nat} {g : Geo.G} {es : List BE} {lv : List Int} (h : BmIs w p le ll ce cl g es lv) :
    w.cell? ⟨p, 6, none⟩ = some (.slice (some ⟨le, 0, none⟩) es.length ce) ∧ w.cell? ⟨p, 7, none⟩ = some (.slice (some ⟨ll, 0, none⟩) lv.length cl) :=
  ⟨(cell_of_row _ _ _ _ _ _ h.hp).trans rfl, (cell_of_row _ _ _ _ _ _ h.hp).trans rfl⟩
theorem BmIs.geo {w : World} {p le ll ce cl : Nat} {g : Geo.G} {es : List BE} {lv : List Int} (h : BmIs w p le ll ce cl g es lv) :
    w.cell? ⟨p, 0, none⟩ = some (.int .i64 g.d) ∧ w.cell? ⟨p, 1, none⟩ = some (.int .i64 g.z) ∧ w.cell? ⟨p, 2, none⟩ = some (.int .i64 g.s) ∧ w.cell? ⟨p, 3, none⟩ = some (.int .i64 g.b) ∧ w.cell? ⟨p, 4, none⟩ = some (.int .i64 g.p) ∧ w.cell? ⟨p, 5, none⟩ = some (.int .i64 g.o) :=
  ⟨(cell_of_row _ _ _ _ _ _ h.hp).trans rfl, (cell_of_row _ _ _ _ _ _ h.hp).trans rfl, (cell_of_row _ _ _ _ _ _ h.hp).trans rfl, (cell_of_row _ _ _ _ _ _ h.hp).trans rfl, (cell_of_row _ _ _ _ _ _ h.hp).trans rfl, (cell_of_row _ _ _ _ _ _ h.hp).trans rfl⟩
/-- an entry's cells -/
theorem BmIs.ent {w : World} {p le ll ce cl : Nat} {g : Geo.G} {es : List BE} {lv : List Int} (h : BmIs w p le ll ce cl g es lv) {k : Nat} {e : BE} (hk : es[k]? = some e) :
    w.cell? ⟨le, k * 6, none⟩ = some (.int .i64 e.st) ∧ w.cell? ⟨le, k * 6 + 1, none⟩ = some (.int .i64 e.z) ∧ w.cell? ⟨le, k * 6 + 2, none⟩ = some (.int .i64 e.m) ∧ w.cell? ⟨le, k * 6 + 3, none⟩ = some (.int .i64 e.o) ∧ w.cell? ⟨le, k * 6 + 4, none⟩ = some (.int .i64 e.q) ∧ w.cell? ⟨le, k * 6 + 5, none⟩ = some (.int .i64 e.s) := by
  obtain ⟨L, hL, hL2⟩ := h.he
  have hkl : k < es.length := (List.getElem?_eq_some_iff.1 hk).1
  have key : ∀ j, j < 6 → w.cell? ⟨le, k * 6 + j, none⟩ = (BEC e)[j]? := fun j hj => by
    rw [cell_of_row _ _ _ _ _ _ hL, ← flatE_at es k j e hk hj, ← hL2, List.getElem?_take, if_pos (by omega), Array.getElem?_toList]
  exact ⟨key 0 (by omega), key 1 (by omega), key 2 (by omega), key 3 (by omega), key 4 (by omega), key 5 (by omega)⟩
theorem BmIs.live {w : World} {p le ll ce cl : Nat} {g : Geo.G} {es : List BE} {lv : List Int} (h : BmIs w p le ll ce cl g es lv) {k : Nat} {x : Int} (hk : lv[k]? = some x) : w.cell? ⟨ll, k, none⟩ = some (.int .i64 x) ∧ w.frozen? ⟨ll, k, none⟩ = false := by
  obtain ⟨V, hV, hV2⟩ := h.hl
  have hkl : k < lv.length := (List.getElem?_eq_some_iff.1 hk).1
  refine ⟨?_, frozen_of_row _ _ _ _ _ hV⟩
  have h1 : (V.toList.take lv.length)[k]? = (lv.map (Value.int .i64))[k]? := by rw [hV2]
  rw [List.getElem?_take, if_pos hkl, Array.getElem?_toList] at h1
  rw [cell_of_row _ _ _ _ _ _ hV, h1]
  simp [hk]
/-- how many entries have a state -/
def countB (es : List BE) (s : Int) : Nat := (es.filter fun e => e.st == s).length
theorem countB_succ {es : List BE} {k : Nat} {e : BE} (s : Int) (h : es[k]? = some e) : countB (es.take (k + 1)) s = countB (es.take k) s + if e.st == s then 1 else 0 := by
  obtain ⟨hk, rfl⟩ := List.getElem?_eq_some_iff.1 h
  unfold countB
  rw [List.take_succ_eq_append_getElem hk, List.filter_append]
  cases he : (es[k].st == s) <;> simp [he]
theorem countB_le (es : List BE) (s : Int) : countB es s ≤ es.length := List.length_filter_le _ _
set_option maxRecDepth 100000 in
set_option maxHeartbeats 2000000 in
theorem bcount_any (w : World) (p le ll ce cl : Nat) (g : Geo.G) (es : List BE) (lv : List Int) (h : BmIs w p le ll ce cl g es lv) (s : Int) (hn : es.length ≤ 100000) :
    Calls Try.prog 28 #[.pointer (some ⟨p, 0, none⟩), .int .i64 s] w fun e w' => e = .returned (.int .i64 (countB es s : Nat)) ∧ Below w.heap.size w w' := by
  obtain ⟨c6, c7⟩ := h.cells
  have h1 := h.h1
  have HB := Lib.hid h
  have hz := (zero_of_info Try.infoEnt).1
  have HIE := Lib.hid (fun e => esize e)
  have HON := Lib.hid (fun e => BEC_one e)
  clear h
  go_enter Try.func28, Try.ntmps28
  go_wp2
  go_loopw [5, 13] (fun n i wr => ∃ k : Nat, k ≤ es.length ∧ i = .int .i64 k ∧ n = .int .i64 (countB (es.take k) s : Nat) ∧ Below w.heap.size w wr) (fun _ i _ => es.length - (intOf i).toNat)
  case atStart => exact ⟨0, Nat.zero_le _, rfl, by simp [countB], Below.refl _ _⟩
  case round =>
    obtain ⟨k, hk, rfl, rfl, hB⟩ := hrel
    by_cases hlt : k < es.length
    · obtain ⟨e, he⟩ : ∃ e, es[k]? = some e := ⟨_, List.getElem?_eq_getElem hlt⟩
      have hbw := HB.out.below hB
      obtain ⟨e0, e1, e2, e3, e4, e5⟩ := hbw.ent he
      have HS := Lib.hid (countB_succ s he)
      have hcl := countB_le (es.take k) s
      rw [List.length_take] at hcl
      have hB2 := hB.alloc hB.size (.cells (BEC e) 46)
      have HB2 := Lib.hid hB2
      generalize countB (es.take k) s = cn at *
      have hce : (wr.alloc (.cells (BEC e) 46)).cell? ⟨wr.heap.size, 0, none⟩ = some (.int .i64 e.st) := (cell_of_row _ _ _ _ _ _ (heap_alloc_new wr _)).trans rfl
      clear hbw hB2 he
      cases hs : (e.st == s)
      · rw [hs] at HS
        go_wp2_with (refine wpList_store_row rfl 46 _ _ rfl wr.heap.size (BEC e) rfl rfl 46 (BEC BE.zero) (heap_alloc_new wr _) (HIE.out _) rfl (HON.out _) ?_; rw [World.setRow_alloc_new])
        go_roundw
        case rel => exact ⟨k + 1, by omega, by go_num, by rw [HS.out]; go_num, HB2.out⟩
        case measure => simp [intOf]; omega
      · rw [hs] at HS
        go_wp2_with (refine wpList_store_row rfl 46 _ _ rfl wr.heap.size (BEC e) rfl rfl 46 (BEC BE.zero) (heap_alloc_new wr _) (HIE.out _) rfl (HON.out _) ?_; rw [World.setRow_alloc_new])
        go_roundw
        case rel => exact ⟨k + 1, by omega, by go_num, by rw [HS.out]; go_num, HB2.out⟩
        case measure => simp [intOf]; omega
    · obtain rfl : k = es.length := by omega
      rw [List.take_length]
      go_wp2
      go_ret
      exact ⟨rfl, hB⟩
end Go.Proofs.Ytjnneoejnpephaa
namespace Go.Rv
open Go.RowKit
theorem res_row_tmp {P : Program} {fn : Func} {p q : Tmp} {ty : TypeId} (h : fn.results = #[.cell p ty, .tmp q]) (tmps : Array Value) (w : World) (g : Nat) (t : TypeId) (cs : Array Value) (fr : Nat × Nat) (d : TypeDesc)
    (hp : tmps.getD p undef = .pointer (some ⟨g, 0, none⟩)) (hg : w.heap[g]? = some (.cells cs t fr))
    (hu : P.underlying ty = some d) (hd : (match d with | .struct _ | .array _ _ => true | _ => false) = true) (hi : (P.info? ty).map (·.size) = some cs.size) :
    (results fn tmps).run P w = .ok (.tuple #[.agg cs, tmps.getD q undef]) w := by
  have hp' : tmps[p]?.getD undef = .pointer (some ⟨g, 0, none⟩) := by simpa using hp
  simp [results, h, hp', asAddr, run_loadVar_row w g t ty cs fr d hg hu hd hi]
theorem res_row {P : Program} {fn : Func} {p : Tmp} {ty : TypeId} (h : fn.results = #[.cell p ty]) (tmps : Array Value) (w : World) (g : Nat) (t : TypeId) (cs : Array Value) (fr : Nat × Nat) (d : TypeDesc)
    (hp : tmps.getD p undef = .pointer (some ⟨g, 0, none⟩)) (hg : w.heap[g]? = some (.cells cs t fr))
    (hu : P.underlying ty = some d) (hd : (match d with | .struct _ | .array _ _ => true | _ => false) = true) (hi : (P.info? ty).map (·.size) = some cs.size) :
    (results fn tmps).run P w = .ok (.agg cs) w := by
  have hp' : tmps[p]?.getD undef = .pointer (some ⟨g, 0, none⟩) := by simpa using hp
  simp [results, h, hp', asAddr, run_loadVar_row w g t ty cs fr d hg hu hd hi]
end Go.Rv
namespace Go.Proofs.Ytjnneoejnpephaa
open Go.RowKit Go.Rv
set_option linter.unusedVariables false
set_option maxRecDepth 100000 in
set_option maxHeartbeats 1000000 in
theorem bget_in (w : World) (p le ll ce cl : Nat) (g : Geo.G) (es : List BE) (lv : List Int) (h : BmIs w p le ll ce cl g es lv) (k : Nat) (e : BE) (hk : es[k]? = some e) (hn : es.length ≤ 100000) :
    Calls Try.prog 24 #[.pointer (some ⟨p, 0, none⟩), .int .i64 (k : Nat)] w fun x w' => x = .returned (.tuple #[.agg (BEC e), .int .i64 0]) ∧ Below w.heap.size w w' := by
  have hz := (zero_of_info Try.infoEnt).1
  have hal := (Below.refl w.heap.size w).alloc (Nat.le_refl _) (.cells (BEC BE.zero) 46)
  obtain ⟨c6, c7⟩ := (h.below hal).cells
  obtain ⟨e0, e1, e2, e3, e4, e5⟩ := (h.below hal).ent hk
  have hkl : k < es.length := (List.getElem?_eq_some_iff.1 hk).1
  have h1 := h.h1
  have HIE := Lib.hid (fun e => esize e)
  have HON := Lib.hid (fun e => BEC_one e)
  have hB2 : Below w.heap.size w (w.alloc (.cells (BEC e) 46)) := (Below.refl w.heap.size w).alloc (Nat.le_refl _) _
  have hnew := heap_alloc_new w (.cells (BEC e) 46)
  clear h hk
  go_enter Try.func24, Try.ntmps24
  go_wp2_with (refine wpList_store_row rfl 46 _ _ rfl w.heap.size (BEC e) rfl rfl 46 (BEC BE.zero) (heap_alloc_new w _) (HIE.out _) rfl (HON.out _) ?_; rw [World.setRow_alloc_new])
  refine bodyPost_ret (res_row_tmp rfl _ _ w.heap.size 46 (BEC e) _ _ rfl hnew Try.underlying46 rfl (HIE.out _)) rfl ?_
  exact ⟨rfl, hB2⟩
set_option maxRecDepth 100000 in
set_option maxHeartbeats 1000000 in
theorem bget_out (w : World) (p le ll ce cl : Nat) (g : Geo.G) (es : List BE) (lv : List Int) (h : BmIs w p le ll ce cl g es lv) (k : Int) (hk : k < 0 ∨ (es.length : Int) ≤ k) :
    Calls Try.prog 24 #[.pointer (some ⟨p, 0, none⟩), .int .i64 k] w fun x w' => x = .returned (.tuple #[.agg (BEC BE.zero), .int .i64 13]) ∧ Below w.heap.size w w' := by
  have hz := (zero_of_info Try.infoEnt).1
  have hal := (Below.refl w.heap.size w).alloc (Nat.le_refl _) (.cells (BEC BE.zero) 46)
  obtain ⟨c6, c7⟩ := (h.below hal).cells
  have HIE := Lib.hid (fun e => esize e)
  have HON := Lib.hid (fun e => BEC_one e)
  have hnew := heap_alloc_new w (.cells (BEC BE.zero) 46)
  have HNEW := Lib.hid hnew
  clear h hnew
  generalize hZ : BEC BE.zero = Z at *
  have hsz : Z.size = Z.size := rfl
  have HSZ : Hid ((Try.prog.info? 46).map (·.size) = some Z.size) := Lib.hid (by rw [← hZ]; exact HIE.out _)
  have HOZ : Hid (Z.all (·.oneCell') = true) := Lib.hid (by rw [← hZ]; exact HON.out _)
  clear hZ hsz
  rcases hk with hk | hk
  · have t1 : decide (k < 0) = true := decide_eq_true hk
    clear hk
    go_enter Try.func24, Try.ntmps24
    go_wp2_with (refine wpList_store_row rfl 46 _ _ rfl w.heap.size Z rfl rfl 46 Z (heap_alloc_new w _) HSZ.out rfl HOZ.out ?_; rw [World.setRow_alloc_new])
    refine bodyPost_ret (res_row_tmp rfl _ _ w.heap.size 46 Z _ _ rfl HNEW.out Try.underlying46 rfl HSZ.out) rfl ?_
    exact ⟨rfl, hal⟩
  · have t1 : decide (k < 0) = false := decide_eq_false (by omega)
    have t2 : decide ((es.length : Int) ≤ k) = true := decide_eq_true hk
    clear hk
    go_enter Try.func24, Try.ntmps24
    go_wp2_with (refine wpList_store_row rfl 46 _ _ rfl w.heap.size Z rfl rfl 46 Z (heap_alloc_new w _) HSZ.out rfl HOZ.out ?_; rw [World.setRow_alloc_new])
    refine bodyPost_ret (res_row_tmp rfl _ _ w.heap.size 46 Z _ _ rfl HNEW.out Try.underlying46 rfl HSZ.out) rfl ?_
    exact ⟨rfl, hal⟩
theorem Try.infoGeoZ : (Try.prog.info? 23).map (fun i => (i.zero, i.size)) = some (some (.agg (GC ⟨0, 0, 0, 0, 0, 0⟩)), 6) := by kernel_rfl
set_option maxRecDepth 100000 in
set_option maxHeartbeats 1000000 in
theorem bgeom_any (w : World) (p le ll ce cl : Nat) (g : Geo.G) (es : List BE) (lv : List Int) (h : BmIs w p le ll ce cl g es lv) :
    Calls Try.prog 29 #[.pointer (some ⟨p, 0, none⟩)] w fun x w' => x = .returned (.agg (GC g)) ∧ Below w.heap.size w w' := by
  have hz := (zero_of_info Try.infoGeoZ).1
  have hal := (Below.refl w.heap.size w).alloc (Nat.le_refl _) (.cells (GC ⟨0, 0, 0, 0, 0, 0⟩) 23)
  obtain ⟨c0, c1, c2, c3, c4, c5⟩ := (h.below hal).geo
  have HIE := Lib.hid (gsize (g := g))
  have HON := Lib.hid (GC_one g)
  have hB2 : Below w.heap.size w (w.alloc (.cells (GC g) 23)) := (Below.refl w.heap.size w).alloc (Nat.le_refl _) _
  have hnew := heap_alloc_new w (.cells (GC g) 23)
  clear h
  go_enter Try.func29, Try.ntmps29
  go_wp2_with (refine wpList_store_row rfl 23 _ _ rfl w.heap.size (GC g) rfl rfl 23 (GC ⟨0, 0, 0, 0, 0, 0⟩) (heap_alloc_new w _) HIE.out rfl HON.out ?_; rw [World.setRow_alloc_new])
  refine bodyPost_ret (res_row rfl _ _ w.heap.size 23 (GC g) _ _ rfl hnew Try.underlying23 rfl HIE.out) rfl ?_
  exact ⟨rfl, hB2⟩
end Go.Proofs.Ytjnneoejnpephaa
namespace Go.Proofs.Ytjnneoejnpephaa
open Go.RowKit Go.Rv
set_option linter.unusedVariables false
theorem BmIs.setLive {w : World} {p le ll ce cl : Nat} {g : Geo.G} {es : List BE} {lv : List Int} (h : BmIs w p le ll ce cl g es lv) {k : Nat} (hk : k < lv.length) (v : Int) :
    BmIs (w.setCell ⟨ll, k, none⟩ (.int .i64 v)) p le ll ce cl g es (lv.set k v) := by
  obtain ⟨hn1, hn2, hn3⟩ := h.ne
  have hO := (Only.refl [ll] w).setCell (p := ⟨ll, k, none⟩) (.inl (by simp)) (.int .i64 v)
  obtain ⟨L, hL, hL2⟩ := h.he
  obtain ⟨V, hV, hV2⟩ := h.hl
  have hlen : (lv.set k v).length = lv.length := List.length_set
  refine ⟨?_, ⟨L, hO.get hL (by simpa using hn3), hL2⟩, ⟨V.setIfInBounds k (.int .i64 v), heap_setCell_same _ _ _ _ _ _ hV, ?_⟩, h.h1, by rw [hlen]; exact h.h2⟩
  · rw [hlen]
    exact hO.get h.hp (by simpa using hn2)
  · rw [hlen, Array.toList_setIfInBounds, List.take_set, hV2, List.map_set]
set_option maxRecDepth 100000 in
set_option maxHeartbeats 2000000 in
theorem bcnt_no (w : World) (p : Nat) (e : BE) (by' : Int) (he : (e.st == 1) = false) :
    Calls Try.prog 55 #[.pointer (some ⟨p, 0, none⟩), .agg (BEC e), .int .i64 by'] w fun x w' => (∃ v, x = .returned v) ∧ Below w.heap.size w w' := by
  have hal := (Below.refl w.heap.size w).alloc (Nat.le_refl _) (.cells (BEC e) 46)
  have hc : (w.alloc (.cells (BEC e) 46)).cell? ⟨w.heap.size, 0, none⟩ = some (.int .i64 e.st) := (cell_of_row _ _ _ _ _ _ (heap_alloc_new w _)).trans rfl
  generalize BEC e = C at *
  go_enter Try.func55, Try.ntmps55
  go_wp2
  go_end0
  exact ⟨⟨_, rfl⟩, hal⟩
set_option maxRecDepth 100000 in
set_option maxHeartbeats 2000000 in
theorem bcnt_yes (w : World) (p le ll ce cl : Nat) (g : Geo.G) (es : List BE) (lv : List Int) (h : BmIs w p le ll ce cl g es lv) (z m : Nat) (o q s by' x y : Int)
    (hx : lv[z]? = some x) (hy : (lv.set z (x + by'))[m]? = some y) (hb : -1 ≤ by' ∧ by' ≤ 1) (hxb : -100000 ≤ x ∧ x ≤ 100000) (hyb : -100000 ≤ y ∧ y ≤ 100000) (hn : lv.length ≤ 100000) :
    Calls Try.prog 55 #[.pointer (some ⟨p, 0, none⟩), .agg (BEC ⟨1, z, m, o, q, s⟩), .int .i64 by'] w fun e w' => (∃ v, e = .returned v) ∧ BmIs w' p le ll ce cl g es ((lv.set z (x + by')).set m (y + by')) ∧ Only [ll] w w' := by
  obtain ⟨C, hC⟩ : ∃ C, BEC ⟨1, z, m, o, q, s⟩ = C := ⟨_, rfl⟩
  have hal := (Below.refl w.heap.size w).alloc (Nat.le_refl _) (.cells C 46)
  have hnew := heap_alloc_new w (.cells C 46)
  obtain ⟨W1, hW1⟩ : ∃ W1, w.alloc (.cells C 46) = W1 := ⟨_, rfl⟩
  rw [hW1] at hal hnew
  have hq0 : ∀ W : World, W.heap[w.heap.size]? = some (.cells C 46 (0, 0)) → W.cell? ⟨w.heap.size, 0, none⟩ = some (.int .i64 1) ∧ W.cell? ⟨w.heap.size, 1, none⟩ = some (.int .i64 (z : Nat)) ∧ W.cell? ⟨w.heap.size, 2, none⟩ = some (.int .i64 (m : Nat)) := fun W hh => by
    rw [← hC] at hh
    exact ⟨(cell_of_row _ _ _ _ _ _ hh).trans rfl, (cell_of_row _ _ _ _ _ _ hh).trans rfl, (cell_of_row _ _ _ _ _ _ hh).trans rfl⟩
  have HQ0 := Lib.hid hq0
  have hB1 := h.below hal
  have hzl : z < lv.length := (List.getElem?_eq_some_iff.1 hx).1
  have hml : m < lv.length := by have := (List.getElem?_eq_some_iff.1 hy).1; rwa [List.length_set] at this
  have hlt := h.lt
  have HW1 := Lib.hid hW1
  have HC := Lib.hid hC
  have hOW : Only [ll] w W1 := Only.of_below hal
  have hcl := h.h2
  have HB1 := Lib.hid hB1
  have HX := Lib.hid hx
  have HY := Lib.hid hy
  have HNW := Lib.hid hnew
  have hzs := (Array.getElem?_eq_some_iff.1 hnew).1
  obtain ⟨k0, k1, k2⟩ := hq0 _ hnew
  clear hW1 hC hq0 h hB1 hx hy hnew hal
  rw [HC.out]
  go_enter Try.func55, Try.ntmps55
  go_upto_region 1 with (fail)
  rw [HW1.out]
  go_wp2
  refine wp_region_conf2 11 [Fact.eq ?rax0, Fact.eq ?rax1, Fact.eq ?rax2, Fact.eq ?rax3, Fact.eq ?rax4, Fact.eq ?rax5, Fact.eq ?rax6, Fact.eq ?rax7, Fact.eq ?rax8, Fact.eq ?rax9, Fact.eq ?rax10] ?raA (by kernel_rfl) (by kernel_rfl) ?rahA ?raho ?rahend
  case rahA =>
    intro vv
    simp only [putRules, Nat.reduceAdd]
    rfl
  case raho =>
    refine ⟨?_, ?_, ?_, ?_, ?_, ?_, ?_, ?_, ?_, ?_, ?_, trivial⟩
    · intro vv W K hB hd HK
      simp only [confRules] at HK
      clear hd
      go_wp2
      refine HK.out _ _ (Below.refl _ _) ?_
      rfl
    · intro vv W K hB hd HK
      simp only [confRules] at hd HK
      have h0 := hd
      clear hd
      simp only [h0] at HK ⊢
      clear h0
      go_wp2
      refine HK.out _ _ (Below.refl _ _) ?_
      rfl
    · intro vv W K hB hd HK
      simp only [confRules] at hd HK
      have h1 := hd
      clear hd
      simp only [h1] at HK ⊢
      clear h1
      go_wp2
      refine HK.out _ _ (Below.refl _ _) ?_
      rfl
    · intro vv W K hB hd HK
      simp only [confRules] at hd HK
      have h2 := hd
      clear hd
      simp only [h2] at HK ⊢
      clear h2
      have hbA := HB1.out.below hB
      obtain ⟨c6, c7⟩ := hbA.cells
      go_wp2
      refine HK.out _ _ (Below.refl _ _) ?_
      rfl
    · intro vv W K hB hd HK
      simp only [confRules] at HK
      clear hd
      go_wp2
      refine HK.out _ _ (Below.refl _ _) ?_
      rfl
    · intro vv W K hB hd HK
      simp only [confRules] at hd HK
      have h4 := hd
      clear hd
      simp only [h4] at HK ⊢
      clear h4
      have hT := (hB.block w.heap.size hzs).trans HNW.out
      obtain ⟨k0, k1, k2⟩ := HQ0.out _ hT
      clear hT
      go_wp2
      refine HK.out _ _ (Below.refl _ _) ?_
      rfl
    · intro vv W K hB hd HK
      simp only [confRules] at hd HK
      obtain ⟨h3, h5⟩ := hd
      simp only [h3, h5] at HK ⊢
      clear h3 h5
      go_wp2
      refine HK.out _ _ (Below.refl _ _) ?_
      rfl
    · intro vv W K hB hd HK
      simp only [confRules] at hd HK
      have h6 := hd
      clear hd
      simp only [h6] at HK ⊢
      clear h6
      have hbA := HB1.out.below hB
      obtain ⟨c8, -⟩ := hbA.live HX.out
      go_wp2
      refine HK.out _ _ (Below.refl _ _) ?_
      rfl
    · intro vv W K hB hd HK
      simp only [confRules] at HK
      clear hd
      go_wp2
      refine HK.out _ _ (Below.refl _ _) ?_
      rfl
    · intro vv W K hB hd HK
      simp only [confRules] at hd HK
      obtain ⟨h7, h8⟩ := hd
      simp only [h7, h8] at HK ⊢
      clear h7 h8
      go_wp2
      refine HK.out _ _ (Below.refl _ _) ?_
      rfl
    · intro vv W K hB hd HK
      simp only [confRules] at hd HK
      obtain ⟨h3, h5, h0, h1, h2, _, h4, _, h6, h7, h8, h9⟩ := hd
      simp only [h3, h5, h0, h1, h2, h4, h6, h7, h8, h9] at HK ⊢
      clear h3 h5 h0 h1 h2 h4 h6 h7 h8 h9
      go_wp2
      refine HK.out _ _ (Below.refl _ _) ?_
      rfl
  case rahend =>
    intro vv W hB hf
    have e9 := hf 9 (by decide)
    have e10 := hf 10 (by decide)
    simp only [endRules] at e9 e10
    simp only [e9, e10, dropRules]
    clear hf e9 e10
    have hbA := HB1.out.below hB
    obtain ⟨c7, cf7⟩ := hbA.live HX.out
    have hO2 : Only [ll] w W := hOW.trans (Only.of_below hB)
    have hbS := hbA.setLive hzl (x + by')
    have hnS := ((Only.refl [ll] W).setCell (p := ⟨ll, z, none⟩) (.inl (by simp)) (.int .i64 (x + by'))).get ((hB.block w.heap.size hzs).trans HNW.out) (by simp; omega)
    have hO3 := hO2.setCell (p := ⟨ll, z, none⟩) (.inl (by simp)) (.int .i64 (x + by'))
    obtain ⟨W2, hW2⟩ : ∃ W2, W.setCell ⟨ll, z, none⟩ (.int .i64 (x + by')) = W2 := ⟨_, rfl⟩
    rw [hW2] at hbS hnS hO3
    have HW2 := Lib.hid hW2
    have HBS := Lib.hid hbS
    have HNS := Lib.hid hnS
    have hzs2 := (Array.getElem?_eq_some_iff.1 hnS).1
    clear hW2 hbA hbS hnS hO2 hB
    go_upto_region 3 with (fail)
    rw [HW2.out]
    clear c7 cf7
    refine wp_region_conf2 11 [Fact.eq ?rbx0, Fact.eq ?rbx1, Fact.eq ?rbx2, Fact.eq ?rbx3, Fact.eq ?rbx4, Fact.eq ?rbx5, Fact.eq ?rbx6, Fact.eq ?rbx7, Fact.eq ?rbx8, Fact.eq ?rbx9, Fact.eq ?rbx10] ?rbA (by kernel_rfl) (by kernel_rfl) ?rbhA ?rbho ?rbhend
    case rbhA =>
      intro vv
      simp only [putRules, Nat.reduceAdd]
      rfl
    case rbho =>
      refine ⟨?_, ?_, ?_, ?_, ?_, ?_, ?_, ?_, ?_, ?_, ?_, trivial⟩
      · intro vv W K hB hd HK
        simp only [confRules] at HK
        clear hd
        go_wp2
        refine HK.out _ _ (Below.refl _ _) ?_
        rfl
      · intro vv W K hB hd HK
        simp only [confRules] at hd HK
        have h0 := hd
        clear hd
        simp only [h0] at HK ⊢
        clear h0
        go_wp2
        refine HK.out _ _ (Below.refl _ _) ?_
        rfl
      · intro vv W K hB hd HK
        simp only [confRules] at hd HK
        have h1 := hd
        clear hd
        simp only [h1] at HK ⊢
        clear h1
        go_wp2
        refine HK.out _ _ (Below.refl _ _) ?_
        rfl
      · intro vv W K hB hd HK
        simp only [confRules] at hd HK
        have h2 := hd
        clear hd
        simp only [h2] at HK ⊢
        clear h2
        have hbA := HBS.out.below hB
        obtain ⟨c6, c7⟩ := hbA.cells
        go_wp2
        refine HK.out _ _ (Below.refl _ _) ?_
        rfl
      · intro vv W K hB hd HK
        simp only [confRules] at HK
        clear hd
        go_wp2
        refine HK.out _ _ (Below.refl _ _) ?_
        rfl
      · intro vv W K hB hd HK
        simp only [confRules] at hd HK
        have h4 := hd
        clear hd
        simp only [h4] at HK ⊢
        clear h4
        have hT := (hB.block w.heap.size hzs2).trans HNS.out
        obtain ⟨k0, k1, k2⟩ := HQ0.out _ hT
        clear hT
        go_wp2
        refine HK.out _ _ (Below.refl _ _) ?_
        rfl
      · intro vv W K hB hd HK
        simp only [confRules] at hd HK
        obtain ⟨h3, h5⟩ := hd
        simp only [h3, h5] at HK ⊢
        clear h3 h5
        go_wp2
        refine HK.out _ _ (Below.refl _ _) ?_
        rfl
      · intro vv W K hB hd HK
        simp only [confRules] at hd HK
        have h6 := hd
        clear hd
        simp only [h6] at HK ⊢
        clear h6
        have hbA := HBS.out.below hB
        obtain ⟨c8, -⟩ := hbA.live HY.out
        go_wp2
        refine HK.out _ _ (Below.refl _ _) ?_
        rfl
      · intro vv W K hB hd HK
        simp only [confRules] at HK
        clear hd
        go_wp2
        refine HK.out _ _ (Below.refl _ _) ?_
        rfl
      · intro vv W K hB hd HK
        simp only [confRules] at hd HK
        obtain ⟨h7, h8⟩ := hd
        simp only [h7, h8] at HK ⊢
        clear h7 h8
        go_wp2
        refine HK.out _ _ (Below.refl _ _) ?_
        rfl
      · intro vv W K hB hd HK
        simp only [confRules] at hd HK
        obtain ⟨h3, h5, h0, h1, h2, _, h4, _, h6, h7, h8, h9⟩ := hd
        simp only [h3, h5, h0, h1, h2, h4, h6, h7, h8, h9] at HK ⊢
        clear h3 h5 h0 h1 h2 h4 h6 h7 h8 h9
        go_wp2
        refine HK.out _ _ (Below.refl _ _) ?_
        rfl
    case rbhend =>
      intro vv W hB hf
      have e9 := hf 9 (by decide)
      have e10 := hf 10 (by decide)
      simp only [endRules] at e9 e10
      simp only [e9, e10, dropRules]
      clear hf e9 e10
      have hbA := HBS.out.below hB
      obtain ⟨c7, cf7⟩ := hbA.live HY.out
      have hbT := hbA.setLive (by rw [List.length_set]; exact hml) (y + by')
      have hO4 := (hO3.trans (Only.of_below hB)).setCell (p := ⟨ll, m, none⟩) (.inl (by simp)) (.int .i64 (y + by'))
      have HBT := Lib.hid hbT
      clear hbT hbA
      go_wp2
      go_end0
      exact ⟨⟨_, rfl⟩, HBT.out, hO4⟩
end Go.Proofs.Ytjnneoejnpephaa
namespace Go.Proofs.Ytjnneoejnpephaa
open Go.RowKit Go.Rv
set_option linter.unusedVariables false
def beLive (g : Geo.G) (e : BE) : Bool := holdsG g e.z e.o && (holdsG g e.m e.o && (decide (domOf g e.z ≠ domOf g e.m) && (decide (1 ≤ e.q) && (decide (e.q ≤ 281474976710655) && (decide (0 ≤ e.s) && decide (e.s ≤ 4294967295))))))
/-- may an entry be? -/
def beRight (g : Geo.G) (e : BE) : Bool := if e.st = 0 ∨ e.st = 2 then decide (e = ⟨e.st, 0, 0, 0, 0, 0⟩) else if e.st = 1 then beLive g e else false
theorem bright_setup (C D : Array Value) (w : World) : ∃ W0, (w.alloc (.cells C 46)).alloc (.cells D 23) = W0 ∧ Below w.heap.size w W0 ∧ W0.heap[w.heap.size]? = some (.cells C 46 (0, 0)) ∧ W0.heap[w.heap.size + 1]? = some (.cells D 23 (0, 0)) ∧ w.heap.size + 1 < W0.heap.size := by
  refine ⟨_, rfl, ((Below.refl _ w).alloc (Nat.le_refl _) _).alloc (by simp) _, ?_, ?_, by simp⟩
  · exact (alloc_old _ _ (by simp)).trans (alloc_new _ _ rfl)
  · exact alloc_new _ _ (by simp)

set_option maxRecDepth 100000 in
set_option maxHeartbeats 2000000 in
theorem bright_1 (C D : Array Value) (z m o q s d1 d2 : Int) (w : World)
    (hC : ∀ (W : World), W.heap[w.heap.size]? = some (.cells C 46 (0, 0)) → W.cell? ⟨w.heap.size, 0, none⟩ = some (.int .i64 1) ∧ W.cell? ⟨w.heap.size, 1, none⟩ = some (.int .i64 z) ∧ W.cell? ⟨w.heap.size, 2, none⟩ = some (.int .i64 m) ∧ W.cell? ⟨w.heap.size, 3, none⟩ = some (.int .i64 o) ∧ W.cell? ⟨w.heap.size, 4, none⟩ = some (.int .i64 q) ∧ W.cell? ⟨w.heap.size, 5, none⟩ = some (.int .i64 s))
    (hI : (Try.prog.info? 23).map (·.size) = some D.size)
    (h1 : ∀ W, Calls Try.prog 19 #[.agg D, .int .i64 z, .int .i64 o] W fun e w' => e = .returned (.bool false) ∧ Below W.heap.size W w') :
    Calls Try.prog 54 #[.agg C, .agg D] w fun e w' => e = .returned (.bool false) ∧ Below w.heap.size w w' := by
  obtain ⟨W0, hW0, hB0, hE, hG, hz0⟩ := bright_setup C D w
  obtain ⟨k0, -⟩ := hC _ hE
  have HW0 := Lib.hid hW0
  have HE := Lib.hid hE
  have HG := Lib.hid hG
  have HI := Lib.hid hI
  have HQ := Lib.hid (fun W hh => (hC W hh).2)
  have H1 := Lib.hid h1
  clear hW0 hE hG hI hC h1
  go_enter Try.func54, Try.ntmps54
  go_upto_region 1 with (fail)
  rw [HW0.out]
  go_wp2
  refine wp_region_conf2 45 [Fact.eq ?rax0, Fact.eq ?rax1, Fact.eq ?rax2, Fact.eq ?rax3, Fact.eq ?rax4, Fact.eq ?rax5, Fact.eq ?rax6, Fact.eq undef, Fact.eq undef, Fact.eq undef, Fact.eq undef, Fact.eq undef, Fact.eq undef, Fact.eq ?rax13, Fact.eq ?rax14, Fact.eq undef, Fact.eq undef, Fact.eq undef, Fact.eq undef, Fact.eq undef, Fact.eq undef, Fact.eq undef, Fact.eq undef, Fact.eq undef, Fact.eq ?rax24, Fact.eq ?rax25, Fact.eq undef, Fact.eq undef, Fact.eq undef, Fact.eq ?rax29, Fact.eq ?rax30, Fact.eq undef, Fact.eq undef, Fact.eq undef, Fact.eq ?rax34, Fact.eq ?rax35, Fact.eq undef, Fact.eq undef, Fact.eq undef, Fact.eq ?rax39, Fact.eq ?rax40, Fact.eq undef, Fact.eq undef, Fact.eq undef, Fact.eq ?rax44] ?raA (by kernel_rfl) (by kernel_rfl) ?rahA ?raho ?rahend
  case rahA =>
    intro vv
    simp only [putRules, Nat.reduceAdd]
    rfl
  case raho =>
    refine ⟨?_, ?_, ?_, ?_, ?_, ?_, ?_, ?_, ?_, ?_, ?_, ?_, ?_, ?_, ?_, ?_, ?_, ?_, ?_, ?_, ?_, ?_, ?_, ?_, ?_, ?_, ?_, ?_, ?_, ?_, ?_, ?_, ?_, ?_, ?_, ?_, ?_, ?_, ?_, ?_, ?_, ?_, ?_, ?_, ?_, trivial⟩
    · intro vv W K hB hd HK
      simp only [confRules] at HK
      clear hd
      have hT := (hB.block (w.heap.size + 1) hz0).trans HG.out
      go_wp2_with (refine wpList_row_on (by rfl) 23 _ rfl (w.heap.size + 1) rfl 23 _ _ _ hT Try.underlying23 rfl HI.out ?_)
      refine HK.out _ _ (Below.refl _ _) ?_
      rfl
    · intro vv W K hB hd HK
      simp only [confRules] at HK
      clear hd
      go_wp2
      refine HK.out _ _ (Below.refl _ _) ?_
      rfl
    · intro vv W K hB hd HK
      simp only [confRules] at hd HK
      have h1 := hd
      clear hd
      simp only [h1] at HK ⊢
      clear h1
      have hT := (hB.block w.heap.size (by omega)).trans HE.out
      obtain ⟨k1, k2, k3, k4, k5⟩ := HQ.out _ hT
      clear hT
      go_wp2
      refine HK.out _ _ (Below.refl _ _) ?_
      rfl
    · intro vv W K hB hd HK
      simp only [confRules] at HK
      clear hd
      go_wp2
      refine HK.out _ _ (Below.refl _ _) ?_
      rfl
    · intro vv W K hB hd HK
      simp only [confRules] at hd HK
      have h3 := hd
      clear hd
      simp only [h3] at HK ⊢
      clear h3
      have hT := (hB.block w.heap.size (by omega)).trans HE.out
      obtain ⟨k1, k2, k3, k4, k5⟩ := HQ.out _ hT
      clear hT
      go_wp2
      refine HK.out _ _ (Below.refl _ _) ?_
      rfl
    · intro vv W K hB hd HK
      simp only [confRules] at hd HK
      obtain ⟨h0, h2, h4⟩ := hd
      simp only [h0, h2, h4] at HK ⊢
      clear h0 h2 h4
      go_wp2_with (refine (H1.out _).mono ?_; rintro e w9 ⟨rfl, hB9⟩)
      refine HK.out _ _ hB9 ?_
      rfl
    · intro vv W K hB hd HK
      simp only [confRules] at hd HK
      obtain ⟨h5, _⟩ := hd
      simp only [h5] at HK ⊢
      clear h5
      go_wp2
      refine HK.out _ _ (Below.refl _ _) ?_
      rfl
    · intro vv W K hB hd HK
      simp only [confRules] at hd HK
      have h6 := hd
      clear hd
      simp only [h6] at HK ⊢
      clear h6
      refine wpList_guard_no (by rfl) ?_
      refine HK.out _ _ (Below.refl _ _) ?_
      rfl
    · intro vv W K hB hd HK
      simp only [confRules] at hd HK
      have h6 := hd
      clear hd
      simp only [h6] at HK ⊢
      clear h6
      refine wpList_guard_no (by rfl) ?_
      refine HK.out _ _ (Below.refl _ _) ?_
      rfl
    · intro vv W K hB hd HK
      simp only [confRules] at hd HK
      obtain ⟨h8, h6⟩ := hd
      simp only [h8, h6] at HK ⊢
      clear h8 h6
      refine wpList_guard_no (by rfl) ?_
      refine HK.out _ _ (Below.refl _ _) ?_
      rfl
    · intro vv W K hB hd HK
      simp only [confRules] at hd HK
      have h6 := hd
      clear hd
      simp only [h6] at HK ⊢
      clear h6
      refine wpList_guard_no (by rfl) ?_
      refine HK.out _ _ (Below.refl _ _) ?_
      rfl
    · intro vv W K hB hd HK
      simp only [confRules] at hd HK
      obtain ⟨h10, h6⟩ := hd
      simp only [h10, h6] at HK ⊢
      clear h10 h6
      refine wpList_guard_no (by rfl) ?_
      refine HK.out _ _ (Below.refl _ _) ?_
      rfl
    · intro vv W K hB hd HK
      simp only [confRules] at hd HK
      obtain ⟨h7, h9, h11, h6, _⟩ := hd
      simp only [h7, h9, h11, h6] at HK ⊢
      clear h7 h9 h11 h6
      refine wpList_guard_no (by rfl) ?_
      refine HK.out _ _ (Below.refl _ _) ?_
      rfl
    · intro vv W K hB hd HK
      simp only [confRules] at hd HK
      obtain ⟨h6, h12⟩ := hd
      simp only [h6, h12] at HK ⊢
      clear h6 h12
      go_wp2
      refine HK.out _ _ (Below.refl _ _) ?_
      rfl
    · intro vv W K hB hd HK
      simp only [confRules] at hd HK
      obtain ⟨h13, h12⟩ := hd
      simp only [h13, h12] at HK ⊢
      clear h13 h12
      go_wp2
      refine HK.out _ _ (Below.refl _ _) ?_
      rfl
    · intro vv W K hB hd HK
      simp only [confRules] at hd HK
      have h14 := hd
      clear hd
      simp only [h14] at HK ⊢
      clear h14
      refine wpList_guard_no (by rfl) ?_
      refine HK.out _ _ (Below.refl _ _) ?_
      rfl
    · intro vv W K hB hd HK
      simp only [confRules] at hd HK
      have h14 := hd
      clear hd
      simp only [h14] at HK ⊢
      clear h14
      refine wpList_guard_no (by rfl) ?_
      refine HK.out _ _ (Below.refl _ _) ?_
      rfl
    · intro vv W K hB hd HK
      simp only [confRules] at hd HK
      obtain ⟨h16, h14⟩ := hd
      simp only [h16, h14] at HK ⊢
      clear h16 h14
      refine wpList_guard_no (by rfl) ?_
      refine HK.out _ _ (Below.refl _ _) ?_
      rfl
    · intro vv W K hB hd HK
      simp only [confRules] at hd HK
      obtain ⟨h15, h17, h14, _⟩ := hd
      simp only [h15, h17, h14] at HK ⊢
      clear h15 h17 h14
      refine wpList_guard_no (by rfl) ?_
      refine HK.out _ _ (Below.refl _ _) ?_
      rfl
    · intro vv W K hB hd HK
      simp only [confRules] at hd HK
      have h14 := hd
      clear hd
      simp only [h14] at HK ⊢
      clear h14
      refine wpList_guard_no (by rfl) ?_
      refine HK.out _ _ (Below.refl _ _) ?_
      rfl
    · intro vv W K hB hd HK
      simp only [confRules] at hd HK
      have h14 := hd
      clear hd
      simp only [h14] at HK ⊢
      clear h14
      refine wpList_guard_no (by rfl) ?_
      refine HK.out _ _ (Below.refl _ _) ?_
      rfl
    · intro vv W K hB hd HK
      simp only [confRules] at hd HK
      obtain ⟨h20, h14⟩ := hd
      simp only [h20, h14] at HK ⊢
      clear h20 h14
      refine wpList_guard_no (by rfl) ?_
      refine HK.out _ _ (Below.refl _ _) ?_
      rfl
    · intro vv W K hB hd HK
      simp only [confRules] at hd HK
      obtain ⟨h19, h21, h18, h14⟩ := hd
      simp only [h19, h21, h18, h14] at HK ⊢
      clear h19 h21 h18 h14
      refine wpList_guard_no (by rfl) ?_
      refine HK.out _ _ (Below.refl _ _) ?_
      rfl
    · intro vv W K hB hd HK
      simp only [confRules] at hd HK
      obtain ⟨h18, h22, h14⟩ := hd
      simp only [h18, h22, h14] at HK ⊢
      clear h18 h22 h14
      refine wpList_guard_no (by rfl) ?_
      refine HK.out _ _ (Below.refl _ _) ?_
      rfl
    · intro vv W K hB hd HK
      simp only [confRules] at hd HK
      obtain ⟨h14, h23⟩ := hd
      simp only [h14, h23] at HK ⊢
      clear h14 h23
      go_wp2
      refine HK.out _ _ (Below.refl _ _) ?_
      rfl
    · intro vv W K hB hd HK
      simp only [confRules] at hd HK
      obtain ⟨h24, h22⟩ := hd
      simp only [h24, h22] at HK ⊢
      clear h24 h22
      go_wp2
      refine HK.out _ _ (Below.refl _ _) ?_
      rfl
    · intro vv W K hB hd HK
      simp only [confRules] at hd HK
      have h25 := hd
      clear hd
      simp only [h25] at HK ⊢
      clear h25
      refine wpList_guard_no (by rfl) ?_
      refine HK.out _ _ (Below.refl _ _) ?_
      rfl
    · intro vv W K hB hd HK
      simp only [confRules] at hd HK
      obtain ⟨h26, h25⟩ := hd
      simp only [h26, h25] at HK ⊢
      clear h26 h25
      refine wpList_guard_no (by rfl) ?_
      refine HK.out _ _ (Below.refl _ _) ?_
      rfl
    · intro vv W K hB hd HK
      simp only [confRules] at hd HK
      obtain ⟨h27, h25⟩ := hd
      simp only [h27, h25] at HK ⊢
      clear h27 h25
      refine wpList_guard_no (by rfl) ?_
      refine HK.out _ _ (Below.refl _ _) ?_
      rfl
    · intro vv W K hB hd HK
      simp only [confRules] at hd HK
      obtain ⟨h25, h28⟩ := hd
      simp only [h25, h28] at HK ⊢
      clear h25 h28
      go_wp2
      refine HK.out _ _ (Below.refl _ _) ?_
      rfl
    · intro vv W K hB hd HK
      simp only [confRules] at hd HK
      obtain ⟨h29, h25⟩ := hd
      simp only [h29, h25] at HK ⊢
      clear h29 h25
      go_wp2
      refine HK.out _ _ (Below.refl _ _) ?_
      rfl
    · intro vv W K hB hd HK
      simp only [confRules] at hd HK
      have h30 := hd
      clear hd
      simp only [h30] at HK ⊢
      clear h30
      refine wpList_guard_no (by rfl) ?_
      refine HK.out _ _ (Below.refl _ _) ?_
      rfl
    · intro vv W K hB hd HK
      simp only [confRules] at hd HK
      obtain ⟨h31, h30⟩ := hd
      simp only [h31, h30] at HK ⊢
      clear h31 h30
      refine wpList_guard_no (by rfl) ?_
      refine HK.out _ _ (Below.refl _ _) ?_
      rfl
    · intro vv W K hB hd HK
      simp only [confRules] at hd HK
      obtain ⟨h32, h30⟩ := hd
      simp only [h32, h30] at HK ⊢
      clear h32 h30
      refine wpList_guard_no (by rfl) ?_
      refine HK.out _ _ (Below.refl _ _) ?_
      rfl
    · intro vv W K hB hd HK
      simp only [confRules] at hd HK
      obtain ⟨h30, h33⟩ := hd
      simp only [h30, h33] at HK ⊢
      clear h30 h33
      go_wp2
      refine HK.out _ _ (Below.refl _ _) ?_
      rfl
    · intro vv W K hB hd HK
      simp only [confRules] at hd HK
      obtain ⟨h34, h30⟩ := hd
      simp only [h34, h30] at HK ⊢
      clear h34 h30
      go_wp2
      refine HK.out _ _ (Below.refl _ _) ?_
      rfl
    · intro vv W K hB hd HK
      simp only [confRules] at hd HK
      have h35 := hd
      clear hd
      simp only [h35] at HK ⊢
      clear h35
      refine wpList_guard_no (by rfl) ?_
      refine HK.out _ _ (Below.refl _ _) ?_
      rfl
    · intro vv W K hB hd HK
      simp only [confRules] at hd HK
      obtain ⟨h36, h35⟩ := hd
      simp only [h36, h35] at HK ⊢
      clear h36 h35
      refine wpList_guard_no (by rfl) ?_
      refine HK.out _ _ (Below.refl _ _) ?_
      rfl
    · intro vv W K hB hd HK
      simp only [confRules] at hd HK
      obtain ⟨h37, h35⟩ := hd
      simp only [h37, h35] at HK ⊢
      clear h37 h35
      refine wpList_guard_no (by rfl) ?_
      refine HK.out _ _ (Below.refl _ _) ?_
      rfl
    · intro vv W K hB hd HK
      simp only [confRules] at hd HK
      obtain ⟨h35, h38⟩ := hd
      simp only [h35, h38] at HK ⊢
      clear h35 h38
      go_wp2
      refine HK.out _ _ (Below.refl _ _) ?_
      rfl
    · intro vv W K hB hd HK
      simp only [confRules] at hd HK
      obtain ⟨h39, h35⟩ := hd
      simp only [h39, h35] at HK ⊢
      clear h39 h35
      go_wp2
      refine HK.out _ _ (Below.refl _ _) ?_
      rfl
    · intro vv W K hB hd HK
      simp only [confRules] at hd HK
      have h40 := hd
      clear hd
      simp only [h40] at HK ⊢
      clear h40
      refine wpList_guard_no (by rfl) ?_
      refine HK.out _ _ (Below.refl _ _) ?_
      rfl
    · intro vv W K hB hd HK
      simp only [confRules] at hd HK
      obtain ⟨h41, h40⟩ := hd
      simp only [h41, h40] at HK ⊢
      clear h41 h40
      refine wpList_guard_no (by rfl) ?_
      refine HK.out _ _ (Below.refl _ _) ?_
      rfl
    · intro vv W K hB hd HK
      simp only [confRules] at hd HK
      obtain ⟨h42, h40⟩ := hd
      simp only [h42, h40] at HK ⊢
      clear h42 h40
      refine wpList_guard_no (by rfl) ?_
      refine HK.out _ _ (Below.refl _ _) ?_
      rfl
    · intro vv W K hB hd HK
      simp only [confRules] at hd HK
      obtain ⟨h40, h43⟩ := hd
      simp only [h40, h43] at HK ⊢
      clear h40 h43
      go_wp2
      refine HK.out _ _ (Below.refl _ _) ?_
      rfl
  case rahend =>
    intro vv W hB hf
    have e44 := hf 44 (by decide)
    simp only [endRules] at e44
    simp only [e44, dropRules]
    clear hf e44
    go_wp2
    go_ret
    exact ⟨rfl, hB0.trans (hB.mono (by omega))⟩
set_option maxRecDepth 100000 in
set_option maxHeartbeats 2000000 in
theorem bright_2 (C D : Array Value) (z m o q s d1 d2 : Int) (w : World)
    (hC : ∀ (W : World), W.heap[w.heap.size]? = some (.cells C 46 (0, 0)) → W.cell? ⟨w.heap.size, 0, none⟩ = some (.int .i64 1) ∧ W.cell? ⟨w.heap.size, 1, none⟩ = some (.int .i64 z) ∧ W.cell? ⟨w.heap.size, 2, none⟩ = some (.int .i64 m) ∧ W.cell? ⟨w.heap.size, 3, none⟩ = some (.int .i64 o) ∧ W.cell? ⟨w.heap.size, 4, none⟩ = some (.int .i64 q) ∧ W.cell? ⟨w.heap.size, 5, none⟩ = some (.int .i64 s))
    (hI : (Try.prog.info? 23).map (·.size) = some D.size)
    (h1 : ∀ W, Calls Try.prog 19 #[.agg D, .int .i64 z, .int .i64 o] W fun e w' => e = .returned (.bool true) ∧ Below W.heap.size W w')
    (h2 : ∀ W, Calls Try.prog 19 #[.agg D, .int .i64 m, .int .i64 o] W fun e w' => e = .returned (.bool false) ∧ Below W.heap.size W w') :
    Calls Try.prog 54 #[.agg C, .agg D] w fun e w' => e = .returned (.bool false) ∧ Below w.heap.size w w' := by
  obtain ⟨W0, hW0, hB0, hE, hG, hz0⟩ := bright_setup C D w
  obtain ⟨k0, -⟩ := hC _ hE
  have HW0 := Lib.hid hW0
  have HE := Lib.hid hE
  have HG := Lib.hid hG
  have HI := Lib.hid hI
  have HQ := Lib.hid (fun W hh => (hC W hh).2)
  have H1 := Lib.hid h1
  have H2 := Lib.hid h2
  clear hW0 hE hG hI hC h1 h2
  go_enter Try.func54, Try.ntmps54
  go_upto_region 1 with (fail)
  rw [HW0.out]
  go_wp2
  refine wp_region_conf2 45 [Fact.eq ?rax0, Fact.eq ?rax1, Fact.eq ?rax2, Fact.eq ?rax3, Fact.eq ?rax4, Fact.eq ?rax5, Fact.eq ?rax6, Fact.eq ?rax7, Fact.eq ?rax8, Fact.eq ?rax9, Fact.eq ?rax10, Fact.eq ?rax11, Fact.eq ?rax12, Fact.eq ?rax13, Fact.eq ?rax14, Fact.eq undef, Fact.eq undef, Fact.eq undef, Fact.eq undef, Fact.eq undef, Fact.eq undef, Fact.eq undef, Fact.eq undef, Fact.eq undef, Fact.eq ?rax24, Fact.eq ?rax25, Fact.eq undef, Fact.eq undef, Fact.eq undef, Fact.eq ?rax29, Fact.eq ?rax30, Fact.eq undef, Fact.eq undef, Fact.eq undef, Fact.eq ?rax34, Fact.eq ?rax35, Fact.eq undef, Fact.eq undef, Fact.eq undef, Fact.eq ?rax39, Fact.eq ?rax40, Fact.eq undef, Fact.eq undef, Fact.eq undef, Fact.eq ?rax44] ?raA (by kernel_rfl) (by kernel_rfl) ?rahA ?raho ?rahend
  case rahA =>
    intro vv
    simp only [putRules, Nat.reduceAdd]
    rfl
  case raho =>
    refine ⟨?_, ?_, ?_, ?_, ?_, ?_, ?_, ?_, ?_, ?_, ?_, ?_, ?_, ?_, ?_, ?_, ?_, ?_, ?_, ?_, ?_, ?_, ?_, ?_, ?_, ?_, ?_, ?_, ?_, ?_, ?_, ?_, ?_, ?_, ?_, ?_, ?_, ?_, ?_, ?_, ?_, ?_, ?_, ?_, ?_, trivial⟩
    · intro vv W K hB hd HK
      simp only [confRules] at HK
      clear hd
      have hT := (hB.block (w.heap.size + 1) hz0).trans HG.out
      go_wp2_with (refine wpList_row_on (by rfl) 23 _ rfl (w.heap.size + 1) rfl 23 _ _ _ hT Try.underlying23 rfl HI.out ?_)
      refine HK.out _ _ (Below.refl _ _) ?_
      rfl
    · intro vv W K hB hd HK
      simp only [confRules] at HK
      clear hd
      go_wp2
      refine HK.out _ _ (Below.refl _ _) ?_
      rfl
    · intro vv W K hB hd HK
      simp only [confRules] at hd HK
      have h1 := hd
      clear hd
      simp only [h1] at HK ⊢
      clear h1
      have hT := (hB.block w.heap.size (by omega)).trans HE.out
      obtain ⟨k1, k2, k3, k4, k5⟩ := HQ.out _ hT
      clear hT
      go_wp2
      refine HK.out _ _ (Below.refl _ _) ?_
      rfl
    · intro vv W K hB hd HK
      simp only [confRules] at HK
      clear hd
      go_wp2
      refine HK.out _ _ (Below.refl _ _) ?_
      rfl
    · intro vv W K hB hd HK
      simp only [confRules] at hd HK
      have h3 := hd
      clear hd
      simp only [h3] at HK ⊢
      clear h3
      have hT := (hB.block w.heap.size (by omega)).trans HE.out
      obtain ⟨k1, k2, k3, k4, k5⟩ := HQ.out _ hT
      clear hT
      go_wp2
      refine HK.out _ _ (Below.refl _ _) ?_
      rfl
    · intro vv W K hB hd HK
      simp only [confRules] at hd HK
      obtain ⟨h0, h2, h4⟩ := hd
      simp only [h0, h2, h4] at HK ⊢
      clear h0 h2 h4
      go_wp2_with (refine (H1.out _).mono ?_; rintro e w9 ⟨rfl, hB9⟩)
      refine HK.out _ _ hB9 ?_
      rfl
    · intro vv W K hB hd HK
      simp only [confRules] at hd HK
      obtain ⟨h5, _⟩ := hd
      simp only [h5] at HK ⊢
      clear h5
      go_wp2
      refine HK.out _ _ (Below.refl _ _) ?_
      rfl
    · intro vv W K hB hd HK
      simp only [confRules] at hd HK
      have h6 := hd
      clear hd
      simp only [h6] at HK ⊢
      clear h6
      refine wpList_guard_yes (by rfl) ?_
      have hT := (hB.block (w.heap.size + 1) hz0).trans HG.out
      go_wp2_with (refine wpList_row_on (by rfl) 23 _ rfl (w.heap.size + 1) rfl 23 _ _ _ hT Try.underlying23 rfl HI.out ?_)
      refine HK.out _ _ (Below.refl _ _) ?_
      rfl
    · intro vv W K hB hd HK
      simp only [confRules] at hd HK
      have h6 := hd
      clear hd
      simp only [h6] at HK ⊢
      clear h6
      refine wpList_guard_yes (by rfl) ?_
      go_wp2
      refine HK.out _ _ (Below.refl _ _) ?_
      rfl
    · intro vv W K hB hd HK
      simp only [confRules] at hd HK
      obtain ⟨h8, h6⟩ := hd
      simp only [h8, h6] at HK ⊢
      clear h8 h6
      refine wpList_guard_yes (by rfl) ?_
      have hT := (hB.block w.heap.size (by omega)).trans HE.out
      obtain ⟨k1, k2, k3, k4, k5⟩ := HQ.out _ hT
      clear hT
      go_wp2
      refine HK.out _ _ (Below.refl _ _) ?_
      rfl
    · intro vv W K hB hd HK
      simp only [confRules] at hd HK
      have h6 := hd
      clear hd
      simp only [h6] at HK ⊢
      clear h6
      refine wpList_guard_yes (by rfl) ?_
      go_wp2
      refine HK.out _ _ (Below.refl _ _) ?_
      rfl
    · intro vv W K hB hd HK
      simp only [confRules] at hd HK
      obtain ⟨h10, h6⟩ := hd
      simp only [h10, h6] at HK ⊢
      clear h10 h6
      refine wpList_guard_yes (by rfl) ?_
      have hT := (hB.block w.heap.size (by omega)).trans HE.out
      obtain ⟨k1, k2, k3, k4, k5⟩ := HQ.out _ hT
      clear hT
      go_wp2
      refine HK.out _ _ (Below.refl _ _) ?_
      rfl
    · intro vv W K hB hd HK
      simp only [confRules] at hd HK
      obtain ⟨h7, h9, h11, h6, _⟩ := hd
      simp only [h7, h9, h11, h6] at HK ⊢
      clear h7 h9 h11 h6
      refine wpList_guard_yes (by rfl) ?_
      go_wp2_with (refine (H2.out _).mono ?_; rintro e w9 ⟨rfl, hB9⟩)
      refine HK.out _ _ hB9 ?_
      rfl
    · intro vv W K hB hd HK
      simp only [confRules] at hd HK
      obtain ⟨h6, h12⟩ := hd
      simp only [h6, h12] at HK ⊢
      clear h6 h12
      go_wp2
      refine HK.out _ _ (Below.refl _ _) ?_
      rfl
    · intro vv W K hB hd HK
      simp only [confRules] at hd HK
      obtain ⟨h13, h12⟩ := hd
      simp only [h13, h12] at HK ⊢
      clear h13 h12
      go_wp2
      refine HK.out _ _ (Below.refl _ _) ?_
      rfl
    · intro vv W K hB hd HK
      simp only [confRules] at hd HK
      have h14 := hd
      clear hd
      simp only [h14] at HK ⊢
      clear h14
      refine wpList_guard_no (by rfl) ?_
      refine HK.out _ _ (Below.refl _ _) ?_
      rfl
    · intro vv W K hB hd HK
      simp only [confRules] at hd HK
      have h14 := hd
      clear hd
      simp only [h14] at HK ⊢
      clear h14
      refine wpList_guard_no (by rfl) ?_
      refine HK.out _ _ (Below.refl _ _) ?_
      rfl
    · intro vv W K hB hd HK
      simp only [confRules] at hd HK
      obtain ⟨h16, h14⟩ := hd
      simp only [h16, h14] at HK ⊢
      clear h16 h14
      refine wpList_guard_no (by rfl) ?_
      refine HK.out _ _ (Below.refl _ _) ?_
      rfl
    · intro vv W K hB hd HK
      simp only [confRules] at hd HK
      obtain ⟨h15, h17, h14, _⟩ := hd
      simp only [h15, h17, h14] at HK ⊢
      clear h15 h17 h14
      refine wpList_guard_no (by rfl) ?_
      refine HK.out _ _ (Below.refl _ _) ?_
      rfl
    · intro vv W K hB hd HK
      simp only [confRules] at hd HK
      have h14 := hd
      clear hd
      simp only [h14] at HK ⊢
      clear h14
      refine wpList_guard_no (by rfl) ?_
      refine HK.out _ _ (Below.refl _ _) ?_
      rfl
    · intro vv W K hB hd HK
      simp only [confRules] at hd HK
      have h14 := hd
      clear hd
      simp only [h14] at HK ⊢
      clear h14
      refine wpList_guard_no (by rfl) ?_
      refine HK.out _ _ (Below.refl _ _) ?_
      rfl
    · intro vv W K hB hd HK
      simp only [confRules] at hd HK
      obtain ⟨h20, h14⟩ := hd
      simp only [h20, h14] at HK ⊢
      clear h20 h14
      refine wpList_guard_no (by rfl) ?_
      refine HK.out _ _ (Below.refl _ _) ?_
      rfl
    · intro vv W K hB hd HK
      simp only [confRules] at hd HK
      obtain ⟨h19, h21, h18, h14⟩ := hd
      simp only [h19, h21, h18, h14] at HK ⊢
      clear h19 h21 h18 h14
      refine wpList_guard_no (by rfl) ?_
      refine HK.out _ _ (Below.refl _ _) ?_
      rfl
    · intro vv W K hB hd HK
      simp only [confRules] at hd HK
      obtain ⟨h18, h22, h14⟩ := hd
      simp only [h18, h22, h14] at HK ⊢
      clear h18 h22 h14
      refine wpList_guard_no (by rfl) ?_
      refine HK.out _ _ (Below.refl _ _) ?_
      rfl
    · intro vv W K hB hd HK
      simp only [confRules] at hd HK
      obtain ⟨h14, h23⟩ := hd
      simp only [h14, h23] at HK ⊢
      clear h14 h23
      go_wp2
      refine HK.out _ _ (Below.refl _ _) ?_
      rfl
    · intro vv W K hB hd HK
      simp only [confRules] at hd HK
      obtain ⟨h24, h22⟩ := hd
      simp only [h24, h22] at HK ⊢
      clear h24 h22
      go_wp2
      refine HK.out _ _ (Below.refl _ _) ?_
      rfl
    · intro vv W K hB hd HK
      simp only [confRules] at hd HK
      have h25 := hd
      clear hd
      simp only [h25] at HK ⊢
      clear h25
      refine wpList_guard_no (by rfl) ?_
      refine HK.out _ _ (Below.refl _ _) ?_
      rfl
    · intro vv W K hB hd HK
      simp only [confRules] at hd HK
      obtain ⟨h26, h25⟩ := hd
      simp only [h26, h25] at HK ⊢
      clear h26 h25
      refine wpList_guard_no (by rfl) ?_
      refine HK.out _ _ (Below.refl _ _) ?_
      rfl
    · intro vv W K hB hd HK
      simp only [confRules] at hd HK
      obtain ⟨h27, h25⟩ := hd
      simp only [h27, h25] at HK ⊢
      clear h27 h25
      refine wpList_guard_no (by rfl) ?_
      refine HK.out _ _ (Below.refl _ _) ?_
      rfl
    · intro vv W K hB hd HK
      simp only [confRules] at hd HK
      obtain ⟨h25, h28⟩ := hd
      simp only [h25, h28] at HK ⊢
      clear h25 h28
      go_wp2
      refine HK.out _ _ (Below.refl _ _) ?_
      rfl
    · intro vv W K hB hd HK
      simp only [confRules] at hd HK
      obtain ⟨h29, h25⟩ := hd
      simp only [h29, h25] at HK ⊢
      clear h29 h25
      go_wp2
      refine HK.out _ _ (Below.refl _ _) ?_
      rfl
    · intro vv W K hB hd HK
      simp only [confRules] at hd HK
      have h30 := hd
      clear hd
      simp only [h30] at HK ⊢
      clear h30
      refine wpList_guard_no (by rfl) ?_
      refine HK.out _ _ (Below.refl _ _) ?_
      rfl
    · intro vv W K hB hd HK
      simp only [confRules] at hd HK
      obtain ⟨h31, h30⟩ := hd
      simp only [h31, h30] at HK ⊢
      clear h31 h30
      refine wpList_guard_no (by rfl) ?_
      refine HK.out _ _ (Below.refl _ _) ?_
      rfl
    · intro vv W K hB hd HK
      simp only [confRules] at hd HK
      obtain ⟨h32, h30⟩ := hd
      simp only [h32, h30] at HK ⊢
      clear h32 h30
      refine wpList_guard_no (by rfl) ?_
      refine HK.out _ _ (Below.refl _ _) ?_
      rfl
    · intro vv W K hB hd HK
      simp only [confRules] at hd HK
      obtain ⟨h30, h33⟩ := hd
      simp only [h30, h33] at HK ⊢
      clear h30 h33
      go_wp2
      refine HK.out _ _ (Below.refl _ _) ?_
      rfl
    · intro vv W K hB hd HK
      simp only [confRules] at hd HK
      obtain ⟨h34, h30⟩ := hd
      simp only [h34, h30] at HK ⊢
      clear h34 h30
      go_wp2
      refine HK.out _ _ (Below.refl _ _) ?_
      rfl
    · intro vv W K hB hd HK
      simp only [confRules] at hd HK
      have h35 := hd
      clear hd
      simp only [h35] at HK ⊢
      clear h35
      refine wpList_guard_no (by rfl) ?_
      refine HK.out _ _ (Below.refl _ _) ?_
      rfl
    · intro vv W K hB hd HK
      simp only [confRules] at hd HK
      obtain ⟨h36, h35⟩ := hd
      simp only [h36, h35] at HK ⊢
      clear h36 h35
      refine wpList_guard_no (by rfl) ?_
      refine HK.out _ _ (Below.refl _ _) ?_
      rfl
    · intro vv W K hB hd HK
      simp only [confRules] at hd HK
      obtain ⟨h37, h35⟩ := hd
      simp only [h37, h35] at HK ⊢
      clear h37 h35
      refine wpList_guard_no (by rfl) ?_
      refine HK.out _ _ (Below.refl _ _) ?_
      rfl
    · intro vv W K hB hd HK
      simp only [confRules] at hd HK
      obtain ⟨h35, h38⟩ := hd
      simp only [h35, h38] at HK ⊢
      clear h35 h38
      go_wp2
      refine HK.out _ _ (Below.refl _ _) ?_
      rfl
    · intro vv W K hB hd HK
      simp only [confRules] at hd HK
      obtain ⟨h39, h35⟩ := hd
      simp only [h39, h35] at HK ⊢
      clear h39 h35
      go_wp2
      refine HK.out _ _ (Below.refl _ _) ?_
      rfl
    · intro vv W K hB hd HK
      simp only [confRules] at hd HK
      have h40 := hd
      clear hd
      simp only [h40] at HK ⊢
      clear h40
      refine wpList_guard_no (by rfl) ?_
      refine HK.out _ _ (Below.refl _ _) ?_
      rfl
    · intro vv W K hB hd HK
      simp only [confRules] at hd HK
      obtain ⟨h41, h40⟩ := hd
      simp only [h41, h40] at HK ⊢
      clear h41 h40
      refine wpList_guard_no (by rfl) ?_
      refine HK.out _ _ (Below.refl _ _) ?_
      rfl
    · intro vv W K hB hd HK
      simp only [confRules] at hd HK
      obtain ⟨h42, h40⟩ := hd
      simp only [h42, h40] at HK ⊢
      clear h42 h40
      refine wpList_guard_no (by rfl) ?_
      refine HK.out _ _ (Below.refl _ _) ?_
      rfl
    · intro vv W K hB hd HK
      simp only [confRules] at hd HK
      obtain ⟨h40, h43⟩ := hd
      simp only [h40, h43] at HK ⊢
      clear h40 h43
      go_wp2
      refine HK.out _ _ (Below.refl _ _) ?_
      rfl
  case rahend =>
    intro vv W hB hf
    have e44 := hf 44 (by decide)
    simp only [endRules] at e44
    simp only [e44, dropRules]
    clear hf e44
    go_wp2
    go_ret
    exact ⟨rfl, hB0.trans (hB.mono (by omega))⟩
set_option maxRecDepth 100000 in
set_option maxHeartbeats 2000000 in
theorem bright_3 (C D : Array Value) (z m o q s d1 d2 : Int) (w : World)
    (hC : ∀ (W : World), W.heap[w.heap.size]? = some (.cells C 46 (0, 0)) → W.cell? ⟨w.heap.size, 0, none⟩ = some (.int .i64 1) ∧ W.cell? ⟨w.heap.size, 1, none⟩ = some (.int .i64 z) ∧ W.cell? ⟨w.heap.size, 2, none⟩ = some (.int .i64 m) ∧ W.cell? ⟨w.heap.size, 3, none⟩ = some (.int .i64 o) ∧ W.cell? ⟨w.heap.size, 4, none⟩ = some (.int .i64 q) ∧ W.cell? ⟨w.heap.size, 5, none⟩ = some (.int .i64 s))
    (hI : (Try.prog.info? 23).map (·.size) = some D.size)
    (h1 : ∀ W, Calls Try.prog 19 #[.agg D, .int .i64 z, .int .i64 o] W fun e w' => e = .returned (.bool true) ∧ Below W.heap.size W w')
    (h2 : ∀ W, Calls Try.prog 19 #[.agg D, .int .i64 m, .int .i64 o] W fun e w' => e = .returned (.bool true) ∧ Below W.heap.size W w')
    (hd1 : ∀ W, Calls Try.prog 76 #[.agg D, .int .i64 z] W fun e w' => e = .returned (.int .i64 d1) ∧ Below W.heap.size W w') (hd2 : ∀ W, Calls Try.prog 76 #[.agg D, .int .i64 m] W fun e w' => e = .returned (.int .i64 d1) ∧ Below W.heap.size W w') :
    Calls Try.prog 54 #[.agg C, .agg D] w fun e w' => e = .returned (.bool false) ∧ Below w.heap.size w w' := by
  obtain ⟨W0, hW0, hB0, hE, hG, hz0⟩ := bright_setup C D w
  obtain ⟨k0, -⟩ := hC _ hE
  have HW0 := Lib.hid hW0
  have HE := Lib.hid hE
  have HG := Lib.hid hG
  have HI := Lib.hid hI
  have HQ := Lib.hid (fun W hh => (hC W hh).2)
  have H1 := Lib.hid h1
  have H2 := Lib.hid h2
  have D1 := Lib.hid hd1
  have D2 := Lib.hid hd2
  clear hW0 hE hG hI hC h1 h2 hd1 hd2
  go_enter Try.func54, Try.ntmps54
  go_upto_region 1 with (fail)
  rw [HW0.out]
  go_wp2
  refine wp_region_conf2 45 [Fact.eq ?rax0, Fact.eq ?rax1, Fact.eq ?rax2, Fact.eq ?rax3, Fact.eq ?rax4, Fact.eq ?rax5, Fact.eq ?rax6, Fact.eq ?rax7, Fact.eq ?rax8, Fact.eq ?rax9, Fact.eq ?rax10, Fact.eq ?rax11, Fact.eq ?rax12, Fact.eq ?rax13, Fact.eq ?rax14, Fact.eq ?rax15, Fact.eq ?rax16, Fact.eq ?rax17, Fact.eq ?rax18, Fact.eq ?rax19, Fact.eq ?rax20, Fact.eq ?rax21, Fact.eq ?rax22, Fact.eq ?rax23, Fact.eq ?rax24, Fact.eq ?rax25, Fact.eq undef, Fact.eq undef, Fact.eq undef, Fact.eq ?rax29, Fact.eq ?rax30, Fact.eq undef, Fact.eq undef, Fact.eq undef, Fact.eq ?rax34, Fact.eq ?rax35, Fact.eq undef, Fact.eq undef, Fact.eq undef, Fact.eq ?rax39, Fact.eq ?rax40, Fact.eq undef, Fact.eq undef, Fact.eq undef, Fact.eq ?rax44] ?raA (by kernel_rfl) (by kernel_rfl) ?rahA ?raho ?rahend
  case rahA =>
    intro vv
    simp only [putRules, Nat.reduceAdd]
    rfl
  case raho =>
    refine ⟨?_, ?_, ?_, ?_, ?_, ?_, ?_, ?_, ?_, ?_, ?_, ?_, ?_, ?_, ?_, ?_, ?_, ?_, ?_, ?_, ?_, ?_, ?_, ?_, ?_, ?_, ?_, ?_, ?_, ?_, ?_, ?_, ?_, ?_, ?_, ?_, ?_, ?_, ?_, ?_, ?_, ?_, ?_, ?_, ?_, trivial⟩
    · intro vv W K hB hd HK
      simp only [confRules] at HK
      clear hd
      have hT := (hB.block (w.heap.size + 1) hz0).trans HG.out
      go_wp2_with (refine wpList_row_on (by rfl) 23 _ rfl (w.heap.size + 1) rfl 23 _ _ _ hT Try.underlying23 rfl HI.out ?_)
      refine HK.out _ _ (Below.refl _ _) ?_
      rfl
    · intro vv W K hB hd HK
      simp only [confRules] at HK
      clear hd
      go_wp2
      refine HK.out _ _ (Below.refl _ _) ?_
      rfl
    · intro vv W K hB hd HK
      simp only [confRules] at hd HK
      have h1 := hd
      clear hd
      simp only [h1] at HK ⊢
      clear h1
      have hT := (hB.block w.heap.size (by omega)).trans HE.out
      obtain ⟨k1, k2, k3, k4, k5⟩ := HQ.out _ hT
      clear hT
      go_wp2
      refine HK.out _ _ (Below.refl _ _) ?_
      rfl
    · intro vv W K hB hd HK
      simp only [confRules] at HK
      clear hd
      go_wp2
      refine HK.out _ _ (Below.refl _ _) ?_
      rfl
    · intro vv W K hB hd HK
      simp only [confRules] at hd HK
      have h3 := hd
      clear hd
      simp only [h3] at HK ⊢
      clear h3
      have hT := (hB.block w.heap.size (by omega)).trans HE.out
      obtain ⟨k1, k2, k3, k4, k5⟩ := HQ.out _ hT
      clear hT
      go_wp2
      refine HK.out _ _ (Below.refl _ _) ?_
      rfl
    · intro vv W K hB hd HK
      simp only [confRules] at hd HK
      obtain ⟨h0, h2, h4⟩ := hd
      simp only [h0, h2, h4] at HK ⊢
      clear h0 h2 h4
      go_wp2_with (refine (H1.out _).mono ?_; rintro e w9 ⟨rfl, hB9⟩)
      refine HK.out _ _ hB9 ?_
      rfl
    · intro vv W K hB hd HK
      simp only [confRules] at hd HK
      obtain ⟨h5, _⟩ := hd
      simp only [h5] at HK ⊢
      clear h5
      go_wp2
      refine HK.out _ _ (Below.refl _ _) ?_
      rfl
    · intro vv W K hB hd HK
      simp only [confRules] at hd HK
      have h6 := hd
      clear hd
      simp only [h6] at HK ⊢
      clear h6
      refine wpList_guard_yes (by rfl) ?_
      have hT := (hB.block (w.heap.size + 1) hz0).trans HG.out
      go_wp2_with (refine wpList_row_on (by rfl) 23 _ rfl (w.heap.size + 1) rfl 23 _ _ _ hT Try.underlying23 rfl HI.out ?_)
      refine HK.out _ _ (Below.refl _ _) ?_
      rfl
    · intro vv W K hB hd HK
      simp only [confRules] at hd HK
      have h6 := hd
      clear hd
      simp only [h6] at HK ⊢
      clear h6
      refine wpList_guard_yes (by rfl) ?_
      go_wp2
      refine HK.out _ _ (Below.refl _ _) ?_
      rfl
    · intro vv W K hB hd HK
      simp only [confRules] at hd HK
      obtain ⟨h8, h6⟩ := hd
      simp only [h8, h6] at HK ⊢
      clear h8 h6
      refine wpList_guard_yes (by rfl) ?_
      have hT := (hB.block w.heap.size (by omega)).trans HE.out
      obtain ⟨k1, k2, k3, k4, k5⟩ := HQ.out _ hT
      clear hT
      go_wp2
      refine HK.out _ _ (Below.refl _ _) ?_
      rfl
    · intro vv W K hB hd HK
      simp only [confRules] at hd HK
      have h6 := hd
      clear hd
      simp only [h6] at HK ⊢
      clear h6
      refine wpList_guard_yes (by rfl) ?_
      go_wp2
      refine HK.out _ _ (Below.refl _ _) ?_
      rfl
    · intro vv W K hB hd HK
      simp only [confRules] at hd HK
      obtain ⟨h10, h6⟩ := hd
      simp only [h10, h6] at HK ⊢
      clear h10 h6
      refine wpList_guard_yes (by rfl) ?_
      have hT := (hB.block w.heap.size (by omega)).trans HE.out
      obtain ⟨k1, k2, k3, k4, k5⟩ := HQ.out _ hT
      clear hT
      go_wp2
      refine HK.out _ _ (Below.refl _ _) ?_
      rfl
    · intro vv W K hB hd HK
      simp only [confRules] at hd HK
      obtain ⟨h7, h9, h11, h6, _⟩ := hd
      simp only [h7, h9, h11, h6] at HK ⊢
      clear h7 h9 h11 h6
      refine wpList_guard_yes (by rfl) ?_
      go_wp2_with (refine (H2.out _).mono ?_; rintro e w9 ⟨rfl, hB9⟩)
      refine HK.out _ _ hB9 ?_
      rfl
    · intro vv W K hB hd HK
      simp only [confRules] at hd HK
      obtain ⟨h6, h12⟩ := hd
      simp only [h6, h12] at HK ⊢
      clear h6 h12
      go_wp2
      refine HK.out _ _ (Below.refl _ _) ?_
      rfl
    · intro vv W K hB hd HK
      simp only [confRules] at hd HK
      obtain ⟨h13, h12⟩ := hd
      simp only [h13, h12] at HK ⊢
      clear h13 h12
      go_wp2
      refine HK.out _ _ (Below.refl _ _) ?_
      rfl
    · intro vv W K hB hd HK
      simp only [confRules] at hd HK
      have h14 := hd
      clear hd
      simp only [h14] at HK ⊢
      clear h14
      refine wpList_guard_yes (by rfl) ?_
      have hT := (hB.block (w.heap.size + 1) hz0).trans HG.out
      go_wp2_with (refine wpList_row_on (by rfl) 23 _ rfl (w.heap.size + 1) rfl 23 _ _ _ hT Try.underlying23 rfl HI.out ?_)
      refine HK.out _ _ (Below.refl _ _) ?_
      rfl
    · intro vv W K hB hd HK
      simp only [confRules] at hd HK
      have h14 := hd
      clear hd
      simp only [h14] at HK ⊢
      clear h14
      refine wpList_guard_yes (by rfl) ?_
      go_wp2
      refine HK.out _ _ (Below.refl _ _) ?_
      rfl
    · intro vv W K hB hd HK
      simp only [confRules] at hd HK
      obtain ⟨h16, h14⟩ := hd
      simp only [h16, h14] at HK ⊢
      clear h16 h14
      refine wpList_guard_yes (by rfl) ?_
      have hT := (hB.block w.heap.size (by omega)).trans HE.out
      obtain ⟨k1, k2, k3, k4, k5⟩ := HQ.out _ hT
      clear hT
      go_wp2
      refine HK.out _ _ (Below.refl _ _) ?_
      rfl
    · intro vv W K hB hd HK
      simp only [confRules] at hd HK
      obtain ⟨h15, h17, h14, _⟩ := hd
      simp only [h15, h17, h14] at HK ⊢
      clear h15 h17 h14
      refine wpList_guard_yes (by rfl) ?_
      go_wp2_with (refine (D1.out _).mono ?_; rintro e w9 ⟨rfl, hB9⟩)
      refine HK.out _ _ hB9 ?_
      rfl
    · intro vv W K hB hd HK
      simp only [confRules] at hd HK
      have h14 := hd
      clear hd
      simp only [h14] at HK ⊢
      clear h14
      refine wpList_guard_yes (by rfl) ?_
      have hT := (hB.block (w.heap.size + 1) hz0).trans HG.out
      go_wp2_with (refine wpList_row_on (by rfl) 23 _ rfl (w.heap.size + 1) rfl 23 _ _ _ hT Try.underlying23 rfl HI.out ?_)
      refine HK.out _ _ (Below.refl _ _) ?_
      rfl
    · intro vv W K hB hd HK
      simp only [confRules] at hd HK
      have h14 := hd
      clear hd
      simp only [h14] at HK ⊢
      clear h14
      refine wpList_guard_yes (by rfl) ?_
      go_wp2
      refine HK.out _ _ (Below.refl _ _) ?_
      rfl
    · intro vv W K hB hd HK
      simp only [confRules] at hd HK
      obtain ⟨h20, h14⟩ := hd
      simp only [h20, h14] at HK ⊢
      clear h20 h14
      refine wpList_guard_yes (by rfl) ?_
      have hT := (hB.block w.heap.size (by omega)).trans HE.out
      obtain ⟨k1, k2, k3, k4, k5⟩ := HQ.out _ hT
      clear hT
      go_wp2
      refine HK.out _ _ (Below.refl _ _) ?_
      rfl
    · intro vv W K hB hd HK
      simp only [confRules] at hd HK
      obtain ⟨h19, h21, h18, h14⟩ := hd
      simp only [h19, h21, h18, h14] at HK ⊢
      clear h19 h21 h18 h14
      refine wpList_guard_yes (by rfl) ?_
      go_wp2_with (refine (D2.out _).mono ?_; rintro e w9 ⟨rfl, hB9⟩)
      refine HK.out _ _ hB9 ?_
      rfl
    · intro vv W K hB hd HK
      simp only [confRules] at hd HK
      obtain ⟨h18, h22, h14⟩ := hd
      simp only [h18, h22, h14] at HK ⊢
      clear h18 h22 h14
      refine wpList_guard_yes (by rfl) ?_
      go_wp2
      refine HK.out _ _ (Below.refl _ _) ?_
      rfl
    · intro vv W K hB hd HK
      simp only [confRules] at hd HK
      obtain ⟨h14, h23⟩ := hd
      simp only [h14, h23] at HK ⊢
      clear h14 h23
      go_wp2
      refine HK.out _ _ (Below.refl _ _) ?_
      rfl
    · intro vv W K hB hd HK
      simp only [confRules] at hd HK
      obtain ⟨h24, h22⟩ := hd
      simp only [h24, h22] at HK ⊢
      clear h24 h22
      go_wp2
      refine HK.out _ _ (Below.refl _ _) ?_
      rfl
    · intro vv W K hB hd HK
      simp only [confRules] at hd HK
      have h25 := hd
      clear hd
      simp only [h25] at HK ⊢
      clear h25
      refine wpList_guard_no (by rfl) ?_
      refine HK.out _ _ (Below.refl _ _) ?_
      rfl
    · intro vv W K hB hd HK
      simp only [confRules] at hd HK
      obtain ⟨h26, h25⟩ := hd
      simp only [h26, h25] at HK ⊢
      clear h26 h25
      refine wpList_guard_no (by rfl) ?_
      refine HK.out _ _ (Below.refl _ _) ?_
      rfl
    · intro vv W K hB hd HK
      simp only [confRules] at hd HK
      obtain ⟨h27, h25⟩ := hd
      simp only [h27, h25] at HK ⊢
      clear h27 h25
      refine wpList_guard_no (by rfl) ?_
      refine HK.out _ _ (Below.refl _ _) ?_
      rfl
    · intro vv W K hB hd HK
      simp only [confRules] at hd HK
      obtain ⟨h25, h28⟩ := hd
      simp only [h25, h28] at HK ⊢
      clear h25 h28
      go_wp2
      refine HK.out _ _ (Below.refl _ _) ?_
      rfl
    · intro vv W K hB hd HK
      simp only [confRules] at hd HK
      obtain ⟨h29, h25⟩ := hd
      simp only [h29, h25] at HK ⊢
      clear h29 h25
      go_wp2
      refine HK.out _ _ (Below.refl _ _) ?_
      rfl
    · intro vv W K hB hd HK
      simp only [confRules] at hd HK
      have h30 := hd
      clear hd
      simp only [h30] at HK ⊢
      clear h30
      refine wpList_guard_no (by rfl) ?_
      refine HK.out _ _ (Below.refl _ _) ?_
      rfl
    · intro vv W K hB hd HK
      simp only [confRules] at hd HK
      obtain ⟨h31, h30⟩ := hd
      simp only [h31, h30] at HK ⊢
      clear h31 h30
      refine wpList_guard_no (by rfl) ?_
      refine HK.out _ _ (Below.refl _ _) ?_
      rfl
    · intro vv W K hB hd HK
      simp only [confRules] at hd HK
      obtain ⟨h32, h30⟩ := hd
      simp only [h32, h30] at HK ⊢
      clear h32 h30
      refine wpList_guard_no (by rfl) ?_
      refine HK.out _ _ (Below.refl _ _) ?_
      rfl
    · intro vv W K hB hd HK
      simp only [confRules] at hd HK
      obtain ⟨h30, h33⟩ := hd
      simp only [h30, h33] at HK ⊢
      clear h30 h33
      go_wp2
      refine HK.out _ _ (Below.refl _ _) ?_
      rfl
    · intro vv W K hB hd HK
      simp only [confRules] at hd HK
      obtain ⟨h34, h30⟩ := hd
      simp only [h34, h30] at HK ⊢
      clear h34 h30
      go_wp2
      refine HK.out _ _ (Below.refl _ _) ?_
      rfl
    · intro vv W K hB hd HK
      simp only [confRules] at hd HK
      have h35 := hd
      clear hd
      simp only [h35] at HK ⊢
      clear h35
      refine wpList_guard_no (by rfl) ?_
      refine HK.out _ _ (Below.refl _ _) ?_
      rfl
    · intro vv W K hB hd HK
      simp only [confRules] at hd HK
      obtain ⟨h36, h35⟩ := hd
      simp only [h36, h35] at HK ⊢
      clear h36 h35
      refine wpList_guard_no (by rfl) ?_
      refine HK.out _ _ (Below.refl _ _) ?_
      rfl
    · intro vv W K hB hd HK
      simp only [confRules] at hd HK
      obtain ⟨h37, h35⟩ := hd
      simp only [h37, h35] at HK ⊢
      clear h37 h35
      refine wpList_guard_no (by rfl) ?_
      refine HK.out _ _ (Below.refl _ _) ?_
      rfl
    · intro vv W K hB hd HK
      simp only [confRules] at hd HK
      obtain ⟨h35, h38⟩ := hd
      simp only [h35, h38] at HK ⊢
      clear h35 h38
      go_wp2
      refine HK.out _ _ (Below.refl _ _) ?_
      rfl
    · intro vv W K hB hd HK
      simp only [confRules] at hd HK
      obtain ⟨h39, h35⟩ := hd
      simp only [h39, h35] at HK ⊢
      clear h39 h35
      go_wp2
      refine HK.out _ _ (Below.refl _ _) ?_
      rfl
    · intro vv W K hB hd HK
      simp only [confRules] at hd HK
      have h40 := hd
      clear hd
      simp only [h40] at HK ⊢
      clear h40
      refine wpList_guard_no (by rfl) ?_
      refine HK.out _ _ (Below.refl _ _) ?_
      rfl
    · intro vv W K hB hd HK
      simp only [confRules] at hd HK
      obtain ⟨h41, h40⟩ := hd
      simp only [h41, h40] at HK ⊢
      clear h41 h40
      refine wpList_guard_no (by rfl) ?_
      refine HK.out _ _ (Below.refl _ _) ?_
      rfl
    · intro vv W K hB hd HK
      simp only [confRules] at hd HK
      obtain ⟨h42, h40⟩ := hd
      simp only [h42, h40] at HK ⊢
      clear h42 h40
      refine wpList_guard_no (by rfl) ?_
      refine HK.out _ _ (Below.refl _ _) ?_
      rfl
    · intro vv W K hB hd HK
      simp only [confRules] at hd HK
      obtain ⟨h40, h43⟩ := hd
      simp only [h40, h43] at HK ⊢
      clear h40 h43
      go_wp2
      refine HK.out _ _ (Below.refl _ _) ?_
      rfl
  case rahend =>
    intro vv W hB hf
    have e44 := hf 44 (by decide)
    simp only [endRules] at e44
    simp only [e44, dropRules]
    clear hf e44
    go_wp2
    go_ret
    exact ⟨rfl, hB0.trans (hB.mono (by omega))⟩
set_option maxRecDepth 100000 in
set_option maxHeartbeats 2000000 in
theorem bright_4 (C D : Array Value) (z m o q s d1 d2 : Int) (w : World)
    (hC : ∀ (W : World), W.heap[w.heap.size]? = some (.cells C 46 (0, 0)) → W.cell? ⟨w.heap.size, 0, none⟩ = some (.int .i64 1) ∧ W.cell? ⟨w.heap.size, 1, none⟩ = some (.int .i64 z) ∧ W.cell? ⟨w.heap.size, 2, none⟩ = some (.int .i64 m) ∧ W.cell? ⟨w.heap.size, 3, none⟩ = some (.int .i64 o) ∧ W.cell? ⟨w.heap.size, 4, none⟩ = some (.int .i64 q) ∧ W.cell? ⟨w.heap.size, 5, none⟩ = some (.int .i64 s))
    (hI : (Try.prog.info? 23).map (·.size) = some D.size)
    (h1 : ∀ W, Calls Try.prog 19 #[.agg D, .int .i64 z, .int .i64 o] W fun e w' => e = .returned (.bool true) ∧ Below W.heap.size W w')
    (h2 : ∀ W, Calls Try.prog 19 #[.agg D, .int .i64 m, .int .i64 o] W fun e w' => e = .returned (.bool true) ∧ Below W.heap.size W w')
    (hd1 : ∀ W, Calls Try.prog 76 #[.agg D, .int .i64 z] W fun e w' => e = .returned (.int .i64 d1) ∧ Below W.heap.size W w') (hd2 : ∀ W, Calls Try.prog 76 #[.agg D, .int .i64 m] W fun e w' => e = .returned (.int .i64 d2) ∧ Below W.heap.size W w') (t3 : (d1 == d2) = false)
    (t4 : decide (1 ≤ q) = false) :
    Calls Try.prog 54 #[.agg C, .agg D] w fun e w' => e = .returned (.bool false) ∧ Below w.heap.size w w' := by
  obtain ⟨W0, hW0, hB0, hE, hG, hz0⟩ := bright_setup C D w
  obtain ⟨k0, -⟩ := hC _ hE
  have HW0 := Lib.hid hW0
  have HE := Lib.hid hE
  have HG := Lib.hid hG
  have HI := Lib.hid hI
  have HQ := Lib.hid (fun W hh => (hC W hh).2)
  have H1 := Lib.hid h1
  have H2 := Lib.hid h2
  have D1 := Lib.hid hd1
  have D2 := Lib.hid hd2
  have T3 := Lib.hid t3
  have T4 := Lib.hid t4
  clear hW0 hE hG hI hC h1 h2 hd1 hd2 t3 t4
  go_enter Try.func54, Try.ntmps54
  go_upto_region 1 with (fail)
  rw [HW0.out]
  go_wp2
  refine wp_region_conf2 45 [Fact.eq ?rax0, Fact.eq ?rax1, Fact.eq ?rax2, Fact.eq ?rax3, Fact.eq ?rax4, Fact.eq ?rax5, Fact.eq ?rax6, Fact.eq ?rax7, Fact.eq ?rax8, Fact.eq ?rax9, Fact.eq ?rax10, Fact.eq ?rax11, Fact.eq ?rax12, Fact.eq ?rax13, Fact.eq ?rax14, Fact.eq ?rax15, Fact.eq ?rax16, Fact.eq ?rax17, Fact.eq ?rax18, Fact.eq ?rax19, Fact.eq ?rax20, Fact.eq ?rax21, Fact.eq ?rax22, Fact.eq (.bool true), Fact.eq ?rax24, Fact.eq ?rax25, Fact.eq ?rax26, Fact.eq ?rax27, Fact.eq (.bool false), Fact.eq ?rax29, Fact.eq ?rax30, Fact.eq undef, Fact.eq undef, Fact.eq undef, Fact.eq ?rax34, Fact.eq ?rax35, Fact.eq undef, Fact.eq undef, Fact.eq undef, Fact.eq ?rax39, Fact.eq ?rax40, Fact.eq undef, Fact.eq undef, Fact.eq undef, Fact.eq ?rax44] ?raA (by kernel_rfl) (by kernel_rfl) ?rahA ?raho ?rahend
  case rahA =>
    intro vv
    simp only [putRules, Nat.reduceAdd]
    rfl
  case raho =>
    refine ⟨?_, ?_, ?_, ?_, ?_, ?_, ?_, ?_, ?_, ?_, ?_, ?_, ?_, ?_, ?_, ?_, ?_, ?_, ?_, ?_, ?_, ?_, ?_, ?_, ?_, ?_, ?_, ?_, ?_, ?_, ?_, ?_, ?_, ?_, ?_, ?_, ?_, ?_, ?_, ?_, ?_, ?_, ?_, ?_, ?_, trivial⟩
    · intro vv W K hB hd HK
      simp only [confRules] at HK
      clear hd
      have hT := (hB.block (w.heap.size + 1) hz0).trans HG.out
      go_wp2_with (refine wpList_row_on (by rfl) 23 _ rfl (w.heap.size + 1) rfl 23 _ _ _ hT Try.underlying23 rfl HI.out ?_)
      refine HK.out _ _ (Below.refl _ _) ?_
      rfl
    · intro vv W K hB hd HK
      simp only [confRules] at HK
      clear hd
      go_wp2
      refine HK.out _ _ (Below.refl _ _) ?_
      rfl
    · intro vv W K hB hd HK
      simp only [confRules] at hd HK
      have h1 := hd
      clear hd
      simp only [h1] at HK ⊢
      clear h1
      have hT := (hB.block w.heap.size (by omega)).trans HE.out
      obtain ⟨k1, k2, k3, k4, k5⟩ := HQ.out _ hT
      clear hT
      go_wp2
      refine HK.out _ _ (Below.refl _ _) ?_
      rfl
    · intro vv W K hB hd HK
      simp only [confRules] at HK
      clear hd
      go_wp2
      refine HK.out _ _ (Below.refl _ _) ?_
      rfl
    · intro vv W K hB hd HK
      simp only [confRules] at hd HK
      have h3 := hd
      clear hd
      simp only [h3] at HK ⊢
      clear h3
      have hT := (hB.block w.heap.size (by omega)).trans HE.out
      obtain ⟨k1, k2, k3, k4, k5⟩ := HQ.out _ hT
      clear hT
      go_wp2
      refine HK.out _ _ (Below.refl _ _) ?_
      rfl
    · intro vv W K hB hd HK
      simp only [confRules] at hd HK
      obtain ⟨h0, h2, h4⟩ := hd
      simp only [h0, h2, h4] at HK ⊢
      clear h0 h2 h4
      go_wp2_with (refine (H1.out _).mono ?_; rintro e w9 ⟨rfl, hB9⟩)
      refine HK.out _ _ hB9 ?_
      rfl
    · intro vv W K hB hd HK
      simp only [confRules] at hd HK
      obtain ⟨h5, _⟩ := hd
      simp only [h5] at HK ⊢
      clear h5
      go_wp2
      refine HK.out _ _ (Below.refl _ _) ?_
      rfl
    · intro vv W K hB hd HK
      simp only [confRules] at hd HK
      have h6 := hd
      clear hd
      simp only [h6] at HK ⊢
      clear h6
      refine wpList_guard_yes (by rfl) ?_
      have hT := (hB.block (w.heap.size + 1) hz0).trans HG.out
      go_wp2_with (refine wpList_row_on (by rfl) 23 _ rfl (w.heap.size + 1) rfl 23 _ _ _ hT Try.underlying23 rfl HI.out ?_)
      refine HK.out _ _ (Below.refl _ _) ?_
      rfl
    · intro vv W K hB hd HK
      simp only [confRules] at hd HK
      have h6 := hd
      clear hd
      simp only [h6] at HK ⊢
      clear h6
      refine wpList_guard_yes (by rfl) ?_
      go_wp2
      refine HK.out _ _ (Below.refl _ _) ?_
      rfl
    · intro vv W K hB hd HK
      simp only [confRules] at hd HK
      obtain ⟨h8, h6⟩ := hd
      simp only [h8, h6] at HK ⊢
      clear h8 h6
      refine wpList_guard_yes (by rfl) ?_
      have hT := (hB.block w.heap.size (by omega)).trans HE.out
      obtain ⟨k1, k2, k3, k4, k5⟩ := HQ.out _ hT
      clear hT
      go_wp2
      refine HK.out _ _ (Below.refl _ _) ?_
      rfl
    · intro vv W K hB hd HK
      simp only [confRules] at hd HK
      have h6 := hd
      clear hd
      simp only [h6] at HK ⊢
      clear h6
      refine wpList_guard_yes (by rfl) ?_
      go_wp2
      refine HK.out _ _ (Below.refl _ _) ?_
      rfl
    · intro vv W K hB hd HK
      simp only [confRules] at hd HK
      obtain ⟨h10, h6⟩ := hd
      simp only [h10, h6] at HK ⊢
      clear h10 h6
      refine wpList_guard_yes (by rfl) ?_
      have hT := (hB.block w.heap.size (by omega)).trans HE.out
      obtain ⟨k1, k2, k3, k4, k5⟩ := HQ.out _ hT
      clear hT
      go_wp2
      refine HK.out _ _ (Below.refl _ _) ?_
      rfl
    · intro vv W K hB hd HK
      simp only [confRules] at hd HK
      obtain ⟨h7, h9, h11, h6, _⟩ := hd
      simp only [h7, h9, h11, h6] at HK ⊢
      clear h7 h9 h11 h6
      refine wpList_guard_yes (by rfl) ?_
      go_wp2_with (refine (H2.out _).mono ?_; rintro e w9 ⟨rfl, hB9⟩)
      refine HK.out _ _ hB9 ?_
      rfl
    · intro vv W K hB hd HK
      simp only [confRules] at hd HK
      obtain ⟨h6, h12⟩ := hd
      simp only [h6, h12] at HK ⊢
      clear h6 h12
      go_wp2
      refine HK.out _ _ (Below.refl _ _) ?_
      rfl
    · intro vv W K hB hd HK
      simp only [confRules] at hd HK
      obtain ⟨h13, h12⟩ := hd
      simp only [h13, h12] at HK ⊢
      clear h13 h12
      go_wp2
      refine HK.out _ _ (Below.refl _ _) ?_
      rfl
    · intro vv W K hB hd HK
      simp only [confRules] at hd HK
      have h14 := hd
      clear hd
      simp only [h14] at HK ⊢
      clear h14
      refine wpList_guard_yes (by rfl) ?_
      have hT := (hB.block (w.heap.size + 1) hz0).trans HG.out
      go_wp2_with (refine wpList_row_on (by rfl) 23 _ rfl (w.heap.size + 1) rfl 23 _ _ _ hT Try.underlying23 rfl HI.out ?_)
      refine HK.out _ _ (Below.refl _ _) ?_
      rfl
    · intro vv W K hB hd HK
      simp only [confRules] at hd HK
      have h14 := hd
      clear hd
      simp only [h14] at HK ⊢
      clear h14
      refine wpList_guard_yes (by rfl) ?_
      go_wp2
      refine HK.out _ _ (Below.refl _ _) ?_
      rfl
    · intro vv W K hB hd HK
      simp only [confRules] at hd HK
      obtain ⟨h16, h14⟩ := hd
      simp only [h16, h14] at HK ⊢
      clear h16 h14
      refine wpList_guard_yes (by rfl) ?_
      have hT := (hB.block w.heap.size (by omega)).trans HE.out
      obtain ⟨k1, k2, k3, k4, k5⟩ := HQ.out _ hT
      clear hT
      go_wp2
      refine HK.out _ _ (Below.refl _ _) ?_
      rfl
    · intro vv W K hB hd HK
      simp only [confRules] at hd HK
      obtain ⟨h15, h17, h14, _⟩ := hd
      simp only [h15, h17, h14] at HK ⊢
      clear h15 h17 h14
      refine wpList_guard_yes (by rfl) ?_
      go_wp2_with (refine (D1.out _).mono ?_; rintro e w9 ⟨rfl, hB9⟩)
      refine HK.out _ _ hB9 ?_
      rfl
    · intro vv W K hB hd HK
      simp only [confRules] at hd HK
      have h14 := hd
      clear hd
      simp only [h14] at HK ⊢
      clear h14
      refine wpList_guard_yes (by rfl) ?_
      have hT := (hB.block (w.heap.size + 1) hz0).trans HG.out
      go_wp2_with (refine wpList_row_on (by rfl) 23 _ rfl (w.heap.size + 1) rfl 23 _ _ _ hT Try.underlying23 rfl HI.out ?_)
      refine HK.out _ _ (Below.refl _ _) ?_
      rfl
    · intro vv W K hB hd HK
      simp only [confRules] at hd HK
      have h14 := hd
      clear hd
      simp only [h14] at HK ⊢
      clear h14
      refine wpList_guard_yes (by rfl) ?_
      go_wp2
      refine HK.out _ _ (Below.refl _ _) ?_
      rfl
    · intro vv W K hB hd HK
      simp only [confRules] at hd HK
      obtain ⟨h20, h14⟩ := hd
      simp only [h20, h14] at HK ⊢
      clear h20 h14
      refine wpList_guard_yes (by rfl) ?_
      have hT := (hB.block w.heap.size (by omega)).trans HE.out
      obtain ⟨k1, k2, k3, k4, k5⟩ := HQ.out _ hT
      clear hT
      go_wp2
      refine HK.out _ _ (Below.refl _ _) ?_
      rfl
    · intro vv W K hB hd HK
      simp only [confRules] at hd HK
      obtain ⟨h19, h21, h18, h14⟩ := hd
      simp only [h19, h21, h18, h14] at HK ⊢
      clear h19 h21 h18 h14
      refine wpList_guard_yes (by rfl) ?_
      go_wp2_with (refine (D2.out _).mono ?_; rintro e w9 ⟨rfl, hB9⟩)
      refine HK.out _ _ hB9 ?_
      rfl
    · intro vv W K hB hd HK
      simp only [confRules] at hd HK
      obtain ⟨h18, h22, h14⟩ := hd
      simp only [h18, h22, h14] at HK ⊢
      clear h18 h22 h14
      refine wpList_guard_yes (by rfl) ?_
      have t := T3.out
      go_wp2
      refine HK.out _ _ (Below.refl _ _) ?_
      first | rfl | exact congrArg Value.bool t | exact congrArg Value.bool (show (!_) = _ by rw [t]; rfl)
    · intro vv W K hB hd HK
      simp only [confRules] at hd HK
      obtain ⟨h14, h23⟩ := hd
      simp only [h14, h23] at HK ⊢
      clear h14 h23
      go_wp2
      refine HK.out _ _ (Below.refl _ _) ?_
      rfl
    · intro vv W K hB hd HK
      simp only [confRules] at hd HK
      obtain ⟨h24, h22⟩ := hd
      simp only [h24, h22] at HK ⊢
      clear h24 h22
      go_wp2
      refine HK.out _ _ (Below.refl _ _) ?_
      rfl
    · intro vv W K hB hd HK
      simp only [confRules] at hd HK
      have h25 := hd
      clear hd
      simp only [h25] at HK ⊢
      clear h25
      refine wpList_guard_yes (by rfl) ?_
      go_wp2
      refine HK.out _ _ (Below.refl _ _) ?_
      rfl
    · intro vv W K hB hd HK
      simp only [confRules] at hd HK
      obtain ⟨h26, h25⟩ := hd
      simp only [h26, h25] at HK ⊢
      clear h26 h25
      refine wpList_guard_yes (by rfl) ?_
      have hT := (hB.block w.heap.size (by omega)).trans HE.out
      obtain ⟨k1, k2, k3, k4, k5⟩ := HQ.out _ hT
      clear hT
      go_wp2
      refine HK.out _ _ (Below.refl _ _) ?_
      rfl
    · intro vv W K hB hd HK
      simp only [confRules] at hd HK
      obtain ⟨h27, h25⟩ := hd
      simp only [h27, h25] at HK ⊢
      clear h27 h25
      refine wpList_guard_yes (by rfl) ?_
      have t := T4.out
      go_wp2
      refine HK.out _ _ (Below.refl _ _) ?_
      first | rfl | exact congrArg Value.bool t | exact congrArg Value.bool (show (!_) = _ by rw [t]; rfl)
    · intro vv W K hB hd HK
      simp only [confRules] at hd HK
      obtain ⟨h25, h28⟩ := hd
      simp only [h25, h28] at HK ⊢
      clear h25 h28
      go_wp2
      refine HK.out _ _ (Below.refl _ _) ?_
      rfl
    · intro vv W K hB hd HK
      simp only [confRules] at hd HK
      obtain ⟨h29, h25⟩ := hd
      simp only [h29, h25] at HK ⊢
      clear h29 h25
      go_wp2
      refine HK.out _ _ (Below.refl _ _) ?_
      rfl
    · intro vv W K hB hd HK
      simp only [confRules] at hd HK
      have h30 := hd
      clear hd
      simp only [h30] at HK ⊢
      clear h30
      refine wpList_guard_no (by rfl) ?_
      refine HK.out _ _ (Below.refl _ _) ?_
      rfl
    · intro vv W K hB hd HK
      simp only [confRules] at hd HK
      obtain ⟨h31, h30⟩ := hd
      simp only [h31, h30] at HK ⊢
      clear h31 h30
      refine wpList_guard_no (by rfl) ?_
      refine HK.out _ _ (Below.refl _ _) ?_
      rfl
    · intro vv W K hB hd HK
      simp only [confRules] at hd HK
      obtain ⟨h32, h30⟩ := hd
      simp only [h32, h30] at HK ⊢
      clear h32 h30
      refine wpList_guard_no (by rfl) ?_
      refine HK.out _ _ (Below.refl _ _) ?_
      rfl
    · intro vv W K hB hd HK
      simp only [confRules] at hd HK
      obtain ⟨h30, h33⟩ := hd
      simp only [h30, h33] at HK ⊢
      clear h30 h33
      go_wp2
      refine HK.out _ _ (Below.refl _ _) ?_
      rfl
    · intro vv W K hB hd HK
      simp only [confRules] at hd HK
      obtain ⟨h34, h30⟩ := hd
      simp only [h34, h30] at HK ⊢
      clear h34 h30
      go_wp2
      refine HK.out _ _ (Below.refl _ _) ?_
      rfl
    · intro vv W K hB hd HK
      simp only [confRules] at hd HK
      have h35 := hd
      clear hd
      simp only [h35] at HK ⊢
      clear h35
      refine wpList_guard_no (by rfl) ?_
      refine HK.out _ _ (Below.refl _ _) ?_
      rfl
    · intro vv W K hB hd HK
      simp only [confRules] at hd HK
      obtain ⟨h36, h35⟩ := hd
      simp only [h36, h35] at HK ⊢
      clear h36 h35
      refine wpList_guard_no (by rfl) ?_
      refine HK.out _ _ (Below.refl _ _) ?_
      rfl
    · intro vv W K hB hd HK
      simp only [confRules] at hd HK
      obtain ⟨h37, h35⟩ := hd
      simp only [h37, h35] at HK ⊢
      clear h37 h35
      refine wpList_guard_no (by rfl) ?_
      refine HK.out _ _ (Below.refl _ _) ?_
      rfl
    · intro vv W K hB hd HK
      simp only [confRules] at hd HK
      obtain ⟨h35, h38⟩ := hd
      simp only [h35, h38] at HK ⊢
      clear h35 h38
      go_wp2
      refine HK.out _ _ (Below.refl _ _) ?_
      rfl
    · intro vv W K hB hd HK
      simp only [confRules] at hd HK
      obtain ⟨h39, h35⟩ := hd
      simp only [h39, h35] at HK ⊢
      clear h39 h35
      go_wp2
      refine HK.out _ _ (Below.refl _ _) ?_
      rfl
    · intro vv W K hB hd HK
      simp only [confRules] at hd HK
      have h40 := hd
      clear hd
      simp only [h40] at HK ⊢
      clear h40
      refine wpList_guard_no (by rfl) ?_
      refine HK.out _ _ (Below.refl _ _) ?_
      rfl
    · intro vv W K hB hd HK
      simp only [confRules] at hd HK
      obtain ⟨h41, h40⟩ := hd
      simp only [h41, h40] at HK ⊢
      clear h41 h40
      refine wpList_guard_no (by rfl) ?_
      refine HK.out _ _ (Below.refl _ _) ?_
      rfl
    · intro vv W K hB hd HK
      simp only [confRules] at hd HK
      obtain ⟨h42, h40⟩ := hd
      simp only [h42, h40] at HK ⊢
      clear h42 h40
      refine wpList_guard_no (by rfl) ?_
      refine HK.out _ _ (Below.refl _ _) ?_
      rfl
    · intro vv W K hB hd HK
      simp only [confRules] at hd HK
      obtain ⟨h40, h43⟩ := hd
      simp only [h40, h43] at HK ⊢
      clear h40 h43
      go_wp2
      refine HK.out _ _ (Below.refl _ _) ?_
      rfl
  case rahend =>
    intro vv W hB hf
    have e44 := hf 44 (by decide)
    simp only [endRules] at e44
    simp only [e44, dropRules]
    clear hf e44
    go_wp2
    go_ret
    exact ⟨rfl, hB0.trans (hB.mono (by omega))⟩
set_option maxRecDepth 100000 in
set_option maxHeartbeats 2000000 in
theorem bright_5 (C D : Array Value) (z m o q s d1 d2 : Int) (w : World)
    (hC : ∀ (W : World), W.heap[w.heap.size]? = some (.cells C 46 (0, 0)) → W.cell? ⟨w.heap.size, 0, none⟩ = some (.int .i64 1) ∧ W.cell? ⟨w.heap.size, 1, none⟩ = some (.int .i64 z) ∧ W.cell? ⟨w.heap.size, 2, none⟩ = some (.int .i64 m) ∧ W.cell? ⟨w.heap.size, 3, none⟩ = some (.int .i64 o) ∧ W.cell? ⟨w.heap.size, 4, none⟩ = some (.int .i64 q) ∧ W.cell? ⟨w.heap.size, 5, none⟩ = some (.int .i64 s))
    (hI : (Try.prog.info? 23).map (·.size) = some D.size)
    (h1 : ∀ W, Calls Try.prog 19 #[.agg D, .int .i64 z, .int .i64 o] W fun e w' => e = .returned (.bool true) ∧ Below W.heap.size W w')
    (h2 : ∀ W, Calls Try.prog 19 #[.agg D, .int .i64 m, .int .i64 o] W fun e w' => e = .returned (.bool true) ∧ Below W.heap.size W w')
    (hd1 : ∀ W, Calls Try.prog 76 #[.agg D, .int .i64 z] W fun e w' => e = .returned (.int .i64 d1) ∧ Below W.heap.size W w') (hd2 : ∀ W, Calls Try.prog 76 #[.agg D, .int .i64 m] W fun e w' => e = .returned (.int .i64 d2) ∧ Below W.heap.size W w') (t3 : (d1 == d2) = false)
    (t4 : decide (1 ≤ q) = true)
    (t5 : decide (q ≤ 281474976710655) = false) :
    Calls Try.prog 54 #[.agg C, .agg D] w fun e w' => e = .returned (.bool false) ∧ Below w.heap.size w w' := by
  obtain ⟨W0, hW0, hB0, hE, hG, hz0⟩ := bright_setup C D w
  obtain ⟨k0, -⟩ := hC _ hE
  have HW0 := Lib.hid hW0
  have HE := Lib.hid hE
  have HG := Lib.hid hG
  have HI := Lib.hid hI
  have HQ := Lib.hid (fun W hh => (hC W hh).2)
  have H1 := Lib.hid h1
  have H2 := Lib.hid h2
  have D1 := Lib.hid hd1
  have D2 := Lib.hid hd2
  have T3 := Lib.hid t3
  have T4 := Lib.hid t4
  have T5 := Lib.hid t5
  clear hW0 hE hG hI hC h1 h2 hd1 hd2 t3 t4 t5
  go_enter Try.func54, Try.ntmps54
  go_upto_region 1 with (fail)
  rw [HW0.out]
  go_wp2
  refine wp_region_conf2 45 [Fact.eq ?rax0, Fact.eq ?rax1, Fact.eq ?rax2, Fact.eq ?rax3, Fact.eq ?rax4, Fact.eq ?rax5, Fact.eq ?rax6, Fact.eq ?rax7, Fact.eq ?rax8, Fact.eq ?rax9, Fact.eq ?rax10, Fact.eq ?rax11, Fact.eq ?rax12, Fact.eq ?rax13, Fact.eq ?rax14, Fact.eq ?rax15, Fact.eq ?rax16, Fact.eq ?rax17, Fact.eq ?rax18, Fact.eq ?rax19, Fact.eq ?rax20, Fact.eq ?rax21, Fact.eq ?rax22, Fact.eq (.bool true), Fact.eq ?rax24, Fact.eq ?rax25, Fact.eq ?rax26, Fact.eq ?rax27, Fact.eq (.bool true), Fact.eq ?rax29, Fact.eq ?rax30, Fact.eq ?rax31, Fact.eq ?rax32, Fact.eq (.bool false), Fact.eq ?rax34, Fact.eq ?rax35, Fact.eq undef, Fact.eq undef, Fact.eq undef, Fact.eq ?rax39, Fact.eq ?rax40, Fact.eq undef, Fact.eq undef, Fact.eq undef, Fact.eq ?rax44] ?raA (by kernel_rfl) (by kernel_rfl) ?rahA ?raho ?rahend
  case rahA =>
    intro vv
    simp only [putRules, Nat.reduceAdd]
    rfl
  case raho =>
    refine ⟨?_, ?_, ?_, ?_, ?_, ?_, ?_, ?_, ?_, ?_, ?_, ?_, ?_, ?_, ?_, ?_, ?_, ?_, ?_, ?_, ?_, ?_, ?_, ?_, ?_, ?_, ?_, ?_, ?_, ?_, ?_, ?_, ?_, ?_, ?_, ?_, ?_, ?_, ?_, ?_, ?_, ?_, ?_, ?_, ?_, trivial⟩
    · intro vv W K hB hd HK
      simp only [confRules] at HK
      clear hd
      have hT := (hB.block (w.heap.size + 1) hz0).trans HG.out
      go_wp2_with (refine wpList_row_on (by rfl) 23 _ rfl (w.heap.size + 1) rfl 23 _ _ _ hT Try.underlying23 rfl HI.out ?_)
      refine HK.out _ _ (Below.refl _ _) ?_
      rfl
    · intro vv W K hB hd HK
      simp only [confRules] at HK
      clear hd
      go_wp2
      refine HK.out _ _ (Below.refl _ _) ?_
      rfl
    · intro vv W K hB hd HK
      simp only [confRules] at hd HK
      have h1 := hd
      clear hd
      simp only [h1] at HK ⊢
      clear h1
      have hT := (hB.block w.heap.size (by omega)).trans HE.out
      obtain ⟨k1, k2, k3, k4, k5⟩ := HQ.out _ hT
      clear hT
      go_wp2
      refine HK.out _ _ (Below.refl _ _) ?_
      rfl
    · intro vv W K hB hd HK
      simp only [confRules] at HK
      clear hd
      go_wp2
      refine HK.out _ _ (Below.refl _ _) ?_
      rfl
    · intro vv W K hB hd HK
      simp only [confRules] at hd HK
      have h3 := hd
      clear hd
      simp only [h3] at HK ⊢
      clear h3
      have hT := (hB.block w.heap.size (by omega)).trans HE.out
      obtain ⟨k1, k2, k3, k4, k5⟩ := HQ.out _ hT
      clear hT
      go_wp2
      refine HK.out _ _ (Below.refl _ _) ?_
      rfl
    · intro vv W K hB hd HK
      simp only [confRules] at hd HK
      obtain ⟨h0, h2, h4⟩ := hd
      simp only [h0, h2, h4] at HK ⊢
      clear h0 h2 h4
      go_wp2_with (refine (H1.out _).mono ?_; rintro e w9 ⟨rfl, hB9⟩)
      refine HK.out _ _ hB9 ?_
      rfl
    · intro vv W K hB hd HK
      simp only [confRules] at hd HK
      obtain ⟨h5, _⟩ := hd
      simp only [h5] at HK ⊢
      clear h5
      go_wp2
      refine HK.out _ _ (Below.refl _ _) ?_
      rfl
    · intro vv W K hB hd HK
      simp only [confRules] at hd HK
      have h6 := hd
      clear hd
      simp only [h6] at HK ⊢
      clear h6
      refine wpList_guard_yes (by rfl) ?_
      have hT := (hB.block (w.heap.size + 1) hz0).trans HG.out
      go_wp2_with (refine wpList_row_on (by rfl) 23 _ rfl (w.heap.size + 1) rfl 23 _ _ _ hT Try.underlying23 rfl HI.out ?_)
      refine HK.out _ _ (Below.refl _ _) ?_
      rfl
    · intro vv W K hB hd HK
      simp only [confRules] at hd HK
      have h6 := hd
      clear hd
      simp only [h6] at HK ⊢
      clear h6
      refine wpList_guard_yes (by rfl) ?_
      go_wp2
      refine HK.out _ _ (Below.refl _ _) ?_
      rfl
    · intro vv W K hB hd HK
      simp only [confRules] at hd HK
      obtain ⟨h8, h6⟩ := hd
      simp only [h8, h6] at HK ⊢
      clear h8 h6
      refine wpList_guard_yes (by rfl) ?_
      have hT := (hB.block w.heap.size (by omega)).trans HE.out
      obtain ⟨k1, k2, k3, k4, k5⟩ := HQ.out _ hT
      clear hT
      go_wp2
      refine HK.out _ _ (Below.refl _ _) ?_
      rfl
    · intro vv W K hB hd HK
      simp only [confRules] at hd HK
      have h6 := hd
      clear hd
      simp only [h6] at HK ⊢
      clear h6
      refine wpList_guard_yes (by rfl) ?_
      go_wp2
      refine HK.out _ _ (Below.refl _ _) ?_
      rfl
    · intro vv W K hB hd HK
      simp only [confRules] at hd HK
      obtain ⟨h10, h6⟩ := hd
      simp only [h10, h6] at HK ⊢
      clear h10 h6
      refine wpList_guard_yes (by rfl) ?_
      have hT := (hB.block w.heap.size (by omega)).trans HE.out
      obtain ⟨k1, k2, k3, k4, k5⟩ := HQ.out _ hT
      clear hT
      go_wp2
      refine HK.out _ _ (Below.refl _ _) ?_
      rfl
    · intro vv W K hB hd HK
      simp only [confRules] at hd HK
      obtain ⟨h7, h9, h11, h6, _⟩ := hd
      simp only [h7, h9, h11, h6] at HK ⊢
      clear h7 h9 h11 h6
      refine wpList_guard_yes (by rfl) ?_
      go_wp2_with (refine (H2.out _).mono ?_; rintro e w9 ⟨rfl, hB9⟩)
      refine HK.out _ _ hB9 ?_
      rfl
    · intro vv W K hB hd HK
      simp only [confRules] at hd HK
      obtain ⟨h6, h12⟩ := hd
      simp only [h6, h12] at HK ⊢
      clear h6 h12
      go_wp2
      refine HK.out _ _ (Below.refl _ _) ?_
      rfl
    · intro vv W K hB hd HK
      simp only [confRules] at hd HK
      obtain ⟨h13, h12⟩ := hd
      simp only [h13, h12] at HK ⊢
      clear h13 h12
      go_wp2
      refine HK.out _ _ (Below.refl _ _) ?_
      rfl
    · intro vv W K hB hd HK
      simp only [confRules] at hd HK
      have h14 := hd
      clear hd
      simp only [h14] at HK ⊢
      clear h14
      refine wpList_guard_yes (by rfl) ?_
      have hT := (hB.block (w.heap.size + 1) hz0).trans HG.out
      go_wp2_with (refine wpList_row_on (by rfl) 23 _ rfl (w.heap.size + 1) rfl 23 _ _ _ hT Try.underlying23 rfl HI.out ?_)
      refine HK.out _ _ (Below.refl _ _) ?_
      rfl
    · intro vv W K hB hd HK
      simp only [confRules] at hd HK
      have h14 := hd
      clear hd
      simp only [h14] at HK ⊢
      clear h14
      refine wpList_guard_yes (by rfl) ?_
      go_wp2
      refine HK.out _ _ (Below.refl _ _) ?_
      rfl
    · intro vv W K hB hd HK
      simp only [confRules] at hd HK
      obtain ⟨h16, h14⟩ := hd
      simp only [h16, h14] at HK ⊢
      clear h16 h14
      refine wpList_guard_yes (by rfl) ?_
      have hT := (hB.block w.heap.size (by omega)).trans HE.out
      obtain ⟨k1, k2, k3, k4, k5⟩ := HQ.out _ hT
      clear hT
      go_wp2
      refine HK.out _ _ (Below.refl _ _) ?_
      rfl
    · intro vv W K hB hd HK
      simp only [confRules] at hd HK
      obtain ⟨h15, h17, h14, _⟩ := hd
      simp only [h15, h17, h14] at HK ⊢
      clear h15 h17 h14
      refine wpList_guard_yes (by rfl) ?_
      go_wp2_with (refine (D1.out _).mono ?_; rintro e w9 ⟨rfl, hB9⟩)
      refine HK.out _ _ hB9 ?_
      rfl
    · intro vv W K hB hd HK
      simp only [confRules] at hd HK
      have h14 := hd
      clear hd
      simp only [h14] at HK ⊢
      clear h14
      refine wpList_guard_yes (by rfl) ?_
      have hT := (hB.block (w.heap.size + 1) hz0).trans HG.out
      go_wp2_with (refine wpList_row_on (by rfl) 23 _ rfl (w.heap.size + 1) rfl 23 _ _ _ hT Try.underlying23 rfl HI.out ?_)
      refine HK.out _ _ (Below.refl _ _) ?_
      rfl
    · intro vv W K hB hd HK
      simp only [confRules] at hd HK
      have h14 := hd
      clear hd
      simp only [h14] at HK ⊢
      clear h14
      refine wpList_guard_yes (by rfl) ?_
      go_wp2
      refine HK.out _ _ (Below.refl _ _) ?_
      rfl
    · intro vv W K hB hd HK
      simp only [confRules] at hd HK
      obtain ⟨h20, h14⟩ := hd
      simp only [h20, h14] at HK ⊢
      clear h20 h14
      refine wpList_guard_yes (by rfl) ?_
      have hT := (hB.block w.heap.size (by omega)).trans HE.out
      obtain ⟨k1, k2, k3, k4, k5⟩ := HQ.out _ hT
      clear hT
      go_wp2
      refine HK.out _ _ (Below.refl _ _) ?_
      rfl
    · intro vv W K hB hd HK
      simp only [confRules] at hd HK
      obtain ⟨h19, h21, h18, h14⟩ := hd
      simp only [h19, h21, h18, h14] at HK ⊢
      clear h19 h21 h18 h14
      refine wpList_guard_yes (by rfl) ?_
      go_wp2_with (refine (D2.out _).mono ?_; rintro e w9 ⟨rfl, hB9⟩)
      refine HK.out _ _ hB9 ?_
      rfl
    · intro vv W K hB hd HK
      simp only [confRules] at hd HK
      obtain ⟨h18, h22, h14⟩ := hd
      simp only [h18, h22, h14] at HK ⊢
      clear h18 h22 h14
      refine wpList_guard_yes (by rfl) ?_
      have t := T3.out
      go_wp2
      refine HK.out _ _ (Below.refl _ _) ?_
      first | rfl | exact congrArg Value.bool t | exact congrArg Value.bool (show (!_) = _ by rw [t]; rfl)
    · intro vv W K hB hd HK
      simp only [confRules] at hd HK
      obtain ⟨h14, h23⟩ := hd
      simp only [h14, h23] at HK ⊢
      clear h14 h23
      go_wp2
      refine HK.out _ _ (Below.refl _ _) ?_
      rfl
    · intro vv W K hB hd HK
      simp only [confRules] at hd HK
      obtain ⟨h24, h22⟩ := hd
      simp only [h24, h22] at HK ⊢
      clear h24 h22
      go_wp2
      refine HK.out _ _ (Below.refl _ _) ?_
      rfl
    · intro vv W K hB hd HK
      simp only [confRules] at hd HK
      have h25 := hd
      clear hd
      simp only [h25] at HK ⊢
      clear h25
      refine wpList_guard_yes (by rfl) ?_
      go_wp2
      refine HK.out _ _ (Below.refl _ _) ?_
      rfl
    · intro vv W K hB hd HK
      simp only [confRules] at hd HK
      obtain ⟨h26, h25⟩ := hd
      simp only [h26, h25] at HK ⊢
      clear h26 h25
      refine wpList_guard_yes (by rfl) ?_
      have hT := (hB.block w.heap.size (by omega)).trans HE.out
      obtain ⟨k1, k2, k3, k4, k5⟩ := HQ.out _ hT
      clear hT
      go_wp2
      refine HK.out _ _ (Below.refl _ _) ?_
      rfl
    · intro vv W K hB hd HK
      simp only [confRules] at hd HK
      obtain ⟨h27, h25⟩ := hd
      simp only [h27, h25] at HK ⊢
      clear h27 h25
      refine wpList_guard_yes (by rfl) ?_
      have t := T4.out
      go_wp2
      refine HK.out _ _ (Below.refl _ _) ?_
      first | rfl | exact congrArg Value.bool t | exact congrArg Value.bool (show (!_) = _ by rw [t]; rfl)
    · intro vv W K hB hd HK
      simp only [confRules] at hd HK
      obtain ⟨h25, h28⟩ := hd
      simp only [h25, h28] at HK ⊢
      clear h25 h28
      go_wp2
      refine HK.out _ _ (Below.refl _ _) ?_
      rfl
    · intro vv W K hB hd HK
      simp only [confRules] at hd HK
      obtain ⟨h29, h25⟩ := hd
      simp only [h29, h25] at HK ⊢
      clear h29 h25
      go_wp2
      refine HK.out _ _ (Below.refl _ _) ?_
      rfl
    · intro vv W K hB hd HK
      simp only [confRules] at hd HK
      have h30 := hd
      clear hd
      simp only [h30] at HK ⊢
      clear h30
      refine wpList_guard_yes (by rfl) ?_
      go_wp2
      refine HK.out _ _ (Below.refl _ _) ?_
      rfl
    · intro vv W K hB hd HK
      simp only [confRules] at hd HK
      obtain ⟨h31, h30⟩ := hd
      simp only [h31, h30] at HK ⊢
      clear h31 h30
      refine wpList_guard_yes (by rfl) ?_
      have hT := (hB.block w.heap.size (by omega)).trans HE.out
      obtain ⟨k1, k2, k3, k4, k5⟩ := HQ.out _ hT
      clear hT
      go_wp2
      refine HK.out _ _ (Below.refl _ _) ?_
      rfl
    · intro vv W K hB hd HK
      simp only [confRules] at hd HK
      obtain ⟨h32, h30⟩ := hd
      simp only [h32, h30] at HK ⊢
      clear h32 h30
      refine wpList_guard_yes (by rfl) ?_
      have t := T5.out
      go_wp2
      refine HK.out _ _ (Below.refl _ _) ?_
      first | rfl | exact congrArg Value.bool t | exact congrArg Value.bool (show (!_) = _ by rw [t]; rfl)
    · intro vv W K hB hd HK
      simp only [confRules] at hd HK
      obtain ⟨h30, h33⟩ := hd
      simp only [h30, h33] at HK ⊢
      clear h30 h33
      go_wp2
      refine HK.out _ _ (Below.refl _ _) ?_
      rfl
    · intro vv W K hB hd HK
      simp only [confRules] at hd HK
      obtain ⟨h34, h30⟩ := hd
      simp only [h34, h30] at HK ⊢
      clear h34 h30
      go_wp2
      refine HK.out _ _ (Below.refl _ _) ?_
      rfl
    · intro vv W K hB hd HK
      simp only [confRules] at hd HK
      have h35 := hd
      clear hd
      simp only [h35] at HK ⊢
      clear h35
      refine wpList_guard_no (by rfl) ?_
      refine HK.out _ _ (Below.refl _ _) ?_
      rfl
    · intro vv W K hB hd HK
      simp only [confRules] at hd HK
      obtain ⟨h36, h35⟩ := hd
      simp only [h36, h35] at HK ⊢
      clear h36 h35
      refine wpList_guard_no (by rfl) ?_
      refine HK.out _ _ (Below.refl _ _) ?_
      rfl
    · intro vv W K hB hd HK
      simp only [confRules] at hd HK
      obtain ⟨h37, h35⟩ := hd
      simp only [h37, h35] at HK ⊢
      clear h37 h35
      refine wpList_guard_no (by rfl) ?_
      refine HK.out _ _ (Below.refl _ _) ?_
      rfl
    · intro vv W K hB hd HK
      simp only [confRules] at hd HK
      obtain ⟨h35, h38⟩ := hd
      simp only [h35, h38] at HK ⊢
      clear h35 h38
      go_wp2
      refine HK.out _ _ (Below.refl _ _) ?_
      rfl
    · intro vv W K hB hd HK
      simp only [confRules] at hd HK
      obtain ⟨h39, h35⟩ := hd
      simp only [h39, h35] at HK ⊢
      clear h39 h35
      go_wp2
      refine HK.out _ _ (Below.refl _ _) ?_
      rfl
    · intro vv W K hB hd HK
      simp only [confRules] at hd HK
      have h40 := hd
      clear hd
      simp only [h40] at HK ⊢
      clear h40
      refine wpList_guard_no (by rfl) ?_
      refine HK.out _ _ (Below.refl _ _) ?_
      rfl
    · intro vv W K hB hd HK
      simp only [confRules] at hd HK
      obtain ⟨h41, h40⟩ := hd
      simp only [h41, h40] at HK ⊢
      clear h41 h40
      refine wpList_guard_no (by rfl) ?_
      refine HK.out _ _ (Below.refl _ _) ?_
      rfl
    · intro vv W K hB hd HK
      simp only [confRules] at hd HK
      obtain ⟨h42, h40⟩ := hd
      simp only [h42, h40] at HK ⊢
      clear h42 h40
      refine wpList_guard_no (by rfl) ?_
      refine HK.out _ _ (Below.refl _ _) ?_
      rfl
    · intro vv W K hB hd HK
      simp only [confRules] at hd HK
      obtain ⟨h40, h43⟩ := hd
      simp only [h40, h43] at HK ⊢
      clear h40 h43
      go_wp2
      refine HK.out _ _ (Below.refl _ _) ?_
      rfl
  case rahend =>
    intro vv W hB hf
    have e44 := hf 44 (by decide)
    simp only [endRules] at e44
    simp only [e44, dropRules]
    clear hf e44
    go_wp2
    go_ret
    exact ⟨rfl, hB0.trans (hB.mono (by omega))⟩
set_option maxRecDepth 100000 in
set_option maxHeartbeats 2000000 in
theorem bright_6 (C D : Array Value) (z m o q s d1 d2 : Int) (w : World)
    (hC : ∀ (W : World), W.heap[w.heap.size]? = some (.cells C 46 (0, 0)) → W.cell? ⟨w.heap.size, 0, none⟩ = some (.int .i64 1) ∧ W.cell? ⟨w.heap.size, 1, none⟩ = some (.int .i64 z) ∧ W.cell? ⟨w.heap.size, 2, none⟩ = some (.int .i64 m) ∧ W.cell? ⟨w.heap.size, 3, none⟩ = some (.int .i64 o) ∧ W.cell? ⟨w.heap.size, 4, none⟩ = some (.int .i64 q) ∧ W.cell? ⟨w.heap.size, 5, none⟩ = some (.int .i64 s))
    (hI : (Try.prog.info? 23).map (·.size) = some D.size)
    (h1 : ∀ W, Calls Try.prog 19 #[.agg D, .int .i64 z, .int .i64 o] W fun e w' => e = .returned (.bool true) ∧ Below W.heap.size W w')
    (h2 : ∀ W, Calls Try.prog 19 #[.agg D, .int .i64 m, .int .i64 o] W fun e w' => e = .returned (.bool true) ∧ Below W.heap.size W w')
    (hd1 : ∀ W, Calls Try.prog 76 #[.agg D, .int .i64 z] W fun e w' => e = .returned (.int .i64 d1) ∧ Below W.heap.size W w') (hd2 : ∀ W, Calls Try.prog 76 #[.agg D, .int .i64 m] W fun e w' => e = .returned (.int .i64 d2) ∧ Below W.heap.size W w') (t3 : (d1 == d2) = false)
    (t4 : decide (1 ≤ q) = true)
    (t5 : decide (q ≤ 281474976710655) = true)
    (t6 : decide (0 ≤ s) = false) :
    Calls Try.prog 54 #[.agg C, .agg D] w fun e w' => e = .returned (.bool false) ∧ Below w.heap.size w w' := by
  obtain ⟨W0, hW0, hB0, hE, hG, hz0⟩ := bright_setup C D w
  obtain ⟨k0, -⟩ := hC _ hE
  have HW0 := Lib.hid hW0
  have HE := Lib.hid hE
  have HG := Lib.hid hG
  have HI := Lib.hid hI
  have HQ := Lib.hid (fun W hh => (hC W hh).2)
  have H1 := Lib.hid h1
  have H2 := Lib.hid h2
  have D1 := Lib.hid hd1
  have D2 := Lib.hid hd2
  have T3 := Lib.hid t3
  have T4 := Lib.hid t4
  have T5 := Lib.hid t5
  have T6 := Lib.hid t6
  clear hW0 hE hG hI hC h1 h2 hd1 hd2 t3 t4 t5 t6
  go_enter Try.func54, Try.ntmps54
  go_upto_region 1 with (fail)
  rw [HW0.out]
  go_wp2
  refine wp_region_conf2 45 [Fact.eq ?rax0, Fact.eq ?rax1, Fact.eq ?rax2, Fact.eq ?rax3, Fact.eq ?rax4, Fact.eq ?rax5, Fact.eq ?rax6, Fact.eq ?rax7, Fact.eq ?rax8, Fact.eq ?rax9, Fact.eq ?rax10, Fact.eq ?rax11, Fact.eq ?rax12, Fact.eq ?rax13, Fact.eq ?rax14, Fact.eq ?rax15, Fact.eq ?rax16, Fact.eq ?rax17, Fact.eq ?rax18, Fact.eq ?rax19, Fact.eq ?rax20, Fact.eq ?rax21, Fact.eq ?rax22, Fact.eq (.bool true), Fact.eq ?rax24, Fact.eq ?rax25, Fact.eq ?rax26, Fact.eq ?rax27, Fact.eq (.bool true), Fact.eq ?rax29, Fact.eq ?rax30, Fact.eq ?rax31, Fact.eq ?rax32, Fact.eq (.bool true), Fact.eq ?rax34, Fact.eq ?rax35, Fact.eq ?rax36, Fact.eq ?rax37, Fact.eq (.bool false), Fact.eq ?rax39, Fact.eq ?rax40, Fact.eq undef, Fact.eq undef, Fact.eq undef, Fact.eq ?rax44] ?raA (by kernel_rfl) (by kernel_rfl) ?rahA ?raho ?rahend
  case rahA =>
    intro vv
    simp only [putRules, Nat.reduceAdd]
    rfl
  case raho =>
    refine ⟨?_, ?_, ?_, ?_, ?_, ?_, ?_, ?_, ?_, ?_, ?_, ?_, ?_, ?_, ?_, ?_, ?_, ?_, ?_, ?_, ?_, ?_, ?_, ?_, ?_, ?_, ?_, ?_, ?_, ?_, ?_, ?_, ?_, ?_, ?_, ?_, ?_, ?_, ?_, ?_, ?_, ?_, ?_, ?_, ?_, trivial⟩
    · intro vv W K hB hd HK
      simp only [confRules] at HK
      clear hd
      have hT := (hB.block (w.heap.size + 1) hz0).trans HG.out
      go_wp2_with (refine wpList_row_on (by rfl) 23 _ rfl (w.heap.size + 1) rfl 23 _ _ _ hT Try.underlying23 rfl HI.out ?_)
      refine HK.out _ _ (Below.refl _ _) ?_
      rfl
    · intro vv W K hB hd HK
      simp only [confRules] at HK
      clear hd
      go_wp2
      refine HK.out _ _ (Below.refl _ _) ?_
      rfl
    · intro vv W K hB hd HK
      simp only [confRules] at hd HK
      have h1 := hd
      clear hd
      simp only [h1] at HK ⊢
      clear h1
      have hT := (hB.block w.heap.size (by omega)).trans HE.out
      obtain ⟨k1, k2, k3, k4, k5⟩ := HQ.out _ hT
      clear hT
      go_wp2
      refine HK.out _ _ (Below.refl _ _) ?_
      rfl
    · intro vv W K hB hd HK
      simp only [confRules] at HK
      clear hd
      go_wp2
      refine HK.out _ _ (Below.refl _ _) ?_
      rfl
    · intro vv W K hB hd HK
      simp only [confRules] at hd HK
      have h3 := hd
      clear hd
      simp only [h3] at HK ⊢
      clear h3
      have hT := (hB.block w.heap.size (by omega)).trans HE.out
      obtain ⟨k1, k2, k3, k4, k5⟩ := HQ.out _ hT
      clear hT
      go_wp2
      refine HK.out _ _ (Below.refl _ _) ?_
      rfl
    · intro vv W K hB hd HK
      simp only [confRules] at hd HK
      obtain ⟨h0, h2, h4⟩ := hd
      simp only [h0, h2, h4] at HK ⊢
      clear h0 h2 h4
      go_wp2_with (refine (H1.out _).mono ?_; rintro e w9 ⟨rfl, hB9⟩)
      refine HK.out _ _ hB9 ?_
      rfl
    · intro vv W K hB hd HK
      simp only [confRules] at hd HK
      obtain ⟨h5, _⟩ := hd
      simp only [h5] at HK ⊢
      clear h5
      go_wp2
      refine HK.out _ _ (Below.refl _ _) ?_
      rfl
    · intro vv W K hB hd HK
      simp only [confRules] at hd HK
      have h6 := hd
      clear hd
      simp only [h6] at HK ⊢
      clear h6
      refine wpList_guard_yes (by rfl) ?_
      have hT := (hB.block (w.heap.size + 1) hz0).trans HG.out
      go_wp2_with (refine wpList_row_on (by rfl) 23 _ rfl (w.heap.size + 1) rfl 23 _ _ _ hT Try.underlying23 rfl HI.out ?_)
      refine HK.out _ _ (Below.refl _ _) ?_
      rfl
    · intro vv W K hB hd HK
      simp only [confRules] at hd HK
      have h6 := hd
      clear hd
      simp only [h6] at HK ⊢
      clear h6
      refine wpList_guard_yes (by rfl) ?_
      go_wp2
      refine HK.out _ _ (Below.refl _ _) ?_
      rfl
    · intro vv W K hB hd HK
      simp only [confRules] at hd HK
      obtain ⟨h8, h6⟩ := hd
      simp only [h8, h6] at HK ⊢
      clear h8 h6
      refine wpList_guard_yes (by rfl) ?_
      have hT := (hB.block w.heap.size (by omega)).trans HE.out
      obtain ⟨k1, k2, k3, k4, k5⟩ := HQ.out _ hT
      clear hT
      go_wp2
      refine HK.out _ _ (Below.refl _ _) ?_
      rfl
    · intro vv W K hB hd HK
      simp only [confRules] at hd HK
      have h6 := hd
      clear hd
      simp only [h6] at HK ⊢
      clear h6
      refine wpList_guard_yes (by rfl) ?_
      go_wp2
      refine HK.out _ _ (Below.refl _ _) ?_
      rfl
    · intro vv W K hB hd HK
      simp only [confRules] at hd HK
      obtain ⟨h10, h6⟩ := hd
      simp only [h10, h6] at HK ⊢
      clear h10 h6
      refine wpList_guard_yes (by rfl) ?_
      have hT := (hB.block w.heap.size (by omega)).trans HE.out
      obtain ⟨k1, k2, k3, k4, k5⟩ := HQ.out _ hT
      clear hT
      go_wp2
      refine HK.out _ _ (Below.refl _ _) ?_
      rfl
    · intro vv W K hB hd HK
      simp only [confRules] at hd HK
      obtain ⟨h7, h9, h11, h6, _⟩ := hd
      simp only [h7, h9, h11, h6] at HK ⊢
      clear h7 h9 h11 h6
      refine wpList_guard_yes (by rfl) ?_
      go_wp2_with (refine (H2.out _).mono ?_; rintro e w9 ⟨rfl, hB9⟩)
      refine HK.out _ _ hB9 ?_
      rfl
    · intro vv W K hB hd HK
      simp only [confRules] at hd HK
      obtain ⟨h6, h12⟩ := hd
      simp only [h6, h12] at HK ⊢
      clear h6 h12
      go_wp2
      refine HK.out _ _ (Below.refl _ _) ?_
      rfl
    · intro vv W K hB hd HK
      simp only [confRules] at hd HK
      obtain ⟨h13, h12⟩ := hd
      simp only [h13, h12] at HK ⊢
      clear h13 h12
      go_wp2
      refine HK.out _ _ (Below.refl _ _) ?_
      rfl
    · intro vv W K hB hd HK
      simp only [confRules] at hd HK
      have h14 := hd
      clear hd
      simp only [h14] at HK ⊢
      clear h14
      refine wpList_guard_yes (by rfl) ?_
      have hT := (hB.block (w.heap.size + 1) hz0).trans HG.out
      go_wp2_with (refine wpList_row_on (by rfl) 23 _ rfl (w.heap.size + 1) rfl 23 _ _ _ hT Try.underlying23 rfl HI.out ?_)
      refine HK.out _ _ (Below.refl _ _) ?_
      rfl
    · intro vv W K hB hd HK
      simp only [confRules] at hd HK
      have h14 := hd
      clear hd
      simp only [h14] at HK ⊢
      clear h14
      refine wpList_guard_yes (by rfl) ?_
      go_wp2
      refine HK.out _ _ (Below.refl _ _) ?_
      rfl
    · intro vv W K hB hd HK
      simp only [confRules] at hd HK
      obtain ⟨h16, h14⟩ := hd
      simp only [h16, h14] at HK ⊢
      clear h16 h14
      refine wpList_guard_yes (by rfl) ?_
      have hT := (hB.block w.heap.size (by omega)).trans HE.out
      obtain ⟨k1, k2, k3, k4, k5⟩ := HQ.out _ hT
      clear hT
      go_wp2
      refine HK.out _ _ (Below.refl _ _) ?_
      rfl
    · intro vv W K hB hd HK
      simp only [confRules] at hd HK
      obtain ⟨h15, h17, h14, _⟩ := hd
      simp only [h15, h17, h14] at HK ⊢
      clear h15 h17 h14
      refine wpList_guard_yes (by rfl) ?_
      go_wp2_with (refine (D1.out _).mono ?_; rintro e w9 ⟨rfl, hB9⟩)
      refine HK.out _ _ hB9 ?_
      rfl
    · intro vv W K hB hd HK
      simp only [confRules] at hd HK
      have h14 := hd
      clear hd
      simp only [h14] at HK ⊢
      clear h14
      refine wpList_guard_yes (by rfl) ?_
      have hT := (hB.block (w.heap.size + 1) hz0).trans HG.out
      go_wp2_with (refine wpList_row_on (by rfl) 23 _ rfl (w.heap.size + 1) rfl 23 _ _ _ hT Try.underlying23 rfl HI.out ?_)
      refine HK.out _ _ (Below.refl _ _) ?_
      rfl
    · intro vv W K hB hd HK
      simp only [confRules] at hd HK
      have h14 := hd
      clear hd
      simp only [h14] at HK ⊢
      clear h14
      refine wpList_guard_yes (by rfl) ?_
      go_wp2
      refine HK.out _ _ (Below.refl _ _) ?_
      rfl
    · intro vv W K hB hd HK
      simp only [confRules] at hd HK
      obtain ⟨h20, h14⟩ := hd
      simp only [h20, h14] at HK ⊢
      clear h20 h14
      refine wpList_guard_yes (by rfl) ?_
      have hT := (hB.block w.heap.size (by omega)).trans HE.out
      obtain ⟨k1, k2, k3, k4, k5⟩ := HQ.out _ hT
      clear hT
      go_wp2
      refine HK.out _ _ (Below.refl _ _) ?_
      rfl
    · intro vv W K hB hd HK
      simp only [confRules] at hd HK
      obtain ⟨h19, h21, h18, h14⟩ := hd
      simp only [h19, h21, h18, h14] at HK ⊢
      clear h19 h21 h18 h14
      refine wpList_guard_yes (by rfl) ?_
      go_wp2_with (refine (D2.out _).mono ?_; rintro e w9 ⟨rfl, hB9⟩)
      refine HK.out _ _ hB9 ?_
      rfl
    · intro vv W K hB hd HK
      simp only [confRules] at hd HK
      obtain ⟨h18, h22, h14⟩ := hd
      simp only [h18, h22, h14] at HK ⊢
      clear h18 h22 h14
      refine wpList_guard_yes (by rfl) ?_
      have t := T3.out
      go_wp2
      refine HK.out _ _ (Below.refl _ _) ?_
      first | rfl | exact congrArg Value.bool t | exact congrArg Value.bool (show (!_) = _ by rw [t]; rfl)
    · intro vv W K hB hd HK
      simp only [confRules] at hd HK
      obtain ⟨h14, h23⟩ := hd
      simp only [h14, h23] at HK ⊢
      clear h14 h23
      go_wp2
      refine HK.out _ _ (Below.refl _ _) ?_
      rfl
    · intro vv W K hB hd HK
      simp only [confRules] at hd HK
      obtain ⟨h24, h22⟩ := hd
      simp only [h24, h22] at HK ⊢
      clear h24 h22
      go_wp2
      refine HK.out _ _ (Below.refl _ _) ?_
      rfl
    · intro vv W K hB hd HK
      simp only [confRules] at hd HK
      have h25 := hd
      clear hd
      simp only [h25] at HK ⊢
      clear h25
      refine wpList_guard_yes (by rfl) ?_
      go_wp2
      refine HK.out _ _ (Below.refl _ _) ?_
      rfl
    · intro vv W K hB hd HK
      simp only [confRules] at hd HK
      obtain ⟨h26, h25⟩ := hd
      simp only [h26, h25] at HK ⊢
      clear h26 h25
      refine wpList_guard_yes (by rfl) ?_
      have hT := (hB.block w.heap.size (by omega)).trans HE.out
      obtain ⟨k1, k2, k3, k4, k5⟩ := HQ.out _ hT
      clear hT
      go_wp2
      refine HK.out _ _ (Below.refl _ _) ?_
      rfl
    · intro vv W K hB hd HK
      simp only [confRules] at hd HK
      obtain ⟨h27, h25⟩ := hd
      simp only [h27, h25] at HK ⊢
      clear h27 h25
      refine wpList_guard_yes (by rfl) ?_
      have t := T4.out
      go_wp2
      refine HK.out _ _ (Below.refl _ _) ?_
      first | rfl | exact congrArg Value.bool t | exact congrArg Value.bool (show (!_) = _ by rw [t]; rfl)
    · intro vv W K hB hd HK
      simp only [confRules] at hd HK
      obtain ⟨h25, h28⟩ := hd
      simp only [h25, h28] at HK ⊢
      clear h25 h28
      go_wp2
      refine HK.out _ _ (Below.refl _ _) ?_
      rfl
    · intro vv W K hB hd HK
      simp only [confRules] at hd HK
      obtain ⟨h29, h25⟩ := hd
      simp only [h29, h25] at HK ⊢
      clear h29 h25
      go_wp2
      refine HK.out _ _ (Below.refl _ _) ?_
      rfl
    · intro vv W K hB hd HK
      simp only [confRules] at hd HK
      have h30 := hd
      clear hd
      simp only [h30] at HK ⊢
      clear h30
      refine wpList_guard_yes (by rfl) ?_
      go_wp2
      refine HK.out _ _ (Below.refl _ _) ?_
      rfl
    · intro vv W K hB hd HK
      simp only [confRules] at hd HK
      obtain ⟨h31, h30⟩ := hd
      simp only [h31, h30] at HK ⊢
      clear h31 h30
      refine wpList_guard_yes (by rfl) ?_
      have hT := (hB.block w.heap.size (by omega)).trans HE.out
      obtain ⟨k1, k2, k3, k4, k5⟩ := HQ.out _ hT
      clear hT
      go_wp2
      refine HK.out _ _ (Below.refl _ _) ?_
      rfl
    · intro vv W K hB hd HK
      simp only [confRules] at hd HK
      obtain ⟨h32, h30⟩ := hd
      simp only [h32, h30] at HK ⊢
      clear h32 h30
      refine wpList_guard_yes (by rfl) ?_
      have t := T5.out
      go_wp2
      refine HK.out _ _ (Below.refl _ _) ?_
      first | rfl | exact congrArg Value.bool t | exact congrArg Value.bool (show (!_) = _ by rw [t]; rfl)
    · intro vv W K hB hd HK
      simp only [confRules] at hd HK
      obtain ⟨h30, h33⟩ := hd
      simp only [h30, h33] at HK ⊢
      clear h30 h33
      go_wp2
      refine HK.out _ _ (Below.refl _ _) ?_
      rfl
    · intro vv W K hB hd HK
      simp only [confRules] at hd HK
      obtain ⟨h34, h30⟩ := hd
      simp only [h34, h30] at HK ⊢
      clear h34 h30
      go_wp2
      refine HK.out _ _ (Below.refl _ _) ?_
      rfl
    · intro vv W K hB hd HK
      simp only [confRules] at hd HK
      have h35 := hd
      clear hd
      simp only [h35] at HK ⊢
      clear h35
      refine wpList_guard_yes (by rfl) ?_
      go_wp2
      refine HK.out _ _ (Below.refl _ _) ?_
      rfl
    · intro vv W K hB hd HK
      simp only [confRules] at hd HK
      obtain ⟨h36, h35⟩ := hd
      simp only [h36, h35] at HK ⊢
      clear h36 h35
      refine wpList_guard_yes (by rfl) ?_
      have hT := (hB.block w.heap.size (by omega)).trans HE.out
      obtain ⟨k1, k2, k3, k4, k5⟩ := HQ.out _ hT
      clear hT
      go_wp2
      refine HK.out _ _ (Below.refl _ _) ?_
      rfl
    · intro vv W K hB hd HK
      simp only [confRules] at hd HK
      obtain ⟨h37, h35⟩ := hd
      simp only [h37, h35] at HK ⊢
      clear h37 h35
      refine wpList_guard_yes (by rfl) ?_
      have t := T6.out
      go_wp2
      refine HK.out _ _ (Below.refl _ _) ?_
      first | rfl | exact congrArg Value.bool t | exact congrArg Value.bool (show (!_) = _ by rw [t]; rfl)
    · intro vv W K hB hd HK
      simp only [confRules] at hd HK
      obtain ⟨h35, h38⟩ := hd
      simp only [h35, h38] at HK ⊢
      clear h35 h38
      go_wp2
      refine HK.out _ _ (Below.refl _ _) ?_
      rfl
    · intro vv W K hB hd HK
      simp only [confRules] at hd HK
      obtain ⟨h39, h35⟩ := hd
      simp only [h39, h35] at HK ⊢
      clear h39 h35
      go_wp2
      refine HK.out _ _ (Below.refl _ _) ?_
      rfl
    · intro vv W K hB hd HK
      simp only [confRules] at hd HK
      have h40 := hd
      clear hd
      simp only [h40] at HK ⊢
      clear h40
      refine wpList_guard_no (by rfl) ?_
      refine HK.out _ _ (Below.refl _ _) ?_
      rfl
    · intro vv W K hB hd HK
      simp only [confRules] at hd HK
      obtain ⟨h41, h40⟩ := hd
      simp only [h41, h40] at HK ⊢
      clear h41 h40
      refine wpList_guard_no (by rfl) ?_
      refine HK.out _ _ (Below.refl _ _) ?_
      rfl
    · intro vv W K hB hd HK
      simp only [confRules] at hd HK
      obtain ⟨h42, h40⟩ := hd
      simp only [h42, h40] at HK ⊢
      clear h42 h40
      refine wpList_guard_no (by rfl) ?_
      refine HK.out _ _ (Below.refl _ _) ?_
      rfl
    · intro vv W K hB hd HK
      simp only [confRules] at hd HK
      obtain ⟨h40, h43⟩ := hd
      simp only [h40, h43] at HK ⊢
      clear h40 h43
      go_wp2
      refine HK.out _ _ (Below.refl _ _) ?_
      rfl
  case rahend =>
    intro vv W hB hf
    have e44 := hf 44 (by decide)
    simp only [endRules] at e44
    simp only [e44, dropRules]
    clear hf e44
    go_wp2
    go_ret
    exact ⟨rfl, hB0.trans (hB.mono (by omega))⟩
set_option maxRecDepth 100000 in
set_option maxHeartbeats 2000000 in
theorem bright_7 (C D : Array Value) (z m o q s d1 d2 : Int) (w : World)
    (hC : ∀ (W : World), W.heap[w.heap.size]? = some (.cells C 46 (0, 0)) → W.cell? ⟨w.heap.size, 0, none⟩ = some (.int .i64 1) ∧ W.cell? ⟨w.heap.size, 1, none⟩ = some (.int .i64 z) ∧ W.cell? ⟨w.heap.size, 2, none⟩ = some (.int .i64 m) ∧ W.cell? ⟨w.heap.size, 3, none⟩ = some (.int .i64 o) ∧ W.cell? ⟨w.heap.size, 4, none⟩ = some (.int .i64 q) ∧ W.cell? ⟨w.heap.size, 5, none⟩ = some (.int .i64 s))
    (hI : (Try.prog.info? 23).map (·.size) = some D.size)
    (h1 : ∀ W, Calls Try.prog 19 #[.agg D, .int .i64 z, .int .i64 o] W fun e w' => e = .returned (.bool true) ∧ Below W.heap.size W w')
    (h2 : ∀ W, Calls Try.prog 19 #[.agg D, .int .i64 m, .int .i64 o] W fun e w' => e = .returned (.bool true) ∧ Below W.heap.size W w')
    (hd1 : ∀ W, Calls Try.prog 76 #[.agg D, .int .i64 z] W fun e w' => e = .returned (.int .i64 d1) ∧ Below W.heap.size W w') (hd2 : ∀ W, Calls Try.prog 76 #[.agg D, .int .i64 m] W fun e w' => e = .returned (.int .i64 d2) ∧ Below W.heap.size W w') (t3 : (d1 == d2) = false)
    (t4 : decide (1 ≤ q) = true)
    (t5 : decide (q ≤ 281474976710655) = true)
    (t6 : decide (0 ≤ s) = true)
    (t7 : decide (s ≤ 4294967295) = false) :
    Calls Try.prog 54 #[.agg C, .agg D] w fun e w' => e = .returned (.bool false) ∧ Below w.heap.size w w' := by
  obtain ⟨W0, hW0, hB0, hE, hG, hz0⟩ := bright_setup C D w
  obtain ⟨k0, -⟩ := hC _ hE
  have HW0 := Lib.hid hW0
  have HE := Lib.hid hE
  have HG := Lib.hid hG
  have HI := Lib.hid hI
  have HQ := Lib.hid (fun W hh => (hC W hh).2)
  have H1 := Lib.hid h1
  have H2 := Lib.hid h2
  have D1 := Lib.hid hd1
  have D2 := Lib.hid hd2
  have T3 := Lib.hid t3
  have T4 := Lib.hid t4
  have T5 := Lib.hid t5
  have T6 := Lib.hid t6
  have T7 := Lib.hid t7
  clear hW0 hE hG hI hC h1 h2 hd1 hd2 t3 t4 t5 t6 t7
  go_enter Try.func54, Try.ntmps54
  go_upto_region 1 with (fail)
  rw [HW0.out]
  go_wp2
  refine wp_region_conf2 45 [Fact.eq ?rax0, Fact.eq ?rax1, Fact.eq ?rax2, Fact.eq ?rax3, Fact.eq ?rax4, Fact.eq ?rax5, Fact.eq ?rax6, Fact.eq ?rax7, Fact.eq ?rax8, Fact.eq ?rax9, Fact.eq ?rax10, Fact.eq ?rax11, Fact.eq ?rax12, Fact.eq ?rax13, Fact.eq ?rax14, Fact.eq ?rax15, Fact.eq ?rax16, Fact.eq ?rax17, Fact.eq ?rax18, Fact.eq ?rax19, Fact.eq ?rax20, Fact.eq ?rax21, Fact.eq ?rax22, Fact.eq (.bool true), Fact.eq ?rax24, Fact.eq ?rax25, Fact.eq ?rax26, Fact.eq ?rax27, Fact.eq (.bool true), Fact.eq ?rax29, Fact.eq ?rax30, Fact.eq ?rax31, Fact.eq ?rax32, Fact.eq (.bool true), Fact.eq ?rax34, Fact.eq ?rax35, Fact.eq ?rax36, Fact.eq ?rax37, Fact.eq (.bool true), Fact.eq ?rax39, Fact.eq ?rax40, Fact.eq ?rax41, Fact.eq ?rax42, Fact.eq (.bool false), Fact.eq ?rax44] ?raA (by kernel_rfl) (by kernel_rfl) ?rahA ?raho ?rahend
  case rahA =>
    intro vv
    simp only [putRules, Nat.reduceAdd]
    rfl
  case raho =>
    refine ⟨?_, ?_, ?_, ?_, ?_, ?_, ?_, ?_, ?_, ?_, ?_, ?_, ?_, ?_, ?_, ?_, ?_, ?_, ?_, ?_, ?_, ?_, ?_, ?_, ?_, ?_, ?_, ?_, ?_, ?_, ?_, ?_, ?_, ?_, ?_, ?_, ?_, ?_, ?_, ?_, ?_, ?_, ?_, ?_, ?_, trivial⟩
    · intro vv W K hB hd HK
      simp only [confRules] at HK
      clear hd
      have hT := (hB.block (w.heap.size + 1) hz0).trans HG.out
      go_wp2_with (refine wpList_row_on (by rfl) 23 _ rfl (w.heap.size + 1) rfl 23 _ _ _ hT Try.underlying23 rfl HI.out ?_)
      refine HK.out _ _ (Below.refl _ _) ?_
      rfl
    · intro vv W K hB hd HK
      simp only [confRules] at HK
      clear hd
      go_wp2
      refine HK.out _ _ (Below.refl _ _) ?_
      rfl
    · intro vv W K hB hd HK
      simp only [confRules] at hd HK
      have h1 := hd
      clear hd
      simp only [h1] at HK ⊢
      clear h1
      have hT := (hB.block w.heap.size (by omega)).trans HE.out
      obtain ⟨k1, k2, k3, k4, k5⟩ := HQ.out _ hT
      clear hT
      go_wp2
      refine HK.out _ _ (Below.refl _ _) ?_
      rfl
    · intro vv W K hB hd HK
      simp only [confRules] at HK
      clear hd
      go_wp2
      refine HK.out _ _ (Below.refl _ _) ?_
      rfl
    · intro vv W K hB hd HK
      simp only [confRules] at hd HK
      have h3 := hd
      clear hd
      simp only [h3] at HK ⊢
      clear h3
      have hT := (hB.block w.heap.size (by omega)).trans HE.out
      obtain ⟨k1, k2, k3, k4, k5⟩ := HQ.out _ hT
      clear hT
      go_wp2
      refine HK.out _ _ (Below.refl _ _) ?_
      rfl
    · intro vv W K hB hd HK
      simp only [confRules] at hd HK
      obtain ⟨h0, h2, h4⟩ := hd
      simp only [h0, h2, h4] at HK ⊢
      clear h0 h2 h4
      go_wp2_with (refine (H1.out _).mono ?_; rintro e w9 ⟨rfl, hB9⟩)
      refine HK.out _ _ hB9 ?_
      rfl
    · intro vv W K hB hd HK
      simp only [confRules] at hd HK
      obtain ⟨h5, _⟩ := hd
      simp only [h5] at HK ⊢
      clear h5
      go_wp2
      refine HK.out _ _ (Below.refl _ _) ?_
      rfl
    · intro vv W K hB hd HK
      simp only [confRules] at hd HK
      have h6 := hd
      clear hd
      simp only [h6] at HK ⊢
      clear h6
      refine wpList_guard_yes (by rfl) ?_
      have hT := (hB.block (w.heap.size + 1) hz0).trans HG.out
      go_wp2_with (refine wpList_row_on (by rfl) 23 _ rfl (w.heap.size + 1) rfl 23 _ _ _ hT Try.underlying23 rfl HI.out ?_)
      refine HK.out _ _ (Below.refl _ _) ?_
      rfl
    · intro vv W K hB hd HK
      simp only [confRules] at hd HK
      have h6 := hd
      clear hd
      simp only [h6] at HK ⊢
      clear h6
      refine wpList_guard_yes (by rfl) ?_
      go_wp2
      refine HK.out _ _ (Below.refl _ _) ?_
      rfl
    · intro vv W K hB hd HK
      simp only [confRules] at hd HK
      obtain ⟨h8, h6⟩ := hd
      simp only [h8, h6] at HK ⊢
      clear h8 h6
      refine wpList_guard_yes (by rfl) ?_
      have hT := (hB.block w.heap.size (by omega)).trans HE.out
      obtain ⟨k1, k2, k3, k4, k5⟩ := HQ.out _ hT
      clear hT
      go_wp2
      refine HK.out _ _ (Below.refl _ _) ?_
      rfl
    · intro vv W K hB hd HK
      simp only [confRules] at hd HK
      have h6 := hd
      clear hd
      simp only [h6] at HK ⊢
      clear h6
      refine wpList_guard_yes (by rfl) ?_
      go_wp2
      refine HK.out _ _ (Below.refl _ _) ?_
      rfl
    · intro vv W K hB hd HK
      simp only [confRules] at hd HK
      obtain ⟨h10, h6⟩ := hd
      simp only [h10, h6] at HK ⊢
      clear h10 h6
      refine wpList_guard_yes (by rfl) ?_
      have hT := (hB.block w.heap.size (by omega)).trans HE.out
      obtain ⟨k1, k2, k3, k4, k5⟩ := HQ.out _ hT
      clear hT
      go_wp2
      refine HK.out _ _ (Below.refl _ _) ?_
      rfl
    · intro vv W K hB hd HK
      simp only [confRules] at hd HK
      obtain ⟨h7, h9, h11, h6, _⟩ := hd
      simp only [h7, h9, h11, h6] at HK ⊢
      clear h7 h9 h11 h6
      refine wpList_guard_yes (by rfl) ?_
      go_wp2_with (refine (H2.out _).mono ?_; rintro e w9 ⟨rfl, hB9⟩)
      refine HK.out _ _ hB9 ?_
      rfl
    · intro vv W K hB hd HK
      simp only [confRules] at hd HK
      obtain ⟨h6, h12⟩ := hd
      simp only [h6, h12] at HK ⊢
      clear h6 h12
      go_wp2
      refine HK.out _ _ (Below.refl _ _) ?_
      rfl
    · intro vv W K hB hd HK
      simp only [confRules] at hd HK
      obtain ⟨h13, h12⟩ := hd
      simp only [h13, h12] at HK ⊢
      clear h13 h12
      go_wp2
      refine HK.out _ _ (Below.refl _ _) ?_
      rfl
    · intro vv W K hB hd HK
      simp only [confRules] at hd HK
      have h14 := hd
      clear hd
      simp only [h14] at HK ⊢
      clear h14
      refine wpList_guard_yes (by rfl) ?_
      have hT := (hB.block (w.heap.size + 1) hz0).trans HG.out
      go_wp2_with (refine wpList_row_on (by rfl) 23 _ rfl (w.heap.size + 1) rfl 23 _ _ _ hT Try.underlying23 rfl HI.out ?_)
      refine HK.out _ _ (Below.refl _ _) ?_
      rfl
    · intro vv W K hB hd HK
      simp only [confRules] at hd HK
      have h14 := hd
      clear hd
      simp only [h14] at HK ⊢
      clear h14
      refine wpList_guard_yes (by rfl) ?_
      go_wp2
      refine HK.out _ _ (Below.refl _ _) ?_
      rfl
    · intro vv W K hB hd HK
      simp only [confRules] at hd HK
      obtain ⟨h16, h14⟩ := hd
      simp only [h16, h14] at HK ⊢
      clear h16 h14
      refine wpList_guard_yes (by rfl) ?_
      have hT := (hB.block w.heap.size (by omega)).trans HE.out
      obtain ⟨k1, k2, k3, k4, k5⟩ := HQ.out _ hT
      clear hT
      go_wp2
      refine HK.out _ _ (Below.refl _ _) ?_
      rfl
    · intro vv W K hB hd HK
      simp only [confRules] at hd HK
      obtain ⟨h15, h17, h14, _⟩ := hd
      simp only [h15, h17, h14] at HK ⊢
      clear h15 h17 h14
      refine wpList_guard_yes (by rfl) ?_
      go_wp2_with (refine (D1.out _).mono ?_; rintro e w9 ⟨rfl, hB9⟩)
      refine HK.out _ _ hB9 ?_
      rfl
    · intro vv W K hB hd HK
      simp only [confRules] at hd HK
      have h14 := hd
      clear hd
      simp only [h14] at HK ⊢
      clear h14
      refine wpList_guard_yes (by rfl) ?_
      have hT := (hB.block (w.heap.size + 1) hz0).trans HG.out
      go_wp2_with (refine wpList_row_on (by rfl) 23 _ rfl (w.heap.size + 1) rfl 23 _ _ _ hT Try.underlying23 rfl HI.out ?_)
      refine HK.out _ _ (Below.refl _ _) ?_
      rfl
    · intro vv W K hB hd HK
      simp only [confRules] at hd HK
      have h14 := hd
      clear hd
      simp only [h14] at HK ⊢
      clear h14
      refine wpList_guard_yes (by rfl) ?_
      go_wp2
      refine HK.out _ _ (Below.refl _ _) ?_
      rfl
    · intro vv W K hB hd HK
      simp only [confRules] at hd HK
      obtain ⟨h20, h14⟩ := hd
      simp only [h20, h14] at HK ⊢
      clear h20 h14
      refine wpList_guard_yes (by rfl) ?_
      have hT := (hB.block w.heap.size (by omega)).trans HE.out
      obtain ⟨k1, k2, k3, k4, k5⟩ := HQ.out _ hT
      clear hT
      go_wp2
      refine HK.out _ _ (Below.refl _ _) ?_
      rfl
    · intro vv W K hB hd HK
      simp only [confRules] at hd HK
      obtain ⟨h19, h21, h18, h14⟩ := hd
      simp only [h19, h21, h18, h14] at HK ⊢
      clear h19 h21 h18 h14
      refine wpList_guard_yes (by rfl) ?_
      go_wp2_with (refine (D2.out _).mono ?_; rintro e w9 ⟨rfl, hB9⟩)
      refine HK.out _ _ hB9 ?_
      rfl
    · intro vv W K hB hd HK
      simp only [confRules] at hd HK
      obtain ⟨h18, h22, h14⟩ := hd
      simp only [h18, h22, h14] at HK ⊢
      clear h18 h22 h14
      refine wpList_guard_yes (by rfl) ?_
      have t := T3.out
      go_wp2
      refine HK.out _ _ (Below.refl _ _) ?_
      first | rfl | exact congrArg Value.bool t | exact congrArg Value.bool (show (!_) = _ by rw [t]; rfl)
    · intro vv W K hB hd HK
      simp only [confRules] at hd HK
      obtain ⟨h14, h23⟩ := hd
      simp only [h14, h23] at HK ⊢
      clear h14 h23
      go_wp2
      refine HK.out _ _ (Below.refl _ _) ?_
      rfl
    · intro vv W K hB hd HK
      simp only [confRules] at hd HK
      obtain ⟨h24, h22⟩ := hd
      simp only [h24, h22] at HK ⊢
      clear h24 h22
      go_wp2
      refine HK.out _ _ (Below.refl _ _) ?_
      rfl
    · intro vv W K hB hd HK
      simp only [confRules] at hd HK
      have h25 := hd
      clear hd
      simp only [h25] at HK ⊢
      clear h25
      refine wpList_guard_yes (by rfl) ?_
      go_wp2
      refine HK.out _ _ (Below.refl _ _) ?_
      rfl
    · intro vv W K hB hd HK
      simp only [confRules] at hd HK
      obtain ⟨h26, h25⟩ := hd
      simp only [h26, h25] at HK ⊢
      clear h26 h25
      refine wpList_guard_yes (by rfl) ?_
      have hT := (hB.block w.heap.size (by omega)).trans HE.out
      obtain ⟨k1, k2, k3, k4, k5⟩ := HQ.out _ hT
      clear hT
      go_wp2
      refine HK.out _ _ (Below.refl _ _) ?_
      rfl
    · intro vv W K hB hd HK
      simp only [confRules] at hd HK
      obtain ⟨h27, h25⟩ := hd
      simp only [h27, h25] at HK ⊢
      clear h27 h25
      refine wpList_guard_yes (by rfl) ?_
      have t := T4.out
      go_wp2
      refine HK.out _ _ (Below.refl _ _) ?_
      first | rfl | exact congrArg Value.bool t | exact congrArg Value.bool (show (!_) = _ by rw [t]; rfl)
    · intro vv W K hB hd HK
      simp only [confRules] at hd HK
      obtain ⟨h25, h28⟩ := hd
      simp only [h25, h28] at HK ⊢
      clear h25 h28
      go_wp2
      refine HK.out _ _ (Below.refl _ _) ?_
      rfl
    · intro vv W K hB hd HK
      simp only [confRules] at hd HK
      obtain ⟨h29, h25⟩ := hd
      simp only [h29, h25] at HK ⊢
      clear h29 h25
      go_wp2
      refine HK.out _ _ (Below.refl _ _) ?_
      rfl
    · intro vv W K hB hd HK
      simp only [confRules] at hd HK
      have h30 := hd
      clear hd
      simp only [h30] at HK ⊢
      clear h30
      refine wpList_guard_yes (by rfl) ?_
      go_wp2
      refine HK.out _ _ (Below.refl _ _) ?_
      rfl
    · intro vv W K hB hd HK
      simp only [confRules] at hd HK
      obtain ⟨h31, h30⟩ := hd
      simp only [h31, h30] at HK ⊢
      clear h31 h30
      refine wpList_guard_yes (by rfl) ?_
      have hT := (hB.block w.heap.size (by omega)).trans HE.out
      obtain ⟨k1, k2, k3, k4, k5⟩ := HQ.out _ hT
      clear hT
      go_wp2
      refine HK.out _ _ (Below.refl _ _) ?_
      rfl
    · intro vv W K hB hd HK
      simp only [confRules] at hd HK
      obtain ⟨h32, h30⟩ := hd
      simp only [h32, h30] at HK ⊢
      clear h32 h30
      refine wpList_guard_yes (by rfl) ?_
      have t := T5.out
      go_wp2
      refine HK.out _ _ (Below.refl _ _) ?_
      first | rfl | exact congrArg Value.bool t | exact congrArg Value.bool (show (!_) = _ by rw [t]; rfl)
    · intro vv W K hB hd HK
      simp only [confRules] at hd HK
      obtain ⟨h30, h33⟩ := hd
      simp only [h30, h33] at HK ⊢
      clear h30 h33
      go_wp2
      refine HK.out _ _ (Below.refl _ _) ?_
      rfl
    · intro vv W K hB hd HK
      simp only [confRules] at hd HK
      obtain ⟨h34, h30⟩ := hd
      simp only [h34, h30] at HK ⊢
      clear h34 h30
      go_wp2
      refine HK.out _ _ (Below.refl _ _) ?_
      rfl
    · intro vv W K hB hd HK
      simp only [confRules] at hd HK
      have h35 := hd
      clear hd
      simp only [h35] at HK ⊢
      clear h35
      refine wpList_guard_yes (by rfl) ?_
      go_wp2
      refine HK.out _ _ (Below.refl _ _) ?_
      rfl
    · intro vv W K hB hd HK
      simp only [confRules] at hd HK
      obtain ⟨h36, h35⟩ := hd
      simp only [h36, h35] at HK ⊢
      clear h36 h35
      refine wpList_guard_yes (by rfl) ?_
      have hT := (hB.block w.heap.size (by omega)).trans HE.out
      obtain ⟨k1, k2, k3, k4, k5⟩ := HQ.out _ hT
      clear hT
      go_wp2
      refine HK.out _ _ (Below.refl _ _) ?_
      rfl
    · intro vv W K hB hd HK
      simp only [confRules] at hd HK
      obtain ⟨h37, h35⟩ := hd
      simp only [h37, h35] at HK ⊢
      clear h37 h35
      refine wpList_guard_yes (by rfl) ?_
      have t := T6.out
      go_wp2
      refine HK.out _ _ (Below.refl _ _) ?_
      first | rfl | exact congrArg Value.bool t | exact congrArg Value.bool (show (!_) = _ by rw [t]; rfl)
    · intro vv W K hB hd HK
      simp only [confRules] at hd HK
      obtain ⟨h35, h38⟩ := hd
      simp only [h35, h38] at HK ⊢
      clear h35 h38
      go_wp2
      refine HK.out _ _ (Below.refl _ _) ?_
      rfl
    · intro vv W K hB hd HK
      simp only [confRules] at hd HK
      obtain ⟨h39, h35⟩ := hd
      simp only [h39, h35] at HK ⊢
      clear h39 h35
      go_wp2
      refine HK.out _ _ (Below.refl _ _) ?_
      rfl
    · intro vv W K hB hd HK
      simp only [confRules] at hd HK
      have h40 := hd
      clear hd
      simp only [h40] at HK ⊢
      clear h40
      refine wpList_guard_yes (by rfl) ?_
      go_wp2
      refine HK.out _ _ (Below.refl _ _) ?_
      rfl
    · intro vv W K hB hd HK
      simp only [confRules] at hd HK
      obtain ⟨h41, h40⟩ := hd
      simp only [h41, h40] at HK ⊢
      clear h41 h40
      refine wpList_guard_yes (by rfl) ?_
      have hT := (hB.block w.heap.size (by omega)).trans HE.out
      obtain ⟨k1, k2, k3, k4, k5⟩ := HQ.out _ hT
      clear hT
      go_wp2
      refine HK.out _ _ (Below.refl _ _) ?_
      rfl
    · intro vv W K hB hd HK
      simp only [confRules] at hd HK
      obtain ⟨h42, h40⟩ := hd
      simp only [h42, h40] at HK ⊢
      clear h42 h40
      refine wpList_guard_yes (by rfl) ?_
      have t := T7.out
      go_wp2
      refine HK.out _ _ (Below.refl _ _) ?_
      first | rfl | exact congrArg Value.bool t | exact congrArg Value.bool (show (!_) = _ by rw [t]; rfl)
    · intro vv W K hB hd HK
      simp only [confRules] at hd HK
      obtain ⟨h40, h43⟩ := hd
      simp only [h40, h43] at HK ⊢
      clear h40 h43
      go_wp2
      refine HK.out _ _ (Below.refl _ _) ?_
      rfl
  case rahend =>
    intro vv W hB hf
    have e44 := hf 44 (by decide)
    simp only [endRules] at e44
    simp only [e44, dropRules]
    clear hf e44
    go_wp2
    go_ret
    exact ⟨rfl, hB0.trans (hB.mono (by omega))⟩
set_option maxRecDepth 100000 in
set_option maxHeartbeats 2000000 in
theorem bright_8 (C D : Array Value) (z m o q s d1 d2 : Int) (w : World)
    (hC : ∀ (W : World), W.heap[w.heap.size]? = some (.cells C 46 (0, 0)) → W.cell? ⟨w.heap.size, 0, none⟩ = some (.int .i64 1) ∧ W.cell? ⟨w.heap.size, 1, none⟩ = some (.int .i64 z) ∧ W.cell? ⟨w.heap.size, 2, none⟩ = some (.int .i64 m) ∧ W.cell? ⟨w.heap.size, 3, none⟩ = some (.int .i64 o) ∧ W.cell? ⟨w.heap.size, 4, none⟩ = some (.int .i64 q) ∧ W.cell? ⟨w.heap.size, 5, none⟩ = some (.int .i64 s))
    (hI : (Try.prog.info? 23).map (·.size) = some D.size)
    (h1 : ∀ W, Calls Try.prog 19 #[.agg D, .int .i64 z, .int .i64 o] W fun e w' => e = .returned (.bool true) ∧ Below W.heap.size W w')
    (h2 : ∀ W, Calls Try.prog 19 #[.agg D, .int .i64 m, .int .i64 o] W fun e w' => e = .returned (.bool true) ∧ Below W.heap.size W w')
    (hd1 : ∀ W, Calls Try.prog 76 #[.agg D, .int .i64 z] W fun e w' => e = .returned (.int .i64 d1) ∧ Below W.heap.size W w') (hd2 : ∀ W, Calls Try.prog 76 #[.agg D, .int .i64 m] W fun e w' => e = .returned (.int .i64 d2) ∧ Below W.heap.size W w') (t3 : (d1 == d2) = false)
    (t4 : decide (1 ≤ q) = true)
    (t5 : decide (q ≤ 281474976710655) = true)
    (t6 : decide (0 ≤ s) = true)
    (t7 : decide (s ≤ 4294967295) = true) :
    Calls Try.prog 54 #[.agg C, .agg D] w fun e w' => e = .returned (.bool true) ∧ Below w.heap.size w w' := by
  obtain ⟨W0, hW0, hB0, hE, hG, hz0⟩ := bright_setup C D w
  obtain ⟨k0, -⟩ := hC _ hE
  have HW0 := Lib.hid hW0
  have HE := Lib.hid hE
  have HG := Lib.hid hG
  have HI := Lib.hid hI
  have HQ := Lib.hid (fun W hh => (hC W hh).2)
  have H1 := Lib.hid h1
  have H2 := Lib.hid h2
  have D1 := Lib.hid hd1
  have D2 := Lib.hid hd2
  have T3 := Lib.hid t3
  have T4 := Lib.hid t4
  have T5 := Lib.hid t5
  have T6 := Lib.hid t6
  have T7 := Lib.hid t7
  clear hW0 hE hG hI hC h1 h2 hd1 hd2 t3 t4 t5 t6 t7
  go_enter Try.func54, Try.ntmps54
  go_upto_region 1 with (fail)
  rw [HW0.out]
  go_wp2
  refine wp_region_conf2 45 [Fact.eq ?rax0, Fact.eq ?rax1, Fact.eq ?rax2, Fact.eq ?rax3, Fact.eq ?rax4, Fact.eq ?rax5, Fact.eq ?rax6, Fact.eq ?rax7, Fact.eq ?rax8, Fact.eq ?rax9, Fact.eq ?rax10, Fact.eq ?rax11, Fact.eq ?rax12, Fact.eq ?rax13, Fact.eq ?rax14, Fact.eq ?rax15, Fact.eq ?rax16, Fact.eq ?rax17, Fact.eq ?rax18, Fact.eq ?rax19, Fact.eq ?rax20, Fact.eq ?rax21, Fact.eq ?rax22, Fact.eq (.bool true), Fact.eq ?rax24, Fact.eq ?rax25, Fact.eq ?rax26, Fact.eq ?rax27, Fact.eq (.bool true), Fact.eq ?rax29, Fact.eq ?rax30, Fact.eq ?rax31, Fact.eq ?rax32, Fact.eq (.bool true), Fact.eq ?rax34, Fact.eq ?rax35, Fact.eq ?rax36, Fact.eq ?rax37, Fact.eq (.bool true), Fact.eq ?rax39, Fact.eq ?rax40, Fact.eq ?rax41, Fact.eq ?rax42, Fact.eq (.bool true), Fact.eq ?rax44] ?raA (by kernel_rfl) (by kernel_rfl) ?rahA ?raho ?rahend
  case rahA =>
    intro vv
    simp only [putRules, Nat.reduceAdd]
    rfl
  case raho =>
    refine ⟨?_, ?_, ?_, ?_, ?_, ?_, ?_, ?_, ?_, ?_, ?_, ?_, ?_, ?_, ?_, ?_, ?_, ?_, ?_, ?_, ?_, ?_, ?_, ?_, ?_, ?_, ?_, ?_, ?_, ?_, ?_, ?_, ?_, ?_, ?_, ?_, ?_, ?_, ?_, ?_, ?_, ?_, ?_, ?_, ?_, trivial⟩
    · intro vv W K hB hd HK
      simp only [confRules] at HK
      clear hd
      have hT := (hB.block (w.heap.size + 1) hz0).trans HG.out
      go_wp2_with (refine wpList_row_on (by rfl) 23 _ rfl (w.heap.size + 1) rfl 23 _ _ _ hT Try.underlying23 rfl HI.out ?_)
      refine HK.out _ _ (Below.refl _ _) ?_
      rfl
    · intro vv W K hB hd HK
      simp only [confRules] at HK
      clear hd
      go_wp2
      refine HK.out _ _ (Below.refl _ _) ?_
      rfl
    · intro vv W K hB hd HK
      simp only [confRules] at hd HK
      have h1 := hd
      clear hd
      simp only [h1] at HK ⊢
      clear h1
      have hT := (hB.block w.heap.size (by omega)).trans HE.out
      obtain ⟨k1, k2, k3, k4, k5⟩ := HQ.out _ hT
      clear hT
      go_wp2
      refine HK.out _ _ (Below.refl _ _) ?_
      rfl
    · intro vv W K hB hd HK
      simp only [confRules] at HK
      clear hd
      go_wp2
      refine HK.out _ _ (Below.refl _ _) ?_
      rfl
    · intro vv W K hB hd HK
      simp only [confRules] at hd HK
      have h3 := hd
      clear hd
      simp only [h3] at HK ⊢
      clear h3
      have hT := (hB.block w.heap.size (by omega)).trans HE.out
      obtain ⟨k1, k2, k3, k4, k5⟩ := HQ.out _ hT
      clear hT
      go_wp2
      refine HK.out _ _ (Below.refl _ _) ?_
      rfl
    · intro vv W K hB hd HK
      simp only [confRules] at hd HK
      obtain ⟨h0, h2, h4⟩ := hd
      simp only [h0, h2, h4] at HK ⊢
      clear h0 h2 h4
      go_wp2_with (refine (H1.out _).mono ?_; rintro e w9 ⟨rfl, hB9⟩)
      refine HK.out _ _ hB9 ?_
      rfl
    · intro vv W K hB hd HK
      simp only [confRules] at hd HK
      obtain ⟨h5, _⟩ := hd
      simp only [h5] at HK ⊢
      clear h5
      go_wp2
      refine HK.out _ _ (Below.refl _ _) ?_
      rfl
    · intro vv W K hB hd HK
      simp only [confRules] at hd HK
      have h6 := hd
      clear hd
      simp only [h6] at HK ⊢
      clear h6
      refine wpList_guard_yes (by rfl) ?_
      have hT := (hB.block (w.heap.size + 1) hz0).trans HG.out
      go_wp2_with (refine wpList_row_on (by rfl) 23 _ rfl (w.heap.size + 1) rfl 23 _ _ _ hT Try.underlying23 rfl HI.out ?_)
      refine HK.out _ _ (Below.refl _ _) ?_
      rfl
    · intro vv W K hB hd HK
      simp only [confRules] at hd HK
      have h6 := hd
      clear hd
      simp only [h6] at HK ⊢
      clear h6
      refine wpList_guard_yes (by rfl) ?_
      go_wp2
      refine HK.out _ _ (Below.refl _ _) ?_
      rfl
    · intro vv W K hB hd HK
      simp only [confRules] at hd HK
      obtain ⟨h8, h6⟩ := hd
      simp only [h8, h6] at HK ⊢
      clear h8 h6
      refine wpList_guard_yes (by rfl) ?_
      have hT := (hB.block w.heap.size (by omega)).trans HE.out
      obtain ⟨k1, k2, k3, k4, k5⟩ := HQ.out _ hT
      clear hT
      go_wp2
      refine HK.out _ _ (Below.refl _ _) ?_
      rfl
    · intro vv W K hB hd HK
      simp only [confRules] at hd HK
      have h6 := hd
      clear hd
      simp only [h6] at HK ⊢
      clear h6
      refine wpList_guard_yes (by rfl) ?_
      go_wp2
      refine HK.out _ _ (Below.refl _ _) ?_
      rfl
    · intro vv W K hB hd HK
      simp only [confRules] at hd HK
      obtain ⟨h10, h6⟩ := hd
      simp only [h10, h6] at HK ⊢
      clear h10 h6
      refine wpList_guard_yes (by rfl) ?_
      have hT := (hB.block w.heap.size (by omega)).trans HE.out
      obtain ⟨k1, k2, k3, k4, k5⟩ := HQ.out _ hT
      clear hT
      go_wp2
      refine HK.out _ _ (Below.refl _ _) ?_
      rfl
    · intro vv W K hB hd HK
      simp only [confRules] at hd HK
      obtain ⟨h7, h9, h11, h6, _⟩ := hd
      simp only [h7, h9, h11, h6] at HK ⊢
      clear h7 h9 h11 h6
      refine wpList_guard_yes (by rfl) ?_
      go_wp2_with (refine (H2.out _).mono ?_; rintro e w9 ⟨rfl, hB9⟩)
      refine HK.out _ _ hB9 ?_
      rfl
    · intro vv W K hB hd HK
      simp only [confRules] at hd HK
      obtain ⟨h6, h12⟩ := hd
      simp only [h6, h12] at HK ⊢
      clear h6 h12
      go_wp2
      refine HK.out _ _ (Below.refl _ _) ?_
      rfl
    · intro vv W K hB hd HK
      simp only [confRules] at hd HK
      obtain ⟨h13, h12⟩ := hd
      simp only [h13, h12] at HK ⊢
      clear h13 h12
      go_wp2
      refine HK.out _ _ (Below.refl _ _) ?_
      rfl
    · intro vv W K hB hd HK
      simp only [confRules] at hd HK
      have h14 := hd
      clear hd
      simp only [h14] at HK ⊢
      clear h14
      refine wpList_guard_yes (by rfl) ?_
      have hT := (hB.block (w.heap.size + 1) hz0).trans HG.out
      go_wp2_with (refine wpList_row_on (by rfl) 23 _ rfl (w.heap.size + 1) rfl 23 _ _ _ hT Try.underlying23 rfl HI.out ?_)
      refine HK.out _ _ (Below.refl _ _) ?_
      rfl
    · intro vv W K hB hd HK
      simp only [confRules] at hd HK
      have h14 := hd
      clear hd
      simp only [h14] at HK ⊢
      clear h14
      refine wpList_guard_yes (by rfl) ?_
      go_wp2
      refine HK.out _ _ (Below.refl _ _) ?_
      rfl
    · intro vv W K hB hd HK
      simp only [confRules] at hd HK
      obtain ⟨h16, h14⟩ := hd
      simp only [h16, h14] at HK ⊢
      clear h16 h14
      refine wpList_guard_yes (by rfl) ?_
      have hT := (hB.block w.heap.size (by omega)).trans HE.out
      obtain ⟨k1, k2, k3, k4, k5⟩ := HQ.out _ hT
      clear hT
      go_wp2
      refine HK.out _ _ (Below.refl _ _) ?_
      rfl
    · intro vv W K hB hd HK
      simp only [confRules] at hd HK
      obtain ⟨h15, h17, h14, _⟩ := hd
      simp only [h15, h17, h14] at HK ⊢
      clear h15 h17 h14
      refine wpList_guard_yes (by rfl) ?_
      go_wp2_with (refine (D1.out _).mono ?_; rintro e w9 ⟨rfl, hB9⟩)
      refine HK.out _ _ hB9 ?_
      rfl
    · intro vv W K hB hd HK
      simp only [confRules] at hd HK
      have h14 := hd
      clear hd
      simp only [h14] at HK ⊢
      clear h14
      refine wpList_guard_yes (by rfl) ?_
      have hT := (hB.block (w.heap.size + 1) hz0).trans HG.out
      go_wp2_with (refine wpList_row_on (by rfl) 23 _ rfl (w.heap.size + 1) rfl 23 _ _ _ hT Try.underlying23 rfl HI.out ?_)
      refine HK.out _ _ (Below.refl _ _) ?_
      rfl
    · intro vv W K hB hd HK
      simp only [confRules] at hd HK
      have h14 := hd
      clear hd
      simp only [h14] at HK ⊢
      clear h14
      refine wpList_guard_yes (by rfl) ?_
      go_wp2
      refine HK.out _ _ (Below.refl _ _) ?_
      rfl
    · intro vv W K hB hd HK
      simp only [confRules] at hd HK
      obtain ⟨h20, h14⟩ := hd
      simp only [h20, h14] at HK ⊢
      clear h20 h14
      refine wpList_guard_yes (by rfl) ?_
      have hT := (hB.block w.heap.size (by omega)).trans HE.out
      obtain ⟨k1, k2, k3, k4, k5⟩ := HQ.out _ hT
      clear hT
      go_wp2
      refine HK.out _ _ (Below.refl _ _) ?_
      rfl
    · intro vv W K hB hd HK
      simp only [confRules] at hd HK
      obtain ⟨h19, h21, h18, h14⟩ := hd
      simp only [h19, h21, h18, h14] at HK ⊢
      clear h19 h21 h18 h14
      refine wpList_guard_yes (by rfl) ?_
      go_wp2_with (refine (D2.out _).mono ?_; rintro e w9 ⟨rfl, hB9⟩)
      refine HK.out _ _ hB9 ?_
      rfl
    · intro vv W K hB hd HK
      simp only [confRules] at hd HK
      obtain ⟨h18, h22, h14⟩ := hd
      simp only [h18, h22, h14] at HK ⊢
      clear h18 h22 h14
      refine wpList_guard_yes (by rfl) ?_
      have t := T3.out
      go_wp2
      refine HK.out _ _ (Below.refl _ _) ?_
      first | rfl | exact congrArg Value.bool t | exact congrArg Value.bool (show (!_) = _ by rw [t]; rfl)
    · intro vv W K hB hd HK
      simp only [confRules] at hd HK
      obtain ⟨h14, h23⟩ := hd
      simp only [h14, h23] at HK ⊢
      clear h14 h23
      go_wp2
      refine HK.out _ _ (Below.refl _ _) ?_
      rfl
    · intro vv W K hB hd HK
      simp only [confRules] at hd HK
      obtain ⟨h24, h22⟩ := hd
      simp only [h24, h22] at HK ⊢
      clear h24 h22
      go_wp2
      refine HK.out _ _ (Below.refl _ _) ?_
      rfl
    · intro vv W K hB hd HK
      simp only [confRules] at hd HK
      have h25 := hd
      clear hd
      simp only [h25] at HK ⊢
      clear h25
      refine wpList_guard_yes (by rfl) ?_
      go_wp2
      refine HK.out _ _ (Below.refl _ _) ?_
      rfl
    · intro vv W K hB hd HK
      simp only [confRules] at hd HK
      obtain ⟨h26, h25⟩ := hd
      simp only [h26, h25] at HK ⊢
      clear h26 h25
      refine wpList_guard_yes (by rfl) ?_
      have hT := (hB.block w.heap.size (by omega)).trans HE.out
      obtain ⟨k1, k2, k3, k4, k5⟩ := HQ.out _ hT
      clear hT
      go_wp2
      refine HK.out _ _ (Below.refl _ _) ?_
      rfl
    · intro vv W K hB hd HK
      simp only [confRules] at hd HK
      obtain ⟨h27, h25⟩ := hd
      simp only [h27, h25] at HK ⊢
      clear h27 h25
      refine wpList_guard_yes (by rfl) ?_
      have t := T4.out
      go_wp2
      refine HK.out _ _ (Below.refl _ _) ?_
      first | rfl | exact congrArg Value.bool t | exact congrArg Value.bool (show (!_) = _ by rw [t]; rfl)
    · intro vv W K hB hd HK
      simp only [confRules] at hd HK
      obtain ⟨h25, h28⟩ := hd
      simp only [h25, h28] at HK ⊢
      clear h25 h28
      go_wp2
      refine HK.out _ _ (Below.refl _ _) ?_
      rfl
    · intro vv W K hB hd HK
      simp only [confRules] at hd HK
      obtain ⟨h29, h25⟩ := hd
      simp only [h29, h25] at HK ⊢
      clear h29 h25
      go_wp2
      refine HK.out _ _ (Below.refl _ _) ?_
      rfl
    · intro vv W K hB hd HK
      simp only [confRules] at hd HK
      have h30 := hd
      clear hd
      simp only [h30] at HK ⊢
      clear h30
      refine wpList_guard_yes (by rfl) ?_
      go_wp2
      refine HK.out _ _ (Below.refl _ _) ?_
      rfl
    · intro vv W K hB hd HK
      simp only [confRules] at hd HK
      obtain ⟨h31, h30⟩ := hd
      simp only [h31, h30] at HK ⊢
      clear h31 h30
      refine wpList_guard_yes (by rfl) ?_
      have hT := (hB.block w.heap.size (by omega)).trans HE.out
      obtain ⟨k1, k2, k3, k4, k5⟩ := HQ.out _ hT
      clear hT
      go_wp2
      refine HK.out _ _ (Below.refl _ _) ?_
      rfl
    · intro vv W K hB hd HK
      simp only [confRules] at hd HK
      obtain ⟨h32, h30⟩ := hd
      simp only [h32, h30] at HK ⊢
      clear h32 h30
      refine wpList_guard_yes (by rfl) ?_
      have t := T5.out
      go_wp2
      refine HK.out _ _ (Below.refl _ _) ?_
      first | rfl | exact congrArg Value.bool t | exact congrArg Value.bool (show (!_) = _ by rw [t]; rfl)
    · intro vv W K hB hd HK
      simp only [confRules] at hd HK
      obtain ⟨h30, h33⟩ := hd
      simp only [h30, h33] at HK ⊢
      clear h30 h33
      go_wp2
      refine HK.out _ _ (Below.refl _ _) ?_
      rfl
    · intro vv W K hB hd HK
      simp only [confRules] at hd HK
      obtain ⟨h34, h30⟩ := hd
      simp only [h34, h30] at HK ⊢
      clear h34 h30
      go_wp2
      refine HK.out _ _ (Below.refl _ _) ?_
      rfl
    · intro vv W K hB hd HK
      simp only [confRules] at hd HK
      have h35 := hd
      clear hd
      simp only [h35] at HK ⊢
      clear h35
      refine wpList_guard_yes (by rfl) ?_
      go_wp2
      refine HK.out _ _ (Below.refl _ _) ?_
      rfl
    · intro vv W K hB hd HK
      simp only [confRules] at hd HK
      obtain ⟨h36, h35⟩ := hd
      simp only [h36, h35] at HK ⊢
      clear h36 h35
      refine wpList_guard_yes (by rfl) ?_
      have hT := (hB.block w.heap.size (by omega)).trans HE.out
      obtain ⟨k1, k2, k3, k4, k5⟩ := HQ.out _ hT
      clear hT
      go_wp2
      refine HK.out _ _ (Below.refl _ _) ?_
      rfl
    · intro vv W K hB hd HK
      simp only [confRules] at hd HK
      obtain ⟨h37, h35⟩ := hd
      simp only [h37, h35] at HK ⊢
      clear h37 h35
      refine wpList_guard_yes (by rfl) ?_
      have t := T6.out
      go_wp2
      refine HK.out _ _ (Below.refl _ _) ?_
      first | rfl | exact congrArg Value.bool t | exact congrArg Value.bool (show (!_) = _ by rw [t]; rfl)
    · intro vv W K hB hd HK
      simp only [confRules] at hd HK
      obtain ⟨h35, h38⟩ := hd
      simp only [h35, h38] at HK ⊢
      clear h35 h38
      go_wp2
      refine HK.out _ _ (Below.refl _ _) ?_
      rfl
    · intro vv W K hB hd HK
      simp only [confRules] at hd HK
      obtain ⟨h39, h35⟩ := hd
      simp only [h39, h35] at HK ⊢
      clear h39 h35
      go_wp2
      refine HK.out _ _ (Below.refl _ _) ?_
      rfl
    · intro vv W K hB hd HK
      simp only [confRules] at hd HK
      have h40 := hd
      clear hd
      simp only [h40] at HK ⊢
      clear h40
      refine wpList_guard_yes (by rfl) ?_
      go_wp2
      refine HK.out _ _ (Below.refl _ _) ?_
      rfl
    · intro vv W K hB hd HK
      simp only [confRules] at hd HK
      obtain ⟨h41, h40⟩ := hd
      simp only [h41, h40] at HK ⊢
      clear h41 h40
      refine wpList_guard_yes (by rfl) ?_
      have hT := (hB.block w.heap.size (by omega)).trans HE.out
      obtain ⟨k1, k2, k3, k4, k5⟩ := HQ.out _ hT
      clear hT
      go_wp2
      refine HK.out _ _ (Below.refl _ _) ?_
      rfl
    · intro vv W K hB hd HK
      simp only [confRules] at hd HK
      obtain ⟨h42, h40⟩ := hd
      simp only [h42, h40] at HK ⊢
      clear h42 h40
      refine wpList_guard_yes (by rfl) ?_
      have t := T7.out
      go_wp2
      refine HK.out _ _ (Below.refl _ _) ?_
      first | rfl | exact congrArg Value.bool t | exact congrArg Value.bool (show (!_) = _ by rw [t]; rfl)
    · intro vv W K hB hd HK
      simp only [confRules] at hd HK
      obtain ⟨h40, h43⟩ := hd
      simp only [h40, h43] at HK ⊢
      clear h40 h43
      go_wp2
      refine HK.out _ _ (Below.refl _ _) ?_
      rfl
  case rahend =>
    intro vv W hB hf
    have e44 := hf 44 (by decide)
    simp only [endRules] at e44
    simp only [e44, dropRules]
    clear hf e44
    go_wp2
    go_ret
    exact ⟨rfl, hB0.trans (hB.mono (by omega))⟩
end Go.Proofs.Ytjnneoejnpephaa
namespace Go.Proofs.Ytjnneoejnpephaa
open Go.RowKit Go.Rv
set_option linter.unusedVariables false
def E64 (e : BE) : Prop := (Lit.int .i64 e.st).wf = true ∧ (Lit.int .i64 e.z).wf = true ∧ (Lit.int .i64 e.m).wf = true ∧ (Lit.int .i64 e.o).wf = true ∧ (Lit.int .i64 e.q).wf = true ∧ (Lit.int .i64 e.s).wf = true
def beLits (e : BE) : List Lit := [.int .i64 e.st, .int .i64 e.z, .int .i64 e.m, .int .i64 e.o, .int .i64 e.q, .int .i64 e.s]
theorem beLits_inj {a b : BE} (h : beLits a = beLits b) : a = b := by
  obtain ⟨a0, a1, a2, a3, a4, a5⟩ := a
  obtain ⟨b0, b1, b2, b3, b4, b5⟩ := b
  simp only [beLits, List.cons.injEq, Lit.int.injEq, true_and, and_true] at h
  obtain ⟨rfl, rfl, rfl, rfl, rfl, rfl⟩ := h
  rfl
theorem eq_be (a b : BE) (ha : E64 a) (hb : E64 b) (w : World) : (Op.equalIn 10000 46 (.agg (BEC a)) (.agg (BEC b))).run Try.prog w = .ok (decide (a = b)) w := by
  have k1 : Try.prog.cellsOf 3 = 1 := by kernel_rfl
  have k6 : Try.prog.cellsOf 46 = 6 := by kernel_rfl
  have i : ∀ n : Int, (Lit.int .i64 n).wf = true → Try.prog.keyLits 2 3 [.int .i64 n] = some [.int .i64 n] := by
    intro n hn
    simp only [Program.keyLits, Try.underlying3, hn, and_self, if_true]
  have hl : ∀ e : BE, E64 e → Try.prog.keyLits 3 46 (BEC e).toList = some (beLits e) := by
    intro e hn
    obtain ⟨n0, n1, n2, n3, n4, n5⟩ := hn
    have hlen : (BEC e).toList.length = 6 := rfl
    unfold Program.keyLits
    simp only [Try.underlying46, k6, hlen]
    rw [if_pos ⟨trivial, by decide +kernel⟩]
    simp only [List.mapM_cons, List.mapM_nil, k1, BEC, List.drop, List.take, i _ n0, i _ n1, i _ n2, i _ n3, i _ n4, i _ n5]
    simp [beLits]
  have hF : ∀ e : BE, (Value.agg (BEC e)).formed Try.prog 46 = true := by
    intro e
    simp only [Value.formed, Try.underlying46, BEC_size]
    kernel_rfl
  exact eq_deep (by kernel_rfl) (hF a) (hF b) (hl a ha) (hl b hb) _ (by rw [decide_eq_true_eq]; exact ⟨fun h => by rw [h], beLits_inj⟩) w
set_option maxRecDepth 100000 in
set_option maxHeartbeats 2000000 in
theorem bright_none (C D : Array Value) (e : BE) (b : Bool) (w : World) (hC : C = BEC e)
    (hcs : (e.st = 0 ∨ e.st = 2) ∧ (∀ W, (Op.equalIn 10000 46 (.agg (BEC e)) (.agg (BEC ⟨e.st, 0, 0, 0, 0, 0⟩))).run Try.prog W = .ok b W)) :
    Calls Try.prog 54 #[.agg C, .agg D] w fun x w' => x = .returned (.bool b) ∧ Below w.heap.size w w' := by
  subst hC
  have hz := (zero_of_info Try.infoEnt).1
  obtain ⟨W0, hW0, hB0, hE, hG, hz0⟩ := bright_setup (BEC e) D w
  have k0 : W0.cell? ⟨w.heap.size, 0, none⟩ = some (.int .i64 e.st) := (cell_of_row _ _ _ _ _ _ hE).trans rfl
  have HW0 := Lib.hid hW0
  have HIE := Lib.hid (esize e)
  obtain ⟨hst, hq⟩ := hcs
  have HQ := Lib.hid hq
  clear hW0 hG hq
  have HE := Lib.hid hE
  rcases hst with h0 | h0
  · have t1 : (e.st == 0) = true := by simp [h0]
    clear h0
    go_enter Try.func54, Try.ntmps54
    go_upto_region 1 with (fail)
    rw [HW0.out]
    go_wp2_with (first | (refine wpList_row_on (by rfl) 46 _ rfl w.heap.size rfl 46 _ _ _ HE.out Try.underlying46 rfl HIE.out ?_) | (refine wpList_eql_on (by rfl) 46 46 _ _ rfl (BEC e) (BEC ⟨e.st, 0, 0, 0, 0, 0⟩) rfl rfl (by kernel_rfl) b HQ.out ?_))
    go_ret
    exact ⟨rfl, hB0⟩
  · have t1 : (e.st == 0) = false := by simp [h0]
    have t2 : (e.st == 2) = true := by simp [h0]
    clear h0
    go_enter Try.func54, Try.ntmps54
    go_upto_region 1 with (fail)
    rw [HW0.out]
    go_wp2_with (first | (refine wpList_row_on (by rfl) 46 _ rfl w.heap.size rfl 46 _ _ _ HE.out Try.underlying46 rfl HIE.out ?_) | (refine wpList_eql_on (by rfl) 46 46 _ _ rfl (BEC e) (BEC ⟨e.st, 0, 0, 0, 0, 0⟩) rfl rfl (by kernel_rfl) b HQ.out ?_))
    go_ret
    exact ⟨rfl, hB0⟩
set_option maxRecDepth 100000 in
set_option maxHeartbeats 2000000 in
theorem bright_other (e : BE) (D : Array Value) (w : World) (h0 : e.st ≠ 0) (h1 : e.st ≠ 1) (h2 : e.st ≠ 2) :
    Calls Try.prog 54 #[.agg (BEC e), .agg D] w fun x w' => x = .returned (.bool false) ∧ Below w.heap.size w w' := by
  obtain ⟨W0, hW0, hB0, hE, hG, hz0⟩ := bright_setup (BEC e) D w
  have k0 : W0.cell? ⟨w.heap.size, 0, none⟩ = some (.int .i64 e.st) := (cell_of_row _ _ _ _ _ _ hE).trans rfl
  have HW0 := Lib.hid hW0
  have t0 : (e.st == 0) = false := by simpa using h0
  have t1 : (e.st == 1) = false := by simpa using h1
  have t2 : (e.st == 2) = false := by simpa using h2
  clear hW0 hG hE h0 h1 h2
  generalize BEC e = C at *
  go_enter Try.func54, Try.ntmps54
  go_upto_region 1 with (fail)
  rw [HW0.out]
  go_wp2
  go_ret
  exact ⟨rfl, hB0⟩
theorem bright_any (g : Geo.G) (e : BE) (w : World) (hr : Geo.right g = true) (hn : E64 e) :
    Calls Try.prog 54 #[.agg (BEC e), .agg (GC g)] w fun x w' => x = .returned (.bool (beRight g e)) ∧ Below w.heap.size w w' := by
  have hs := ((Geo.right_iff g).1 hr).1
  unfold beRight
  by_cases h0 : e.st = 0 ∨ e.st = 2
  · rw [if_pos h0]
    exact bright_none (BEC e) (GC g) e _ w rfl ⟨h0, fun W => eq_be e ⟨e.st, 0, 0, 0, 0, 0⟩ hn ⟨hn.1, rfl, rfl, rfl, rfl, rfl⟩ W⟩
  · rw [if_neg h0]
    by_cases h1 : e.st = 1
    · rw [if_pos h1]
      have hC : ∀ (W : World), W.heap[w.heap.size]? = some (.cells (BEC e) 46 (0, 0)) → W.cell? ⟨w.heap.size, 0, none⟩ = some (.int .i64 1) ∧ W.cell? ⟨w.heap.size, 1, none⟩ = some (.int .i64 e.z) ∧ W.cell? ⟨w.heap.size, 2, none⟩ = some (.int .i64 e.m) ∧ W.cell? ⟨w.heap.size, 3, none⟩ = some (.int .i64 e.o) ∧ W.cell? ⟨w.heap.size, 4, none⟩ = some (.int .i64 e.q) ∧ W.cell? ⟨w.heap.size, 5, none⟩ = some (.int .i64 e.s) := fun W hh => by
        have h2 := (cell_of_row _ _ _ _ _ _ hh).trans (show (BEC e)[0]? = some (.int .i64 1) by simp [BEC, h1])
        exact ⟨h2, (cell_of_row _ _ _ _ _ _ hh).trans rfl, (cell_of_row _ _ _ _ _ _ hh).trans rfl, (cell_of_row _ _ _ _ _ _ hh).trans rfl, (cell_of_row _ _ _ _ _ _ hh).trans rfl, (cell_of_row _ _ _ _ _ _ hh).trans rfl⟩
      have H1 := fun (W : World) => gholds_any g e.z e.o W
      have H2 := fun (W : World) => gholds_any g e.m e.o W
      have D1 := fun (W : World) => gdomain_any g e.z W hs
      have D2 := fun (W : World) => gdomain_any g e.m W hs
      unfold beLive
      cases c1 : holdsG g e.z e.o
      · rw [c1] at H1
        exact bright_1 (BEC e) (GC g) e.z e.m e.o e.q e.s 0 0 w hC gsize H1
      rw [c1] at H1
      cases c2 : holdsG g e.m e.o
      · rw [c2] at H2
        exact bright_2 (BEC e) (GC g) e.z e.m e.o e.q e.s 0 0 w hC gsize H1 H2
      rw [c2] at H2
      by_cases c3 : domOf g e.z = domOf g e.m
      · rw [show decide (domOf g e.z ≠ domOf g e.m) = false from decide_eq_false (fun h => h c3)]
        rw [← c3] at D2
        exact bright_3 (BEC e) (GC g) e.z e.m e.o e.q e.s _ 0 w hC gsize H1 H2 D1 D2
      rw [show decide (domOf g e.z ≠ domOf g e.m) = true from decide_eq_true c3]
      have t3 : (domOf g e.z == domOf g e.m) = false := by simpa using c3
      cases c4 : decide (1 ≤ e.q)
      · exact bright_4 (BEC e) (GC g) e.z e.m e.o e.q e.s _ _ w hC gsize H1 H2 D1 D2 t3 c4
      cases c5 : decide (e.q ≤ 281474976710655)
      · exact bright_5 (BEC e) (GC g) e.z e.m e.o e.q e.s _ _ w hC gsize H1 H2 D1 D2 t3 c4 c5
      cases c6 : decide (0 ≤ e.s)
      · exact bright_6 (BEC e) (GC g) e.z e.m e.o e.q e.s _ _ w hC gsize H1 H2 D1 D2 t3 c4 c5 c6
      cases c7 : decide (e.s ≤ 4294967295)
      · exact bright_7 (BEC e) (GC g) e.z e.m e.o e.q e.s _ _ w hC gsize H1 H2 D1 D2 t3 c4 c5 c6 c7
      · exact bright_8 (BEC e) (GC g) e.z e.m e.o e.q e.s _ _ w hC gsize H1 H2 D1 D2 t3 c4 c5 c6 c7
    · rw [if_neg h1]
      exact bright_other e (GC g) w (fun h => h0 (.inl h)) h1 (fun h => h0 (.inr h))
end Go.Proofs.Ytjnneoejnpephaa
namespace Go.Proofs.Ytjnneoejnpephaa
open Go.RowKit Go.Rv
set_option linter.unusedVariables false
/-- does an entry lie in a zone? -/
def hits (e : BE) (j : Int) : Bool := e.st == 1 && (e.z == j || e.m == j)
def liveN (es : List BE) (j : Int) : Nat := (es.filter fun e => hits e j).length
/-- how many lie in each of n zones -/
def liveL (n : Nat) (es : List BE) : List Int := (List.range n).map fun (j : Nat) => (liveN es j : Int)
theorem liveL_length (n : Nat) (es : List BE) : (liveL n es).length = n := by simp [liveL]
theorem liveL_at {n : Nat} {es : List BE} {j : Nat} (h : j < n) : (liveL n es)[j]? = some (liveN es j : Int) := by
  simp only [liveL, List.getElem?_map, List.getElem?_range h, Option.map_some]
theorem liveN_set : ∀ (es : List BE) (k : Nat) (old e : BE) (j : Int), es[k]? = some old → (liveN (es.set k e) j : Int) = liveN es j - (if hits old j then 1 else 0) + (if hits e j then 1 else 0)
  | [], k, old, e, j, h => by simp at h
  | x :: es, 0, old, e, j, h => by
    simp at h
    subst h
    simp only [List.set_cons_zero, liveN, List.filter_cons]
    cases h1 : hits x j <;> cases h2 : hits e j <;> simp <;> omega
  | x :: es, k + 1, old, e, j, h => by
    have ih := liveN_set es k old e j (by simpa using h)
    simp only [List.set_cons_succ, liveN, List.filter_cons] at ih ⊢
    cases h1 : hits x j <;> simp <;> omega
theorem liveN_le (es : List BE) (j : Int) : liveN es j ≤ es.length := List.length_filter_le _ _
/-- counted into two lists -/
def addE (lv : List Int) (e : BE) (b : Int) : List Int := if e.st = 1 then (lv.set e.z.toNat (lv.getD e.z.toNat 0 + b)).set e.m.toNat ((lv.set e.z.toNat (lv.getD e.z.toNat 0 + b)).getD e.m.toNat 0 + b) else lv
theorem addE_length (lv : List Int) (e : BE) (b : Int) : (addE lv e b).length = lv.length := by
  unfold addE
  split <;> simp
/-- an entry whose zones, if it lives, are two of n -/
def ZOk (n : Nat) (e : BE) : Prop := e.st = 1 → (0 ≤ e.z ∧ e.z < n) ∧ (0 ≤ e.m ∧ e.m < n) ∧ e.z ≠ e.m
theorem addE_at {n : Nat} {lv : List Int} {e : BE} {b : Int} (hl : lv.length = n) (hz : ZOk n e) {j : Nat} (hj : j < n) : (addE lv e b).getD j 0 = lv.getD j 0 + if hits e j then b else 0 := by
  unfold addE
  by_cases h1 : e.st = 1
  · obtain ⟨⟨hz1, hz2⟩, ⟨hm1, hm2⟩, hne⟩ := hz h1
    rw [if_pos h1]
    obtain ⟨z, hzz⟩ := Int.eq_ofNat_of_zero_le hz1
    obtain ⟨m, hmm⟩ := Int.eq_ofNat_of_zero_le hm1
    have hzm : z ≠ m := fun e => hne (by rw [hzz, hmm, e])
    have hh : hits e j = (z == j || m == j) := by
      simp only [hits, h1, hzz, hmm, beq_self_eq_true, Bool.true_and]
      rw [Bool.eq_iff_iff]
      simp
      omega
    rw [hzz, hmm, hh]
    simp only [Int.toNat_natCast]
    have e1 : z < lv.length := by omega
    have e2 : m < lv.length := by omega
    have e3 : j < lv.length := by omega
    simp only [List.getD_eq_getElem?_getD, List.getElem?_set, List.length_set]
    by_cases a1 : m = j
    · subst a1
      have : z ≠ m := hzm
      simp [this, e2]
    · by_cases a2 : z = j
      · subst a2
        simp [a1, e1]
      · simp [a1, a2]
  · rw [if_neg h1]
    have : hits e j = false := by simp [hits, h1]
    rw [this]
    simp
/-- a block is set: the lists follow -/
theorem liveL_step {n : Nat} {es : List BE} {k : Nat} {old e : BE} (hk : es[k]? = some old) (ho : ZOk n old) (he : ZOk n e) : addE (addE (liveL n es) old (-1)) e 1 = liveL n (es.set k e) := by
  have hl1 : (addE (liveL n es) old (-1)).length = n := by rw [addE_length, liveL_length]
  apply List.ext_getElem?
  intro j
  by_cases hj : j < n
  · have e1 : j < (addE (addE (liveL n es) old (-1)) e 1).length := by rw [addE_length, hl1]; exact hj
    have h1 := addE_at (b := 1) hl1 he hj
    have h2 := addE_at (b := -1) (liveL_length n es) ho hj
    have h3 := liveN_set es k old e j hk
    have h4 : (liveL n es).getD j 0 = (liveN es j : Int) := by rw [List.getD_eq_getElem?_getD, liveL_at hj]; rfl
    rw [liveL_at hj, List.getElem?_eq_getElem e1]
    have h5 : (addE (addE (liveL n es) old (-1)) e 1).getD j 0 = (addE (addE (liveL n es) old (-1)) e 1)[j] := by rw [List.getD_eq_getElem?_getD, List.getElem?_eq_getElem e1]; rfl
    rw [← h5, h1, h2, h4, h3]
    congr 1
    split <;> split <;> omega
  · rw [List.getElem?_eq_none (by rw [addE_length, hl1]; omega), List.getElem?_eq_none (by rw [liveL_length]; omega)]
theorem zok_of_right {g : Geo.G} {e : BE} (hs : Geo.Small g) (h : beRight g e = true) : ZOk (g.d * g.z).toNat e := by
  intro h1
  unfold beRight at h
  rw [if_neg (by omega), if_pos h1] at h
  unfold beLive holdsG at h
  simp only [Bool.and_eq_true, decide_eq_true_eq, Geo.inB_iff] at h
  obtain ⟨⟨-, ⟨a1, a2⟩, -⟩, ⟨-, ⟨b1, b2⟩, -⟩, hd, -⟩ := h
  have hb := Geo.dz_bd hs
  refine ⟨⟨a1, by omega⟩, ⟨b1, by omega⟩, fun e' => hd (by rw [e'])⟩
theorem st_of_right {g : Geo.G} {e : BE} (h : beRight g e = true) : e.st = 0 ∨ e.st = 1 ∨ e.st = 2 := by
  unfold beRight at h
  split at h
  · rename_i h0; omega
  · split at h
    · rename_i h1; exact .inr (.inl h1)
    · cases h
theorem zero_right (g : Geo.G) : beRight g BE.zero = true := by unfold beRight BE.zero; simp
/-- a map that may be: as many entries as there are blocks, each of them right; its counts are theirs -/
structure MapOk (g : Geo.G) (es : List BE) : Prop where
  len : (es.length : Int) = g.b
  ok : ∀ e ∈ es, beRight g e = true ∧ E64 e
theorem MapOk.set {g : Geo.G} {es : List BE} (h : MapOk g es) {e : BE} (he : beRight g e = true) (hn : E64 e) (k : Nat) : MapOk g (es.set k e) :=
  ⟨by rw [List.length_set]; exact h.len, fun x hx => by
    rcases List.mem_or_eq_of_mem_set hx with h1 | h1
    · exact h.ok x h1
    · rw [h1]; exact ⟨he, hn⟩⟩
end Go.Proofs.Ytjnneoejnpephaa
namespace Go.Proofs.Ytjnneoejnpephaa
open Go.RowKit Go.Rv
set_option linter.unusedVariables false
set_option maxRecDepth 100000 in
theorem ent_of_fits6 {d : Nat} {w : World} {cs : List Value} (h : Fits Try.prog w (d + 2) 46 cs) : ∃ e : BE, cs = (BEC e).toList ∧ E64 e := by
  obtain ⟨hl, hx⟩ := fits_struct (d := d + 1) Try.underlying46 h
  have k1 : Try.prog.cellsOf 3 = 1 := by kernel_rfl
  have k6 : Try.prog.cellsOf 46 = 6 := by kernel_rfl
  rw [k6] at hl
  simp only [List.forall_mem_cons, k1] at hx
  obtain ⟨f0, f1, f2, f3, f4, f5, -⟩ := hx
  obtain ⟨n0, c0, w0⟩ := fits_int Try.underlying3 f0
  obtain ⟨n1, c1, w1⟩ := fits_int Try.underlying3 f1
  obtain ⟨n2, c2, w2⟩ := fits_int Try.underlying3 f2
  obtain ⟨n3, c3, w3⟩ := fits_int Try.underlying3 f3
  obtain ⟨n4, c4, w4⟩ := fits_int Try.underlying3 f4
  obtain ⟨n5, c5, w5⟩ := fits_int Try.underlying3 f5
  exact ⟨⟨n0, n1, n2, n3, n4, n5⟩, six_vals hl c0 c1 c2 c3 c4 c5, w0, w1, w2, w3, w4, w5⟩
/-- a step: a block, and its entry -/
def opC (x : Int × BE) : Array Value := #[.int .i64 x.1, .int .i64 x.2.st, .int .i64 x.2.z, .int .i64 x.2.m, .int .i64 x.2.o, .int .i64 x.2.q, .int .i64 x.2.s]
theorem opC_one (x : Int × BE) : (opC x).all (·.oneCell') = true := by simp [opC, Value.oneCell']
def Op64 (x : Int × BE) : Prop := (Lit.int .i64 x.1).wf = true ∧ E64 x.2
end Go.Proofs.Ytjnneoejnpephaa
namespace Go.Proofs.Ytjnneoejnpephaa
open Go.RowKit Go.Rv Go.Shelf
set_option linter.unusedVariables false
attribute [local go_sem] Oper.semAt_some
theorem BmIs.rows {w : World} {p le ll ce cl : Nat} {g : Geo.G} {es : List BE} {lv : List Int} (h : BmIs w p le ll ce cl g es lv) : RowOf w 6 BEC (fun _ => True) (some ⟨le, 0, none⟩) es := by
  by_cases h0 : es = []
  · exact .inl h0
  · refine .inr ⟨le, 0, rfl, h.lt.2.1, fun k x hk => ⟨fun j hj => ?_, trivial⟩⟩
    obtain ⟨a0, a1, a2, a3, a4, a5⟩ := h.ent hk
    rw [Nat.zero_add]
    match j, hj with
    | 0, _ => exact a0
    | 1, _ => exact a1
    | 2, _ => exact a2
    | 3, _ => exact a3
    | 4, _ => exact a4
    | 5, _ => exact a5
theorem _root_.Go.Rv.RowOf.ent6 {w : World} {Q : BE → Prop} {a : Option Addr} {xs : List BE} (h : RowOf w 6 BEC Q a xs) {k : Nat} {x : BE} (hk : xs[k]? = some x) : ∃ b o, a = some ⟨b, o, none⟩ ∧ b < w.heap.size ∧ Q x ∧
    w.cell? ⟨b, o + k * 6, none⟩ = some (.int .i64 x.st) ∧ w.cell? ⟨b, o + k * 6 + 1, none⟩ = some (.int .i64 x.z) ∧ w.cell? ⟨b, o + k * 6 + 2, none⟩ = some (.int .i64 x.m) ∧ w.cell? ⟨b, o + k * 6 + 3, none⟩ = some (.int .i64 x.o) ∧ w.cell? ⟨b, o + k * 6 + 4, none⟩ = some (.int .i64 x.q) ∧ w.cell? ⟨b, o + k * 6 + 5, none⟩ = some (.int .i64 x.s) := by
  obtain ⟨b, o, rfl, hb, hc, hq⟩ := h.at hk
  exact ⟨b, o, rfl, hb, hq, hc 0 (by omega), hc 1 (by omega), hc 2 (by omega), hc 3 (by omega), hc 4 (by omega), hc 5 (by omega)⟩
def ieV (x : BE × Nat) : Array Value := #[.int .i64 (x.2 : Nat), .agg (BEC x.1)]
set_option maxRecDepth 100000 in
set_option maxHeartbeats 4000000 in
theorem eall1_stops (n : Nat) (hn : 1 ≤ n) (B rb : Nat) (a : Option Addr) (cp : Nat) (es : List BE) (w : World) (hB : w.cell? ⟨B, 0, none⟩ = some (.slice a es.length cp)) (hR : RowOf w 6 BEC (fun _ => True) a es) (hrb : ∀ x, a = some x → x.block = rb) (hrl : rb < w.heap.size) (hl : es.length ≤ 100000) :
    SeqT Fence.wide n Try.prog 92 #[.pointer (some ⟨B, 0, none⟩)] ieV [rb] [] (fun ys => ys = es.zipIdx) (fun pre => pre <+: es.zipIdx) es.length w := by
  intro r T J Jx W hW hr0 hrW hT hJ hJx hY h0
  have hBW : W.cell? ⟨B, 0, none⟩ = some (.slice a es.length cp) := (hW.cell (p := ⟨B, 0, none⟩) (block_lt_of_cell hB)).trans hB
  have HR := Lib.hid (hR.below hW)
  have hz := (zero_of_info Try.infoEnt).1
  have HIE := Lib.hid (fun e => esize e)
  have HON := Lib.hid (fun e => BEC_one e)
  have HSZ : Hid (∀ e : BE, (BEC BE.zero).size = (BEC e).size) := Lib.hid (fun e => by rw [BEC_size, BEC_size])
  have hzW := hW.size
  clear hR hB hW
  refine callsIn_of_wp Try.func92 rfl trivial ?_ rfl
  simp only [Try.ntmps92, List.size_toArray, List.length_cons, List.length_nil, Nat.reduceAdd, Nat.reduceSub, Array.replicate_succ, Array.replicate_zero, List.push_toArray, List.append_toArray, List.nil_append, List.cons_append]
  gi_wp2
  gi_loopw [7] (fun i wr => ∃ k : Nat, k ≤ es.length ∧ i = .int .i64 k ∧ J (es.take k).zipIdx wr ∧ RowOf wr 6 BEC (fun _ => True) a es ∧ W.heap.size ≤ wr.heap.size) (fun i _ => es.length - (intOf i).toNat)
  case atStart => exact ⟨0, Nat.zero_le _, rfl, h0, HR.out, Nat.le_refl _⟩
  case round =>
    obtain ⟨k, hk, rfl, hJk, hrow, hzr⟩ := hrel
    by_cases hlt : k < es.length
    · obtain ⟨x, hx⟩ : ∃ x, es[k]? = some x := ⟨_, List.getElem?_eq_getElem hlt⟩
      obtain ⟨b, o, rfl, hbl, -, d0, d1, d2, d3, d4, d5⟩ := hrow.ent6 hx
      have HBB : Hid (b = rb) := Lib.hid (hrb _ rfl)
      have HS := Lib.hid (zip_take es hx)
      have HP : Hid ((es.take k).zipIdx ++ [(x, k)] <+: es.zipIdx) := Lib.hid (by rw [← HS.out]; exact zip_full es _)
      obtain ⟨WA, hWA⟩ : ∃ WA, wr.alloc (.cells (BEC x) 46) = WA := ⟨_, rfl⟩
      have hba : Below wr.heap.size wr WA := by rw [← hWA]; exact (Below.refl wr.heap.size wr).alloc (Nat.le_refl _) _
      have hop : WA.heap[wr.heap.size]? = some (.cells (BEC x) 46 (0, 0)) := by rw [← hWA]; exact heap_alloc_new wr _
      have hJA := hJ _ _ _ hJk ((Turn.of_below hba : Turn W.heap.size [] wr WA))
      have HRA := Lib.hid (hrow.below hba)
      have zA := hba.size
      obtain ⟨fn, tmps, assign, body, hy', hRd⟩ := hY (es.take k).zipIdx (x, k) WA hJA (by rw [zip_len _ hk]; exact hlt) HP.out
      have hy : (Instr.yield r #[.int .i64 (k : Nat), .agg (BEC x)]).run Try.prog WA = .ok (.round r fn tmps assign body) WA := hy'
      have HWA := Lib.hid hWA
      have HOP := Lib.hid hop
      have HRD := Lib.hid hRd
      clear hx hy' hJk hrow hba hop hJA hWA hRd
      gi_wp2_with (first | (refine wpListIn_store_row (by rfl) 46 _ _ rfl wr.heap.size (BEC x) rfl rfl 46 (BEC BE.zero) (heap_alloc_new wr _) (HIE.out _) (HSZ.out _) (HON.out _) ?_; rw [World.setRow_alloc_new, HWA.out]; clear d0 d1 d2 d3 d4 d5) | (refine wpListIn_row_on (by rfl) 46 _ rfl wr.heap.size rfl 46 _ _ _ HOP.out Try.underlying46 rfl (HIE.out _) ?_))
      refine HRD.out.mono ?_
      rintro e W3 ⟨hO3, (⟨rfl, hJ3⟩ | ⟨rfl, hJx3⟩)⟩
      · have HRW : Hid (RowOf W3 6 BEC (fun _ => True) (some ⟨b, o, none⟩) es) := Lib.hid (HRA.out.only hO3 (by
          intro y hy2 hm
          cases hy2
          rcases List.mem_cons.1 hm with e | hm
          · have := HBB.out; simp only at e; omega
          · have := (hT _ hm).2
            simp only [List.mem_singleton] at this
            exact this HBB.out))
        have z3 := hO3.size
        clear hy
        gi_wp2
        go_roundw
        case rel => exact ⟨k + 1, by omega, by go_num, by rw [HS.out]; exact hJ3, HRW.out, by omega⟩
        case measure => simp [intOf]; omega
      · clear hy
        gi_wp2
        refine bodyPost_ret (results_none rfl _ _ _) rfl ?_
        exact ⟨⟨_, rfl⟩, .inr ⟨_, HP.out, hJx3⟩⟩
    · obtain rfl : k = es.length := by omega
      rw [List.take_length] at hJk
      gi_wp2
      go_end0
      exact ⟨⟨_, rfl⟩, .inl ⟨_, rfl, hJk⟩⟩
end Go.Proofs.Ytjnneoejnpephaa
namespace Go.Proofs.Ytjnneoejnpephaa
open Go.RowKit Go.Rv Go.Shelf
set_option linter.unusedVariables false
attribute [local go_sem] Oper.semAt_some
set_option maxRecDepth 100000 in
theorem eall_any (a : Option Addr) (n c : Nat) (w : World) :
    Calls Try.prog 72 #[.slice a n c] w fun e w' => e = .returned (.func (.func 92) #[] #[.pointer (some ⟨w.heap.size, 0, none⟩)]) ∧ w' = w.alloc (.cells #[.slice a n c] 108) := by
  go_enter Try.func72, Try.ntmps72
  go_wp2
  go_ret
  exact ⟨rfl, rfl⟩
set_option maxRecDepth 100000 in
theorem ball_any (w : World) (p : Nat) (a : Option Addr) (n c : Nat) (h : w.cell? ⟨p, 6, none⟩ = some (.slice a n c)) :
    Calls Try.prog 45 #[.pointer (some ⟨p, 0, none⟩)] w fun e w' => e = .returned (.func (.func 92) #[] #[.pointer (some ⟨w.heap.size, 0, none⟩)]) ∧ w' = w.alloc (.cells #[.slice a n c] 108) := by
  have HA := Lib.hid (eall_any a n c w)
  go_enter Try.func45, Try.ntmps45
  go_wp2_with fail
  refine HA.out.mono ?_
  rintro e w1 ⟨rfl, rfl⟩
  go_wp2
  go_ret
  exact ⟨rfl, rfl⟩
end Go.Proofs.Ytjnneoejnpephaa
namespace Go.Proofs.Ytjnneoejnpephaa
open Go.RowKit Go.Rv
set_option linter.unusedVariables false
theorem flatE_set : ∀ (es : List BE) (k : Nat) (e : BE), k < es.length → flatE (es.set k e) = ((((((flatE es).set (k * 6) (.int .i64 e.st)).set (k * 6 + 1) (.int .i64 e.z)).set (k * 6 + 2) (.int .i64 e.m)).set (k * 6 + 3) (.int .i64 e.o)).set (k * 6 + 4) (.int .i64 e.q)).set (k * 6 + 5) (.int .i64 e.s)
  | [], k, e, h => by simp at h
  | x :: es, 0, e, h => by
    show (BEC e).toList ++ flatE es = _
    simp only [flatE, List.flatMap_cons, BEC]
    rfl
  | x :: es, k + 1, e, h => by
    have ih := flatE_set es k e (by simpa using h)
    have hx : (BEC x).toList = [.int .i64 x.st, .int .i64 x.z, .int .i64 x.m, .int .i64 x.o, .int .i64 x.q, .int .i64 x.s] := rfl
    show (BEC x).toList ++ flatE (es.set k e) = ((((((((BEC x).toList ++ flatE es).set _ _).set _ _).set _ _).set _ _).set _ _).set _ _)
    rw [ih, hx, show (k + 1) * 6 = k * 6 + 6 by omega, show k * 6 + 6 + 1 = k * 6 + 1 + 6 by omega, show k * 6 + 6 + 2 = k * 6 + 2 + 6 by omega, show k * 6 + 6 + 3 = k * 6 + 3 + 6 by omega, show k * 6 + 6 + 4 = k * 6 + 4 + 6 by omega, show k * 6 + 6 + 5 = k * 6 + 5 + 6 by omega]
    rfl
/-- the entry's six cells, stored -/
def putE (w : World) (le k : Nat) (e : BE) : World := (((((w.setCell ⟨le, k * 6, none⟩ (.int .i64 e.st)).setCell ⟨le, k * 6 + 1, none⟩ (.int .i64 e.z)).setCell ⟨le, k * 6 + 2, none⟩ (.int .i64 e.m)).setCell ⟨le, k * 6 + 3, none⟩ (.int .i64 e.o)).setCell ⟨le, k * 6 + 4, none⟩ (.int .i64 e.q)).setCell ⟨le, k * 6 + 5, none⟩ (.int .i64 e.s)
theorem putE_only (w : World) (le k : Nat) (e : BE) : Only [le] w (putE w le k e) :=
  ((((((Only.refl [le] w).setCell (.inl (by simp)) _).setCell (.inl (by simp)) _).setCell (.inl (by simp)) _).setCell (.inl (by simp)) _).setCell (.inl (by simp)) _).setCell (.inl (by simp)) _
theorem BmIs.putE {w : World} {p le ll ce cl : Nat} {g : Geo.G} {es : List BE} {lv : List Int} (h : BmIs w p le ll ce cl g es lv) {k : Nat} (hk : k < es.length) (e : BE) :
    BmIs (putE w le k e) p le ll ce cl g (es.set k e) lv := by
  obtain ⟨hn1, hn2, hn3⟩ := h.ne
  have hO := putE_only w le k e
  obtain ⟨L, hL, hL2⟩ := h.he
  obtain ⟨V, hV, hV2⟩ := h.hl
  have hlen : (es.set k e).length = es.length := List.length_set
  refine ⟨by rw [hlen]; exact hO.get h.hp (by simpa using hn1), ?_, ⟨V, hO.get hV (by simpa using Ne.symm hn3), hV2⟩, by rw [hlen]; exact h.h1, h.h2⟩
  have s1 := heap_setCell_same w le (k * 6) _ _ (.int .i64 e.st) hL
  have s2 := heap_setCell_same _ le (k * 6 + 1) _ _ (.int .i64 e.z) s1
  have s3 := heap_setCell_same _ le (k * 6 + 2) _ _ (.int .i64 e.m) s2
  have s4 := heap_setCell_same _ le (k * 6 + 3) _ _ (.int .i64 e.o) s3
  have s5 := heap_setCell_same _ le (k * 6 + 4) _ _ (.int .i64 e.q) s4
  have s6 := heap_setCell_same _ le (k * 6 + 5) _ _ (.int .i64 e.s) s5
  refine ⟨_, s6, ?_⟩
  rw [hlen, flatE_set es k e hk]
  simp only [Array.toList_setIfInBounds, List.take_set, hL2]
theorem BmIs.ent_free {w : World} {p le ll ce cl : Nat} {g : Geo.G} {es : List BE} {lv : List Int} (h : BmIs w p le ll ce cl g es lv) (j : Nat) : w.frozen? ⟨le, j, none⟩ = false := by
  obtain ⟨L, hL, -⟩ := h.he
  exact frozen_of_row _ _ _ _ _ hL
set_option maxRecDepth 100000 in
set_option maxHeartbeats 2000000 in
theorem bset_out (w : World) (p le ll ce cl : Nat) (g : Geo.G) (es : List BE) (lv : List Int) (h : BmIs w p le ll ce cl g es lv) (k : Int) (e : BE) (hk : k < 0 ∨ (es.length : Int) ≤ k) :
    Calls Try.prog 25 #[.pointer (some ⟨p, 0, none⟩), .int .i64 k, .agg (BEC e)] w fun x w' => x = .returned (.int .i64 13) ∧ Below w.heap.size w w' := by
  have hz := (zero_of_info Try.infoEnt).1
  have hal := (Below.refl w.heap.size w).alloc (Nat.le_refl _) (.cells (BEC e) 46)
  have HG := Lib.hid (bget_out _ p le ll ce cl g es lv (h.below hal) k hk)
  have HIE := Lib.hid (fun e => esize e)
  have HON := Lib.hid (fun e => BEC_one e)
  clear h hk
  generalize BEC e = C at *
  go_enter Try.func25, Try.ntmps25
  go_wp2_with fail
  refine HG.out.mono ?_
  rintro x w1 ⟨rfl, hB1⟩
  have hB2 := hal.trans (hB1.mono hal.size)
  have hB3 := hB2.alloc hB2.size (.cells (BEC BE.zero) 46)
  clear hal hB1
  go_wp2_with (refine wpList_store_row rfl 46 _ _ rfl w1.heap.size (BEC BE.zero) rfl rfl 46 (BEC BE.zero) (heap_alloc_new w1 _) (HIE.out _) rfl (HON.out _) ?_; rw [World.setRow_alloc_new])
  go_ret
  exact ⟨rfl, hB3⟩
set_option maxRecDepth 100000 in
set_option maxHeartbeats 4000000 in
theorem bset_bad (w : World) (p le ll ce cl : Nat) (g : Geo.G) (es : List BE) (lv : List Int) (h : BmIs w p le ll ce cl g es lv) (k : Nat) (e old : BE) (hk : es[k]? = some old) (hn : es.length ≤ 100000) (hrt : ∀ W, Calls Try.prog 54 #[.agg (BEC e), .agg (GC g)] W fun x w' => x = .returned (.bool false) ∧ Below W.heap.size W w') :
    Calls Try.prog 25 #[.pointer (some ⟨p, 0, none⟩), .int .i64 (k : Nat), .agg (BEC e)] w fun x w' => x = .returned (.int .i64 10) ∧ Below w.heap.size w w' := by
  have hz := (zero_of_info Try.infoEnt).1
  have hal := (Below.refl w.heap.size w).alloc (Nat.le_refl _) (.cells (BEC e) 46)
  have hnew := heap_alloc_new w (.cells (BEC e) 46)
  obtain ⟨W0, hW0⟩ : ∃ W0, w.alloc (.cells (BEC e) 46) = W0 := ⟨_, rfl⟩
  rw [hW0] at hal hnew
  have HG := Lib.hid (bget_in _ p le ll ce cl g es lv (h.below hal) k old hk hn)
  have HIE := Lib.hid (fun e => esize e)
  have HON := Lib.hid (fun e => BEC_one e)
  have HW0 := Lib.hid hW0
  have HRT := Lib.hid hrt
  have HB := Lib.hid h
  have hkl0 : k < es.length := (List.getElem?_eq_some_iff.1 hk).1
  have hce := h.h1
  have HKO := Lib.hid hk
  have zW := (Array.getElem?_eq_some_iff.1 hnew).1
  clear hW0 hrt h
  go_enter Try.func25, Try.ntmps25
  go_upto_region 1 with (fail)
  rw [HW0.out]
  go_wp2_with fail
  refine HG.out.mono ?_
  rintro x w1 ⟨rfl, hB1⟩
  have hB2 := hal.trans (hB1.mono hal.size)
  obtain ⟨W2, hW2⟩ : ∃ W2, w1.alloc (.cells (BEC old) 46) = W2 := ⟨_, rfl⟩
  have hbb : Below w1.heap.size w1 W2 := by rw [← hW2]; exact (Below.refl w1.heap.size w1).alloc (Nat.le_refl _) _
  have hO2 : Below w.heap.size w W2 := hB2.trans (hbb.mono hB2.size)
  have hE2 := (hbb.block w.heap.size (by have := hB1.size; omega)).trans ((hB1.block w.heap.size zW).trans hnew)
  have hD2 : W2.heap[w1.heap.size]? = some (.cells (BEC old) 46 (0, 0)) := by rw [← hW2]; exact heap_alloc_new w1 _
  have HW2 := Lib.hid hW2
  have HE2 := Lib.hid hE2
  have HD2 := Lib.hid hD2
  have z2 := (Array.getElem?_eq_some_iff.1 hD2).1
  have z1 := hB1.size
  clear hal hnew hB1 hW2 hE2 hD2 hbb hB2 HG hk
  generalize hC : BEC e = C at *
  have HC := Lib.hid hC
  clear hC
  go_upto_region 2 with (refine wpList_store_row rfl 46 _ _ rfl w1.heap.size (BEC old) rfl rfl 46 (BEC BE.zero) (heap_alloc_new w1 _) (HIE.out _) rfl (HON.out _) ?_; rw [World.setRow_alloc_new])
  rw [HW2.out]
  clear HW2
  go_wp2
  have HIC : Hid ((Try.prog.info? 46).map (·.size) = some C.size) := Lib.hid (by rw [← HC.out]; exact HIE.out _)
  have HRC := HRT
  refine wp_region_conf2 7 [Fact.eq ?rax0, Fact.eq ?rax1, Fact.eq ?rax2, Fact.eq ?rax3, Fact.eq (.agg (GC g)), Fact.eq ?rax5, Fact.eq ?rax6] ?raA (by kernel_rfl) (by kernel_rfl) ?rahA ?raho ?rahend
  case rahA =>
    intro vv
    simp only [putRules, Nat.reduceAdd]
    rfl
  case raho =>
    refine ⟨?_, ?_, ?_, ?_, ?_, ?_, ?_, trivial⟩
    · intro vv W K hB hd HK
      simp only [confRules] at HK
      clear hd
      have hT := (hB.block w.heap.size (by omega)).trans HE2.out
      go_wp2_with (refine wpList_row_on (by rfl) 46 _ rfl w.heap.size rfl 46 _ _ _ hT Try.underlying46 rfl HIC.out ?_)
      refine HK.out _ _ (Below.refl _ _) ?_
      rfl
    · intro vv W K hB hd HK
      simp only [confRules] at HK
      clear hd
      go_wp2
      refine HK.out _ _ (Below.refl _ _) ?_
      rfl
    · intro vv W K hB hd HK
      simp only [confRules] at hd HK
      have h1 := hd
      clear hd
      simp only [h1] at HK ⊢
      clear h1
      go_wp2
      refine HK.out _ _ (Below.refl _ _) ?_
      rfl
    · intro vv W K hB hd HK
      simp only [confRules] at hd HK
      have h2 := hd
      clear hd
      simp only [h2] at HK ⊢
      clear h2
      go_wp2
      refine HK.out _ _ (Below.refl _ _) ?_
      rfl
    · intro vv W K hB hd HK
      simp only [confRules] at hd HK
      have h3 := hd
      clear hd
      simp only [h3] at HK ⊢
      clear h3
      have hbA := HB.out.below (hO2.trans (hB.mono hO2.size))
      obtain ⟨c0, c1, c2, c3, c4, c5⟩ := hbA.geo
      clear hbA
      go_wp2
      refine HK.out _ _ (Below.refl _ _) ?_
      rfl
    · intro vv W K hB hd HK
      simp only [confRules] at hd HK
      obtain ⟨h0, h4⟩ := hd
      simp only [h0, h4] at HK ⊢
      clear h0 h4
      go_wp2_with (refine (HRC.out _).mono ?_; rintro e w9 ⟨rfl, hB9⟩)
      refine HK.out _ _ hB9 ?_
      rfl
    · intro vv W K hB hd HK
      simp only [confRules] at hd HK
      have h5 := hd
      clear hd
      simp only [h5] at HK ⊢
      clear h5
      go_wp2
      refine HK.out _ _ (Below.refl _ _) ?_
      rfl
  case rahend =>
    intro vv W hB hf
    have e6 := hf 6 (by decide)
    simp only [endRules] at e6
    simp only [e6, dropRules]
    clear hf e6
    go_wp2
    go_ret
    exact ⟨rfl, hO2.trans (hB.mono hO2.size)⟩
set_option maxRecDepth 100000 in
set_option maxHeartbeats 4000000 in
theorem bset_ok (w : World) (p le ll ce cl : Nat) (g : Geo.G) (es : List BE) (lv : List Int) (h : BmIs w p le ll ce cl g es lv) (k : Nat) (e old : BE) (hk : es[k]? = some old) (hn : es.length ≤ 100000) (lv1 lv2 : List Int) (hrt : ∀ W, Calls Try.prog 54 #[.agg (BEC e), .agg (GC g)] W fun x w' => x = .returned (.bool true) ∧ Below W.heap.size W w')
    (hc1 : ∀ W, BmIs W p le ll ce cl g es lv → Calls Try.prog 55 #[.pointer (some ⟨p, 0, none⟩), .agg (BEC old), .int .i64 (-1)] W fun x w' => (∃ v, x = .returned v) ∧ BmIs w' p le ll ce cl g es lv1 ∧ Only [ll] W w')
    (hc2 : ∀ W, BmIs W p le ll ce cl g es lv1 → Calls Try.prog 55 #[.pointer (some ⟨p, 0, none⟩), .agg (BEC e), .int .i64 1] W fun x w' => (∃ v, x = .returned v) ∧ BmIs w' p le ll ce cl g es lv2 ∧ Only [ll] W w') :
    Calls Try.prog 25 #[.pointer (some ⟨p, 0, none⟩), .int .i64 (k : Nat), .agg (BEC e)] w fun x w' => x = .returned (.int .i64 0) ∧ BmIs w' p le ll ce cl g (es.set k e) lv2 ∧ Only [le, ll] w w' := by
  have hz := (zero_of_info Try.infoEnt).1
  have hal := (Below.refl w.heap.size w).alloc (Nat.le_refl _) (.cells (BEC e) 46)
  have hnew := heap_alloc_new w (.cells (BEC e) 46)
  obtain ⟨W0, hW0⟩ : ∃ W0, w.alloc (.cells (BEC e) 46) = W0 := ⟨_, rfl⟩
  rw [hW0] at hal hnew
  have HG := Lib.hid (bget_in _ p le ll ce cl g es lv (h.below hal) k old hk hn)
  have HIE := Lib.hid (fun e => esize e)
  have HON := Lib.hid (fun e => BEC_one e)
  have HW0 := Lib.hid hW0
  have HRT := Lib.hid hrt
  have HB := Lib.hid h
  have hkl0 : k < es.length := (List.getElem?_eq_some_iff.1 hk).1
  have hce := h.h1
  have HKO := Lib.hid hk
  have zW := (Array.getElem?_eq_some_iff.1 hnew).1
  clear hW0 hrt h
  go_enter Try.func25, Try.ntmps25
  go_upto_region 1 with (fail)
  rw [HW0.out]
  go_wp2_with fail
  refine HG.out.mono ?_
  rintro x w1 ⟨rfl, hB1⟩
  have hB2 := hal.trans (hB1.mono hal.size)
  obtain ⟨W2, hW2⟩ : ∃ W2, w1.alloc (.cells (BEC old) 46) = W2 := ⟨_, rfl⟩
  have hbb : Below w1.heap.size w1 W2 := by rw [← hW2]; exact (Below.refl w1.heap.size w1).alloc (Nat.le_refl _) _
  have hO2 : Below w.heap.size w W2 := hB2.trans (hbb.mono hB2.size)
  have hE2 := (hbb.block w.heap.size (by have := hB1.size; omega)).trans ((hB1.block w.heap.size zW).trans hnew)
  have hD2 : W2.heap[w1.heap.size]? = some (.cells (BEC old) 46 (0, 0)) := by rw [← hW2]; exact heap_alloc_new w1 _
  have HW2 := Lib.hid hW2
  have HE2 := Lib.hid hE2
  have HD2 := Lib.hid hD2
  have z2 := (Array.getElem?_eq_some_iff.1 hD2).1
  have z1 := hB1.size
  clear hal hnew hB1 hW2 hE2 hD2 hbb hB2 HG hk
  generalize hC : BEC e = C at *
  have HC := Lib.hid hC
  clear hC
  go_upto_region 2 with (refine wpList_store_row rfl 46 _ _ rfl w1.heap.size (BEC old) rfl rfl 46 (BEC BE.zero) (heap_alloc_new w1 _) (HIE.out _) rfl (HON.out _) ?_; rw [World.setRow_alloc_new])
  rw [HW2.out]
  clear HW2
  go_wp2
  have HIC : Hid ((Try.prog.info? 46).map (·.size) = some C.size) := Lib.hid (by rw [← HC.out]; exact HIE.out _)
  have HRC := HRT
  refine wp_region_conf2 7 [Fact.eq ?rax0, Fact.eq ?rax1, Fact.eq ?rax2, Fact.eq ?rax3, Fact.eq (.agg (GC g)), Fact.eq ?rax5, Fact.eq ?rax6] ?raA (by kernel_rfl) (by kernel_rfl) ?rahA ?raho ?rahend
  case rahA =>
    intro vv
    simp only [putRules, Nat.reduceAdd]
    rfl
  case raho =>
    refine ⟨?_, ?_, ?_, ?_, ?_, ?_, ?_, trivial⟩
    · intro vv W K hB hd HK
      simp only [confRules] at HK
      clear hd
      have hT := (hB.block w.heap.size (by omega)).trans HE2.out
      go_wp2_with (refine wpList_row_on (by rfl) 46 _ rfl w.heap.size rfl 46 _ _ _ hT Try.underlying46 rfl HIC.out ?_)
      refine HK.out _ _ (Below.refl _ _) ?_
      rfl
    · intro vv W K hB hd HK
      simp only [confRules] at HK
      clear hd
      go_wp2
      refine HK.out _ _ (Below.refl _ _) ?_
      rfl
    · intro vv W K hB hd HK
      simp only [confRules] at hd HK
      have h1 := hd
      clear hd
      simp only [h1] at HK ⊢
      clear h1
      go_wp2
      refine HK.out _ _ (Below.refl _ _) ?_
      rfl
    · intro vv W K hB hd HK
      simp only [confRules] at hd HK
      have h2 := hd
      clear hd
      simp only [h2] at HK ⊢
      clear h2
      go_wp2
      refine HK.out _ _ (Below.refl _ _) ?_
      rfl
    · intro vv W K hB hd HK
      simp only [confRules] at hd HK
      have h3 := hd
      clear hd
      simp only [h3] at HK ⊢
      clear h3
      have hbA := HB.out.below (hO2.trans (hB.mono hO2.size))
      obtain ⟨c0, c1, c2, c3, c4, c5⟩ := hbA.geo
      clear hbA
      go_wp2
      refine HK.out _ _ (Below.refl _ _) ?_
      rfl
    · intro vv W K hB hd HK
      simp only [confRules] at hd HK
      obtain ⟨h0, h4⟩ := hd
      simp only [h0, h4] at HK ⊢
      clear h0 h4
      go_wp2_with (refine (HRC.out _).mono ?_; rintro e w9 ⟨rfl, hB9⟩)
      refine HK.out _ _ hB9 ?_
      rfl
    · intro vv W K hB hd HK
      simp only [confRules] at hd HK
      have h5 := hd
      clear hd
      simp only [h5] at HK ⊢
      clear h5
      go_wp2
      refine HK.out _ _ (Below.refl _ _) ?_
      rfl
  case rahend =>
    intro vv W hB hf
    have e6 := hf 6 (by decide)
    simp only [endRules] at e6
    simp only [e6, dropRules]
    clear hf e6
    have hb4 := HB.out.below (hO2.trans (hB.mono hO2.size))
    have hOa : Only [le, ll] w W := Only.of_below (hO2.trans (hB.mono hO2.size))
    have hD4 := (hB.block w1.heap.size z2).trans HD2.out
    have hE4 := (hB.block w.heap.size (by omega)).trans HE2.out
    obtain ⟨hl1, hl2, hl3⟩ := HB.out.lt
    have HC1 := Lib.hid (hc1 W hb4)
    have HC2 := Lib.hid hc2
    have zW4 := hB.size
    clear hc1 hc2 hb4 hB hO2
    go_wp2_with (refine wpList_row_on (by rfl) 46 _ rfl w1.heap.size rfl 46 _ _ _ hD4 Try.underlying46 rfl (HIE.out _) ?_)
    refine HC1.out.mono ?_
    rintro x w5 ⟨⟨v5, rfl⟩, hb5, hO5⟩
    have hE5 := hO5.get hE4 (by simp; omega)
    have HC3 := Lib.hid (HC2.out w5 hb5)
    have hOb := hOa.trans (hO5.mono (T := [le, ll]) (by simp))
    have z5 := hO5.size
    clear hb5 hO5 hOa HC1 HC2 hE4 hD4
    go_wp2_with (refine wpList_row_on (by rfl) 46 _ rfl w.heap.size rfl 46 _ _ _ hE5 Try.underlying46 rfl HIC.out ?_)
    refine HC3.out.mono ?_
    rintro x w6 ⟨⟨v6, rfl⟩, hb6, hO6⟩
    have hE6 := hO6.get hE5 (by simp; omega)
    have hOc := hOb.trans (hO6.mono (T := [le, ll]) (by simp))
    have z6 := hO6.size
    have HB6 := Lib.hid hb6
    have HE6 := Lib.hid hE6
    clear hb6 hO6 hE6 hE5 hOb
    go_wp2
    have hkl : k < es.length := hkl0
    refine wp_region_conf2 7 [Fact.eq ?rbx0, Fact.eq ?rbx1, Fact.eq ?rbx2, Fact.eq ?rbx3, Fact.eq ?rbx4, Fact.eq ?rbx5, Fact.eq ?rbx6] ?rbA (by kernel_rfl) (by kernel_rfl) ?rbhA ?rbho ?rbhend
    case rbhA =>
      intro vv
      simp only [putRules, Nat.reduceAdd]
      rfl
    case rbho =>
      refine ⟨?_, ?_, ?_, ?_, ?_, ?_, ?_, trivial⟩
      · intro vv W K hB hd HK
        simp only [confRules] at HK
        clear hd
        go_wp2
        refine HK.out _ _ (Below.refl _ _) ?_
        rfl
      · intro vv W K hB hd HK
        simp only [confRules] at hd HK
        have h0 := hd
        clear hd
        simp only [h0] at HK ⊢
        clear h0
        go_wp2
        refine HK.out _ _ (Below.refl _ _) ?_
        rfl
      · intro vv W K hB hd HK
        simp only [confRules] at hd HK
        have h1 := hd
        clear hd
        simp only [h1] at HK ⊢
        clear h1
        go_wp2
        refine HK.out _ _ (Below.refl _ _) ?_
        rfl
      · intro vv W K hB hd HK
        simp only [confRules] at hd HK
        have h2 := hd
        clear hd
        simp only [h2] at HK ⊢
        clear h2
        have hbA := HB6.out.below hB
        obtain ⟨c6, c7⟩ := hbA.cells
        clear hbA
        go_wp2
        refine HK.out _ _ (Below.refl _ _) ?_
        rfl
      · intro vv W K hB hd HK
        simp only [confRules] at HK
        clear hd
        go_wp2
        refine HK.out _ _ (Below.refl _ _) ?_
        rfl
      · intro vv W K hB hd HK
        simp only [confRules] at HK
        clear hd
        have hT := (hB.block w.heap.size (by omega)).trans HE6.out
        go_wp2_with (refine wpList_row_on (by rfl) 46 _ rfl w.heap.size rfl 46 _ _ _ hT Try.underlying46 rfl HIC.out ?_)
        refine HK.out _ _ (Below.refl _ _) ?_
        rfl
      · intro vv W K hB hd HK
        simp only [confRules] at hd HK
        obtain ⟨h3, h4, h0, h1, h2, _, _, h5⟩ := hd
        simp only [h3, h4, h0, h1, h2, h5] at HK ⊢
        clear h3 h4 h0 h1 h2 h5
        go_wp2
        refine HK.out _ _ (Below.refl _ _) ?_
        rfl
    case rbhend =>
      intro vv W hB hf
      have e5 := hf 5 (by decide)
      have e6 := hf 6 (by decide)
      simp only [endRules] at e5 e6
      simp only [e5, e6, dropRules]
      clear hf e5 e6
      have hb8 := HB6.out.below hB
      obtain ⟨e0, e1, e2, e3, e4, e5⟩ := hb8.ent HKO.out
      have hfz := hb8.ent_free
      have hpe := hb8.putE hkl0 e
      have hOd := (hOc.trans (Only.of_below hB)).trans ((putE_only W le k e).mono (T := [le, ll]) (by simp))
      obtain ⟨f0, f1, f2, f3, f4, f5⟩ : W.frozen? ⟨le, k * 6, none⟩ = false ∧ W.frozen? ⟨le, k * 6 + 1, none⟩ = false ∧ W.frozen? ⟨le, k * 6 + 2, none⟩ = false ∧ W.frozen? ⟨le, k * 6 + 3, none⟩ = false ∧ W.frozen? ⟨le, k * 6 + 4, none⟩ = false ∧ W.frozen? ⟨le, k * 6 + 5, none⟩ = false := ⟨hfz _, hfz _, hfz _, hfz _, hfz _, hfz _⟩
      have HPE := Lib.hid hpe
      have HOD := Lib.hid hOd
      rw [← HC.out]
      clear hb8 hfz hpe hOd
      unfold BEC
      go_wp2
      go_ret
      exact ⟨rfl, HPE.out, HOD.out⟩
end Go.Proofs.Ytjnneoejnpephaa
namespace Go.Proofs.Ytjnneoejnpephaa
open Go.RowKit Go.Rv
set_option linter.unusedVariables false
theorem bcnt_any (w : World) (p le ll ce cl : Nat) (g : Geo.G) (es : List BE) (lv : List Int) (h : BmIs w p le ll ce cl g es lv) (e : BE) (b : Int) (hz : ZOk lv.length e) (hb : -1 ≤ b ∧ b ≤ 1) (hv : ∀ x ∈ lv, -99999 ≤ x ∧ x ≤ 99999) (hn : lv.length ≤ 100000) :
    Calls Try.prog 55 #[.pointer (some ⟨p, 0, none⟩), .agg (BEC e), .int .i64 b] w fun x w' => (∃ v, x = .returned v) ∧ BmIs w' p le ll ce cl g es (addE lv e b) ∧ Only [ll] w w' := by
  by_cases h1 : e.st = 1
  · obtain ⟨⟨hz1, hz2⟩, ⟨hm1, hm2⟩, hne⟩ := hz h1
    obtain ⟨st, z, m, o, q, s⟩ := e
    simp only at h1 hz1 hz2 hm1 hm2
    subst h1
    obtain ⟨z, rfl⟩ := Int.eq_ofNat_of_zero_le hz1
    obtain ⟨m, rfl⟩ := Int.eq_ofNat_of_zero_le hm1
    have hzl : z < lv.length := by omega
    have hml : m < lv.length := by omega
    have ex : lv[z]? = some lv[z] := List.getElem?_eq_getElem hzl
    have hx := hv lv[z] (List.getElem_mem hzl)
    have hml' : m < (lv.set z (lv[z] + b)).length := by rw [List.length_set]; exact hml
    have ey : (lv.set z (lv[z] + b))[m]? = some (lv.set z (lv[z] + b))[m] := List.getElem?_eq_getElem hml'
    have hy : -100000 ≤ (lv.set z (lv[z] + b))[m] ∧ (lv.set z (lv[z] + b))[m] ≤ 100000 := by
      rw [List.getElem_set]
      split
      · omega
      · have := hv lv[m] (List.getElem_mem hml)
        omega
    have ha : addE lv ⟨1, (z : Nat), (m : Nat), o, q, s⟩ b = (lv.set z (lv[z] + b)).set m ((lv.set z (lv[z] + b))[m] + b) := by
      unfold addE
      rw [if_pos rfl]
      simp only [Int.toNat_natCast]
      rw [show lv.getD z 0 = lv[z] by rw [List.getD_eq_getElem?_getD, ex]; rfl, show (lv.set z (lv[z] + b)).getD m 0 = (lv.set z (lv[z] + b))[m] by rw [List.getD_eq_getElem?_getD, ey]; rfl]
    rw [ha]
    exact bcnt_yes w p le ll ce cl g es lv h z m o q s b _ _ ex ey hb ⟨by omega, by omega⟩ hy hn
  · have ha : addE lv e b = lv := if_neg h1
    rw [ha]
    refine (bcnt_no w p e b (by simpa using h1)).mono ?_
    rintro x w' ⟨hx, hB⟩
    exact ⟨hx, h.below hB, Only.of_below hB⟩
/-- what Set answers, and what it leaves -/
def setErr (g : Geo.G) (es : List BE) (k : Int) (e : BE) : Int := if k < 0 ∨ (es.length : Int) ≤ k then 13 else if beRight g e = true then 0 else 10
def setEs (g : Geo.G) (es : List BE) (k : Int) (e : BE) : List BE := if k < 0 ∨ (es.length : Int) ≤ k then es else if beRight g e = true then es.set k.toNat e else es
def nz (g : Geo.G) : Nat := (g.d * g.z).toNat
theorem setEs_ok {g : Geo.G} {es : List BE} (h : MapOk g es) {e : BE} (hn : E64 e) (k : Int) : MapOk g (setEs g es k e) := by
  unfold setEs
  split
  · exact h
  · split
    · exact h.set (by assumption) hn _
    · exact h
theorem setEs_length (g : Geo.G) (es : List BE) (k : Int) (e : BE) : (setEs g es k e).length = es.length := by
  unfold setEs
  split
  · rfl
  · split
    · simp
    · rfl
theorem bset_any (w : World) (p le ll ce cl : Nat) (g : Geo.G) (es : List BE) (hr : Geo.right g = true) (hM : MapOk g es) (h : BmIs w p le ll ce cl g es (liveL (nz g) es)) (k : Int) (e : BE) (hn : E64 e) :
    Calls Try.prog 25 #[.pointer (some ⟨p, 0, none⟩), .int .i64 k, .agg (BEC e)] w fun x w' => x = .returned (.int .i64 (setErr g es k e)) ∧ BmIs w' p le ll ce cl g (setEs g es k e) (liveL (nz g) (setEs g es k e)) ∧ Only [le, ll] w w' := by
  have hs := ((Geo.right_iff g).1 hr).1
  have hes : es.length ≤ 256 := by have h1 := hM.len; have h2 := hs.2.2.2.1.2; omega
  have hnz : nz g ≤ 512 := by have := (Geo.dz_bd hs).2; unfold nz; omega
  unfold setErr setEs
  by_cases hk : k < 0 ∨ (es.length : Int) ≤ k
  · rw [if_pos hk, if_pos hk]
    refine (bset_out w p le ll ce cl g es _ h k e hk).mono ?_
    rintro x w' ⟨hx, hB⟩
    exact ⟨hx, h.below hB, Only.of_below hB⟩
  · rw [if_neg hk, if_neg hk]
    obtain ⟨j, rfl⟩ : ∃ j : Nat, k = j := ⟨k.toNat, by omega⟩
    have hj : j < es.length := by omega
    have hold : es[j]? = some es[j] := List.getElem?_eq_getElem hj
    have hR := fun (W : World) => bright_any g e W hr hn
    cases hb : beRight g e
    · rw [hb] at hR
      simp only [Bool.false_eq_true, if_false]
      refine (bset_bad w p le ll ce cl g es _ h j e _ hold (by omega) hR).mono ?_
      rintro x w' ⟨hx, hB⟩
      exact ⟨hx, h.below hB, Only.of_below hB⟩
    · rw [hb] at hR
      simp only [if_true, Int.toNat_natCast]
      have ho : ZOk (nz g) es[j] := zok_of_right hs (hM.ok _ (List.getElem_mem hj)).1
      have he : ZOk (nz g) e := zok_of_right hs hb
      have hst := liveL_step hold ho he
      have hlv : ∀ x ∈ liveL (nz g) es, 0 ≤ x ∧ x ≤ 256 := fun x hx => by
        simp only [liveL, List.mem_map, List.mem_range] at hx
        obtain ⟨a, ha, rfl⟩ := hx
        have := liveN_le es a
        omega
      have hlv1 : ∀ x ∈ addE (liveL (nz g) es) es[j] (-1), -99999 ≤ x ∧ x ≤ 99999 := fun x hx => by
        obtain ⟨i, hi, rfl⟩ := List.getElem_of_mem hx
        have hi' : i < nz g := by rw [addE_length, liveL_length] at hi; exact hi
        have h1 := addE_at (b := -1) (liveL_length (nz g) es) ho hi'
        rw [List.getD_eq_getElem?_getD, List.getElem?_eq_getElem hi] at h1
        simp only [Option.getD_some] at h1
        have h2 : (liveL (nz g) es).getD i 0 = (liveN es i : Int) := by rw [List.getD_eq_getElem?_getD, liveL_at hi']; rfl
        have h3 := liveN_le es i
        rw [h1, h2]
        split <;> omega
      refine (bset_ok w p le ll ce cl g es _ h j e _ hold (by omega) (addE (liveL (nz g) es) es[j] (-1)) (liveL (nz g) (es.set j e)) hR (fun W hW => ?_) (fun W hW => ?_))
      · exact bcnt_any W p le ll ce cl g es _ hW es[j] (-1) (by rw [liveL_length]; exact ho) (by omega) (fun x hx => by have := hlv x hx; omega) (by rw [liveL_length]; omega)
      · have := bcnt_any W p le ll ce cl g es _ hW e 1 (by rw [addE_length, liveL_length]; exact he) (by omega) hlv1 (by rw [addE_length, liveL_length]; omega)
        rwa [hst] at this
end Go.Proofs.Ytjnneoejnpephaa
namespace Go.Rv
open Go.RowKit
/-- a fact with the blocks that it names -/
def Fact.of (Q : Value → World → Prop) (h : ∀ u w w', Q u w → Below w.heap.size w w' → Q u w') : Fact := ⟨Q, h⟩
end Go.Rv
namespace Go.Proofs.Ytjnneoejnpephaa
open Go.RowKit Go.Rv
set_option linter.unusedVariables false
def NewRow (B : Nat) (t : TypeId) (C : Array Value) (n : Nat) (u : Value) (w : World) : Prop := ∃ b, u = .slice (some ⟨b, 0, none⟩) n n ∧ B ≤ b ∧ w.heap[b]? = some (.cells C t (0, 0))
theorem NewRow.st (B : Nat) (t : TypeId) (C : Array Value) (n : Nat) (u : Value) (w w' : World) (h : NewRow B t C n u w) (hB : Below w.heap.size w w') : NewRow B t C n u w' := by
  obtain ⟨b, e, hge, hb⟩ := h
  exact ⟨b, e, hge, (hB.block b (Array.getElem?_eq_some_iff.1 hb).1).trans hb⟩
def NewMap (B : Nat) (g : Geo.G) (E L : Array Value) (n m : Nat) (u : Value) (w : World) : Prop := ∃ b c, u = .agg (mapC g b n n c m m) ∧ (B ≤ b ∧ B ≤ c) ∧ w.heap[b]? = some (.cells E 46 (0, 0)) ∧ w.heap[c]? = some (.cells L 3 (0, 0))
theorem NewMap.st (B : Nat) (g : Geo.G) (E L : Array Value) (n m : Nat) (u : Value) (w w' : World) (h : NewMap B g E L n m u w) (hB : Below w.heap.size w w') : NewMap B g E L n m u w' := by
  obtain ⟨b, c, e, hge, hb, hc⟩ := h
  exact ⟨b, c, e, hge, (hB.block b (Array.getElem?_eq_some_iff.1 hb).1).trans hb, (hB.block c (Array.getElem?_eq_some_iff.1 hc).1).trans hc⟩
def NewPtr (B : Nat) (g : Geo.G) (E L : Array Value) (n m : Nat) (u : Value) (w : World) : Prop := ∃ p b c, u = .pointer (some ⟨p, 0, none⟩) ∧ (B ≤ p ∧ B ≤ b ∧ B ≤ c) ∧ w.heap[p]? = some (.cells (mapC g b n n c m m) 110 (0, 0)) ∧ w.heap[b]? = some (.cells E 46 (0, 0)) ∧ w.heap[c]? = some (.cells L 3 (0, 0))
theorem NewPtr.st (B : Nat) (g : Geo.G) (E L : Array Value) (n m : Nat) (u : Value) (w w' : World) (h : NewPtr B g E L n m u w) (hB : Below w.heap.size w w') : NewPtr B g E L n m u w' := by
  obtain ⟨p, b, c, e, hge, hp, hb, hc⟩ := h
  exact ⟨p, b, c, e, hge, (hB.block p (Array.getElem?_eq_some_iff.1 hp).1).trans hp, (hB.block b (Array.getElem?_eq_some_iff.1 hb).1).trans hb, (hB.block c (Array.getElem?_eq_some_iff.1 hc).1).trans hc⟩
theorem newRules : (∀ B t C n u w, (Fact.of (NewRow B t C n) (NewRow.st B t C n)).p u w = NewRow B t C n u w) ∧ (∀ B g E L n m u w, (Fact.of (NewMap B g E L n m) (NewMap.st B g E L n m)).p u w = NewMap B g E L n m u w) ∧ (∀ B g E L n m u w, (Fact.of (NewPtr B g E L n m) (NewPtr.st B g E L n m)).p u w = NewPtr B g E L n m u w) :=
  ⟨fun _ _ _ _ _ _ => rfl, fun _ _ _ _ _ _ _ _ => rfl, fun _ _ _ _ _ _ _ _ => rfl⟩
theorem bec_zero_at : ∀ j, j < 6 → (BEC BE.zero)[j]! = .int .i64 0
  | 0, _ => rfl
  | 1, _ => rfl
  | 2, _ => rfl
  | 3, _ => rfl
  | 4, _ => rfl
  | 5, _ => rfl
  | n + 6, h => by omega
theorem flat_zero (n : Nat) : flatE (List.replicate n BE.zero) = List.replicate (n * 6) (.int .i64 0) := by
  induction n with
  | zero => rfl
  | succ n ih =>
    rw [List.replicate_succ]
    show (BEC BE.zero).toList ++ flatE (List.replicate n BE.zero) = _
    rw [ih, show (n + 1) * 6 = 6 + n * 6 by omega, ← List.replicate_append_replicate]
    rfl
theorem made_ents (n : Nat) : (madeCells (BEC BE.zero) (n * 6)).toList = flatE (List.replicate n BE.zero) := by
  rw [flat_zero, List.eq_replicate_iff]
  refine ⟨by simp [madeCells], fun v hv => ?_⟩
  simp only [madeCells, Array.toList_map, List.mem_map] at hv
  obtain ⟨x, -, rfl⟩ := hv
  exact bec_zero_at _ (Nat.mod_lt _ (by simp [BEC]))
theorem made_ints (n : Nat) : (madeCells #[.int .i64 0] n).toList = List.replicate n (.int .i64 0) := by
  rw [List.eq_replicate_iff]
  refine ⟨by simp [madeCells], fun v hv => ?_⟩
  simp only [madeCells, Array.toList_map, List.mem_map] at hv
  obtain ⟨x, -, rfl⟩ := hv
  simp [Nat.mod_one]
theorem live_zero (n b : Nat) : liveL n (List.replicate b BE.zero) = List.replicate n 0 := by
  apply List.ext_getElem?
  intro i
  by_cases h : i < n
  · rw [liveL_at h]
    have : liveN (List.replicate b BE.zero) i = 0 := by
      unfold liveN
      rw [List.filter_eq_nil_iff.2]
      · rfl
      · intro x hx
        rw [(List.mem_replicate.1 hx).2]
        simp [hits, BE.zero]
    rw [this]
    simp [h]
  · rw [List.getElem?_eq_none (by rw [liveL_length]; omega), List.getElem?_eq_none (by simp; omega)]
theorem mk_ents (n : Nat) (hn : n ≤ 1000) (w : World) : (Instr.makeSlice 108 (.int .i64 (n : Nat)) (.int .i64 (n : Nat))).run Try.prog w = .ok (.slice (some ⟨w.heap.size, 0, none⟩) n n) (w.alloc (.cells (madeCells (BEC BE.zero) (n * 6)) 46)) := by
  have hinfo : (Try.prog.info? 46).map (fun i => (i.zero, i.size, i.bytes)) = some (some (.agg (BEC BE.zero)), 6, 48) := by kernel_rfl
  obtain ⟨i, hi, hz, hs, hb⟩ := info_parts hinfo
  have := run_make (P := Try.prog) w 108 46 i (.agg (BEC BE.zero)) Try.underlying108 hi hz .i64 .i64 (n : Nat) (n : Nat) (by omega) (by omega) (by rw [hb]; omega) (by omega)
  rw [hs] at this
  simpa [Value.cells] using this
theorem mk_live (n : Nat) (hn : n ≤ 1000) (w : World) : (Instr.makeSlice 59 (.int .i64 (n : Nat)) (.int .i64 (n : Nat))).run Try.prog w = .ok (.slice (some ⟨w.heap.size, 0, none⟩) n n) (w.alloc (.cells (madeCells #[.int .i64 0] n) 3)) := by
  have hinfo : (Try.prog.info? 3).map (fun i => (i.zero, i.size, i.bytes)) = some (some (.int .i64 0), 1, 8) := by kernel_rfl
  exact run_make_row' 59 3 (.int .i64 0) 8 Try.underlying59 hinfo rfl .i64 .i64 n (by omega) (by omega) w
set_option maxRecDepth 100000 in
set_option maxHeartbeats 2000000 in
theorem bnew_no (g : Geo.G) (hr : Geo.right g = false) (w : World) :
    Calls Try.prog 44 #[.agg (GC g)] w fun x w' => x = .returned (.tuple #[.pointer none, .int .i64 20]) ∧ Below w.heap.size w w' := by
  have HR := Lib.hid (fun W => by have := gright_any g W; rwa [hr] at this)
  have HI := Lib.hid (gsize (g := g))
  have hal := (Below.refl w.heap.size w).alloc (Nat.le_refl _) (.cells (GC g) 23)
  have hnew := heap_alloc_new w (.cells (GC g) 23)
  clear hr
  generalize GC g = C at *
  go_enter Try.func44, Try.ntmps44
  go_wp2_with (refine wpList_row_on (by rfl) 23 _ rfl w.heap.size rfl 23 _ _ _ hnew Try.underlying23 rfl HI.out ?_)
  refine (HR.out _).mono ?_
  rintro e w1 ⟨rfl, hB1⟩
  have hB2 := hal.trans (hB1.mono hal.size)
  go_wp2
  go_ret2
  exact ⟨rfl, hB2⟩
set_option maxRecDepth 100000 in
set_option maxHeartbeats 800000 in
theorem bnew_core (g : Geo.G) (n m : Nat) (hn : n ≤ 1000) (hm : m ≤ 1000) (hbn : g.b = n) (hr : Geo.right g = true) (HAL : ∀ W, Calls Try.prog 50 #[.agg (GC g)] W fun e w' => e = .returned (.int .i64 (m : Nat)) ∧ Below W.heap.size W w') (w : World) :
    Calls Try.prog 44 #[.agg (GC g)] w fun x w' => ∃ p, x = .returned (.tuple #[p, .int .i64 0]) ∧ NewPtr w.heap.size g (madeCells (BEC BE.zero) (n * 6)) (madeCells #[.int .i64 0] m) n m p w' ∧ Below w.heap.size w w' := by
  have HR := Lib.hid (fun W => by have := gright_any g W; rwa [hr] at this)
  have HI := Lib.hid (gsize (g := g))
  have HAL := Lib.hid HAL
  have M1 := Lib.hid (fun W => mk_ents n hn W)
  have M2 := Lib.hid (fun W => mk_live m hm W)
  have hal := (Below.refl w.heap.size w).alloc (Nat.le_refl _) (.cells (GC g) 23)
  have hnew := heap_alloc_new w (.cells (GC g) 23)
  have HCS := Lib.hid (fun (W : World) (b : Nat) (hh : W.heap[b]? = some (.cells (GC g) 23 (0, 0))) => by have := (geo_cells hh).2.2.2.1; rwa [hbn] at this)
  have HMC := Lib.hid (fun b c => (rfl : mapC g b n n c m m = mapC g b n n c m m))
  clear hr hbn
  obtain ⟨W0, hW0⟩ : ∃ W0, w.alloc (.cells (GC g) 23) = W0 := ⟨_, rfl⟩
  rw [hW0] at hal hnew
  have HW0 := Lib.hid hW0
  have z0 := (Array.getElem?_eq_some_iff.1 hnew).1
  clear hW0
  generalize hE : madeCells (BEC BE.zero) (n * 6) = E at *
  generalize hL : madeCells #[.int .i64 0] m = L at *
  clear hE hL
  go_enter Try.func44, Try.ntmps44
  go_upto_region 1 with (fail)
  rw [HW0.out]
  go_wp2_with (refine wpList_row_on (by rfl) 23 _ rfl w.heap.size rfl 23 _ _ _ hnew Try.underlying23 rfl HI.out ?_)
  refine (HR.out _).mono ?_
  rintro e w1 ⟨rfl, hB1⟩
  have hB2 := hal.trans (hB1.mono hal.size)
  have hg1 := (hB1.block w.heap.size z0).trans hnew
  have HG1 := Lib.hid hg1
  have z1 := hB1.size
  clear hal hnew hg1 hB1
  go_wp2
  refine wp_region_conf2 9 [Fact.eq ?rax0, Fact.eq ?rax1, Fact.eq ?rax2, Fact.of (NewRow w.heap.size 46 E n) (NewRow.st w.heap.size 46 E n), Fact.eq ?rax4, Fact.eq ?rax5, Fact.of (NewRow w.heap.size 3 L m) (NewRow.st w.heap.size 3 L m), Fact.of (NewMap w.heap.size g E L n m) (NewMap.st w.heap.size g E L n m), Fact.of (NewPtr w.heap.size g E L n m) (NewPtr.st w.heap.size g E L n m)] ?raA (by kernel_rfl) (by kernel_rfl) ?rahA ?raho ?rahend
  case rahA =>
    intro vv
    simp only [putRules, Nat.reduceAdd]
    rfl
  case raho =>
    refine ⟨?_, ?_, ?_, ?_, ?_, ?_, ?_, ?_, ?_, trivial⟩
    · intro vv W K hB hd HK
      simp only [confRules] at HK
      clear hd
      have hT := (hB.block w.heap.size (by omega)).trans HG1.out
      go_wp2_with (refine wpList_row_on (by rfl) 23 _ rfl w.heap.size rfl 23 _ _ _ hT Try.underlying23 rfl HI.out ?_)
      refine HK.out _ _ (Below.refl _ _) ?_
      rfl
    · intro vv W K hB hd HK
      simp only [confRules] at HK
      clear hd
      go_wp2
      refine HK.out _ _ (Below.refl _ _) ?_
      rfl
    · intro vv W K hB hd HK
      simp only [confRules] at hd HK
      have h1 := hd
      clear hd
      simp only [h1] at HK ⊢
      clear h1
      have hT := (hB.block w.heap.size (by omega)).trans HG1.out
      have k3 := HCS.out _ _ hT
      go_wp2
      refine HK.out _ _ (Below.refl _ _) ?_
      rfl
    · intro vv W K hB hd HK
      simp only [confRules, newRules] at hd HK
      obtain ⟨h2, _⟩ := hd
      simp only [h2] at HK ⊢
      clear h2
      have hmk := M1.out
      go_wp2
      refine HK.out _ _ ((Below.refl _ _).alloc (Nat.le_refl _) _) ?_
      exact ⟨_, rfl, (by have := hB.size; omega), heap_alloc_new _ _⟩
    · intro vv W K hB hd HK
      simp only [confRules] at HK
      clear hd
      have hT := (hB.block w.heap.size (by omega)).trans HG1.out
      go_wp2_with (refine wpList_row_on (by rfl) 23 _ rfl w.heap.size rfl 23 _ _ _ hT Try.underlying23 rfl HI.out ?_)
      refine HK.out _ _ (Below.refl _ _) ?_
      rfl
    · intro vv W K hB hd HK
      simp only [confRules] at hd HK
      have h4 := hd
      clear hd
      simp only [h4] at HK ⊢
      clear h4
      go_wp2_with (refine (HAL.out _).mono ?_; rintro e w9 ⟨rfl, hB9⟩)
      refine HK.out _ _ hB9 ?_
      rfl
    · intro vv W K hB hd HK
      simp only [confRules, newRules] at hd HK
      obtain ⟨h5, _⟩ := hd
      simp only [h5] at HK ⊢
      clear h5
      have hmk := M2.out
      go_wp2
      refine HK.out _ _ ((Below.refl _ _).alloc (Nat.le_refl _) _) ?_
      exact ⟨_, rfl, (by have := hB.size; omega), heap_alloc_new _ _⟩
    · intro vv W K hB hd HK
      simp only [confRules, newRules] at hd HK
      obtain ⟨h0, ⟨g3, h3, a3, b3⟩, ⟨g6, h6, a6, b6⟩⟩ := hd
      simp only [h0, h3, h6] at HK ⊢
      clear h0 h3 h6
      unfold GC
      go_wp2
      refine HK.out _ _ (Below.refl _ _) ?_
      exact ⟨_, _, rfl, ⟨a3, a6⟩, b3, b6⟩
    · intro vv W K hB hd HK
      simp only [confRules, newRules] at hd HK
      obtain ⟨q1, q2, h7, ⟨a7, a8⟩, p1, p2⟩ := hd
      simp only [h7] at HK ⊢
      clear h7
      go_wp2
      refine HK.out _ _ ((Below.refl _ _).alloc (Nat.le_refl _) _) ?_
      have hbb := (Below.refl W.heap.size W).alloc (Nat.le_refl _) (.cells (mapC g q1 n n q2 m m) 110)
      exact ⟨_, _, _, rfl, ⟨(by have := hB.size; omega), a7, a8⟩, heap_alloc_new _ _, (hbb.block _ (Array.getElem?_eq_some_iff.1 p1).1).trans p1, (hbb.block _ (Array.getElem?_eq_some_iff.1 p2).1).trans p2⟩
  case rahend =>
    intro vv W hB hf
    have hp := hf 8 (by decide)
    simp only [endRules, newRules] at hp
    simp only [dropRules]
    clear hf
    go_wp2
    go_ret2
    exact ⟨_, rfl, hp, hB2.trans (hB.mono hB2.size)⟩
theorem bnew_any (g : Geo.G) (hr : Geo.right g = true) (w : World) :
    Calls Try.prog 44 #[.agg (GC g)] w fun x w' => ∃ p le ll, x = .returned (.tuple #[.pointer (some ⟨p, 0, none⟩), .int .i64 0]) ∧ BmIs w' p le ll g.b.toNat (nz g) g (List.replicate g.b.toNat BE.zero) (liveL (nz g) (List.replicate g.b.toNat BE.zero)) ∧ w.heap.size ≤ p ∧ w.heap.size ≤ le ∧ w.heap.size ≤ ll ∧ Below w.heap.size w w' := by
  have hs := ((Geo.right_iff g).1 hr).1
  obtain ⟨hb1, hb2⟩ := hs.2.2.2.1
  obtain ⟨hd1, hd2⟩ := Geo.dz_bd hs
  have hnz : ((nz g : Nat) : Int) = g.d * g.z := by unfold nz; omega
  refine (bnew_core g g.b.toNat (nz g) (by omega) (by omega) (by omega) hr (fun W => by rw [hnz]; exact gall_any g W hs) w).mono ?_
  rintro x w' ⟨v, rfl, ⟨p, b, c, rfl, ⟨h1, h2, h3⟩, hp, hb, hc⟩, hB⟩
  refine ⟨p, b, c, rfl, ⟨?_, ⟨_, hb, ?_⟩, ⟨_, hc, ?_⟩, ?_, ?_⟩, h1, h2, h3, hB⟩
  · rw [List.length_replicate, liveL_length]
    exact hp
  · rw [List.length_replicate, made_ents, List.take_of_length_le (by rw [flatE_length, List.length_replicate]; omega)]
  · rw [live_zero, List.length_replicate, made_ints, List.take_of_length_le (by simp), List.map_replicate]
  · rw [List.length_replicate]
    exact ⟨Nat.le_refl _, by omega⟩
  · rw [liveL_length]
    exact ⟨Nat.le_refl _, by omega⟩
theorem mapOk_new (g : Geo.G) (hr : Geo.right g = true) : MapOk g (List.replicate g.b.toNat BE.zero) := by
  have hs := ((Geo.right_iff g).1 hr).1
  obtain ⟨hb1, hb2⟩ := hs.2.2.2.1
  refine ⟨by rw [List.length_replicate]; omega, fun e he => ?_⟩
  rw [(List.mem_replicate.1 he).2]
  exact ⟨zero_right g, rfl, rfl, rfl, rfl, rfl, rfl⟩
end Go.Proofs.Ytjnneoejnpephaa
