/- Proved here, one behind the other: Proved here: the contract of the geometry's Holds; Proved here: a map of blocks in memory; contracts of Geom, Get, Live and Count; Proved here: contracts of the map's Get and Geom; The law on drawn regions, its obligations' last premise hidden from the first: no long term is hidden by hand; Proved here: the contract of the map's count; Proved here: the contract of an entry's Right. -/
import Derived.LoopTactic
import Derived.Deep.Cut
import Derived.Test.YtoiephmngdecaaaQa
import Derived.Test.YtoiephmngdecaaaQb
namespace Go.Proofs.Ytoiephmngdecaaa
open Go.RowKit Go.Rv
set_option linter.unusedVariables false
/-- is there a sector? -/
def holdsG (g : Geo.G) (zone off : Int) : Bool := Geo.right g && (Geo.inB zone 0 (g.d * g.z - 1) && Geo.inB off 0 (g.s - 1))
set_option maxRecDepth 100000 in
set_option maxHeartbeats 1000000 in
theorem gholds_core (C : Array Value) (d z s zone off : Int) (r b1 b2 : Bool) (w : World) (hC : ∀ (W : World) (b : Nat), W.heap[b]? = some (.cells C 23 (0, 0)) → W.cell? ⟨b, 2, none⟩ = some (.int .i64 s)) (hI : (Try.prog.info? 23).map (·.size) = some C.size)
    (HR : ∀ W, Calls Try.prog 45 #[.agg C] W fun e w' => e = .returned (.bool r) ∧ Below W.heap.size W w')
    (HA : r = true → (∀ W, Calls Try.prog 46 #[.agg C] W fun e w' => e = .returned (.int .i64 (d * z)) ∧ Below W.heap.size W w') ∧ (1 ≤ d * z ∧ d * z ≤ 512) ∧ 1 ≤ s ∧ s ≤ 64)
    (h1 : ∀ W, Calls Try.prog 59 #[.int .i64 zone, .int .i64 0, .int .i64 (d * z - 1)] W fun e w' => e = .returned (.bool b1) ∧ W = w') (h2 : ∀ W, Calls Try.prog 59 #[.int .i64 off, .int .i64 0, .int .i64 (s - 1)] W fun e w' => e = .returned (.bool b2) ∧ W = w') :
    Calls Try.prog 40 #[.agg C, .int .i64 zone, .int .i64 off] w fun e w' => e = .returned (.bool (r && (b1 && b2))) ∧ Below w.heap.size w w' := by
  have HR := Lib.hid HR
  have HA := Lib.hid HA
  have H1 := Lib.hid h1
  have H2 := Lib.hid h2
  have HC := Lib.hid hC
  have HS := Lib.hid hI
  have hg := heap_alloc_new w (.cells C 23)
  have hB : Below w.heap.size w (w.alloc (.cells C 23)) := (Below.refl _ _).alloc (Nat.le_refl _) _
  clear h1 h2 hC hI
  go_enter Try.func40, Try.ntmps40
  go_wp2_with (refine wpList_row_on (by rfl) 23 _ rfl w.heap.size rfl 23 _ _ _ hg Try.underlying23 rfl HS.out ?_)
  refine (HR.out _).mono ?_
  rintro e w1 ⟨rfl, hB1⟩
  have hg1 := (hB1.block w.heap.size (by simp)).trans hg
  have hB2 := hB.trans (hB1.mono hB.size)
  have z1 := hB1.size
  rw [World.size_alloc] at z1
  clear hg hB hB1
  cases r
  · go_wp2
    go_ret
    exact ⟨rfl, hB2⟩
  · obtain ⟨ha, ⟨hd1, hd2⟩, hs1, hs2⟩ := HA.out rfl
    have HAA := Lib.hid ha
    clear ha HA
    go_wp2_with (refine wpList_row_on (by rfl) 23 _ rfl w.heap.size rfl 23 _ _ _ hg1 Try.underlying23 rfl HS.out ?_)
    refine (HAA.out _).mono ?_
    rintro e w2 ⟨rfl, hB3⟩
    have hg2 := (hB3.block w.heap.size (by omega)).trans hg1
    have hB4 := hB2.trans (hB3.mono hB2.size)
    have c2 := HC.out _ _ hg2
    clear hg1 hB2 hB3 hg2 z1
    generalize d * z = dz at *
    go_wp2_with fail
    refine (H1.out _).mono ?_
    rintro e w3 ⟨rfl, rfl⟩
    cases b1
    · go_wp2
      go_ret
      exact ⟨rfl, hB4⟩
    · go_wp2_with fail
      refine (H2.out _).mono ?_
      rintro e w3 ⟨rfl, rfl⟩
      go_wp2
      go_ret
      exact ⟨rfl, hB4⟩
theorem gholds_any (g : Geo.G) (zone off : Int) (w : World) :
    Calls Try.prog 40 #[.agg (GC g), .int .i64 zone, .int .i64 off] w fun e w' => e = .returned (.bool (holdsG g zone off)) ∧ Below w.heap.size w w' := by
  refine gholds_core (GC g) g.d g.z g.s zone off (Geo.right g) _ _ w (fun W b h => (geo_cells h).2.2.1) gsize (fun W => gright_any g W) (fun h => ?_) (fun W => gwithin_any zone 0 (g.d * g.z - 1) W) (fun W => gwithin_any off 0 (g.s - 1) W)
  have hs := ((Geo.right_iff g).1 h).1
  refine ⟨fun W => gall_any g W hs, ⟨by have := (Geo.dz_bd hs).1; omega, (Geo.dz_bd hs).2⟩, ?_, hs.2.2.1.2⟩
  have := hs.2.2.1.1
  omega
end Go.Proofs.Ytoiephmngdecaaa
namespace Go.Proofs.Ytoiephmngdecaaa
open Go.RowKit Go.Rv
set_option linter.unusedVariables false
/-- an entry -/
structure BE where
  st : Int
  z : Int
  m : Int
  o : Int
  q : Int
  s : Int
deriving DecidableEq
def BE.zero : BE := ⟨0, 0, 0, 0, 0, 0⟩
def BEC (e : BE) : Array Value := #[.int .i64 e.st, .int .i64 e.z, .int .i64 e.m, .int .i64 e.o, .int .i64 e.q, .int .i64 e.s]
theorem BEC_one (e : BE) : (BEC e).all (·.oneCell') = true := by simp [BEC, Value.oneCell']
theorem BEC_size (e : BE) : (BEC e).size = 6 := rfl
theorem BEC_inj {a b : BE} (h : BEC a = BEC b) : a = b := by
  obtain ⟨a0, a1, a2, a3, a4, a5⟩ := a
  obtain ⟨b0, b1, b2, b3, b4, b5⟩ := b
  simp [BEC] at h
  obtain ⟨rfl, rfl, rfl, rfl, rfl, rfl⟩ := h
  rfl
theorem Try.infoEnt : (Try.prog.info? 54).map (fun i => (i.zero, i.size)) = some (some (.agg (BEC BE.zero)), 6) := by kernel_rfl
theorem esize (e : BE) : (Try.prog.info? 54).map (·.size) = some (BEC e).size := by rw [BEC_size]; kernel_rfl
/-- entries, cell by cell -/
def flatE (es : List BE) : List Value := es.flatMap fun e => (BEC e).toList
theorem flatE_length (es : List BE) : (flatE es).length = es.length * 6 := by
  induction es with
  | nil => rfl
  | cons e es ih => simp only [flatE, List.flatMap_cons, List.length_append, List.length_cons] at ih ⊢; rw [ih]; simp [BEC]; omega
theorem flatE_at : ∀ (es : List BE) (k j : Nat) (e : BE), es[k]? = some e → j < 6 → (flatE es)[k * 6 + j]? = (BEC e)[j]?
  | [], k, j, e, h, _ => by simp at h
  | x :: es, 0, j, e, h, hj => by
    simp at h
    subst h
    show ((BEC x).toList ++ flatE es)[0 * 6 + j]? = _
    rw [List.getElem?_append_left (by simp [BEC]; omega)]
    simp
  | x :: es, k + 1, j, e, h, hj => by
    show ((BEC x).toList ++ flatE es)[(k + 1) * 6 + j]? = _
    rw [List.getElem?_append_right (by simp [BEC]; omega), show (k + 1) * 6 + j - (BEC x).toList.length = k * 6 + j by simp [BEC]; omega]
    exact flatE_at es k j e (by simpa using h) hj
/-- a map's own cells -/
def mapC (g : Geo.G) (le n ce ll m cl : Nat) : Array Value := #[.int .i64 g.d, .int .i64 g.z, .int .i64 g.s, .int .i64 g.b, .int .i64 g.p, .int .i64 g.o, .slice (some ⟨le, 0, none⟩) n ce, .slice (some ⟨ll, 0, none⟩) m cl]
/-- block p is a map: its entries lie in block le, its counts in block ll -/
structure BmIs (w : World) (p le ll ce cl : Nat) (g : Geo.G) (es : List BE) (lv : List Int) : Prop where
  hp : w.heap[p]? = some (.cells (mapC g le es.length ce ll lv.length cl) 117 (0, 0))
  he : ∃ Lc : Array Value, w.heap[le]? = some (.cells Lc 54 (0, 0)) ∧ Lc.toList.take (es.length * 6) = flatE es
  hl : ∃ Vc : Array Value, w.heap[ll]? = some (.cells Vc 3 (0, 0)) ∧ Vc.toList.take lv.length = lv.map (Value.int .i64)
  h1 : es.length ≤ ce ∧ ce ≤ 9223372036854775807
  h2 : lv.length ≤ cl ∧ cl ≤ 9223372036854775807
theorem BmIs.ne {w : World} {p le ll ce cl : Nat} {g : Geo.G} {es : List BE} {lv : List Int} (h : BmIs w p le ll ce cl g es lv) : p ≠ le ∧ p ≠ ll ∧ le ≠ ll := by
  obtain ⟨L, hL, -⟩ := h.he
  obtain ⟨V, hV, -⟩ := h.hl
  refine ⟨fun e => ?_, fun e => ?_, fun e => ?_⟩
  · subst e; have := hL.symm.trans h.hp; simp at this
  · subst e; have := hV.symm.trans h.hp; simp at this
  · subst e; have := hV.symm.trans hL; simp at this
theorem BmIs.lt {w : World} {p le ll ce cl : Nat} {g : Geo.G} {es : List BE} {lv : List Int} (h : BmIs w p le ll ce cl g es lv) : p < w.heap.size ∧ le < w.heap.size ∧ ll < w.heap.size := by
  obtain ⟨L, hL, -⟩ := h.he
  obtain ⟨V, hV, -⟩ := h.hl
  exact ⟨(Array.getElem?_eq_some_iff.1 h.hp).1, (Array.getElem?_eq_some_iff.1 hL).1, (Array.getElem?_eq_some_iff.1 hV).1⟩
theorem BmIs.only {S : List Nat} {w w' : World} {p le ll ce cl : Nat} {g : Geo.G} {es : List BE} {lv : List Int} (h : BmIs w p le ll ce cl g es lv) (hb : Only S w w') (hp : p ∉ S) (he : le ∉ S) (hl : ll ∉ S) : BmIs w' p le ll ce cl g es lv := by
  obtain ⟨L, hL, hL2⟩ := h.he
  obtain ⟨V, hV, hV2⟩ := h.hl
  exact ⟨hb.get h.hp hp, ⟨L, hb.get hL he, hL2⟩, ⟨V, hb.get hV hl, hV2⟩, h.h1, h.h2⟩
theorem BmIs.below {w w' : World} {p le ll ce cl : Nat} {g : Geo.G} {es : List BE} {lv : List Int} (h : BmIs w p le ll ce cl g es lv) (hb : Below w.heap.size w w') : BmIs w' p le ll ce cl g es lv :=
  h.only (Only.of_below (S := []) hb) (by simp) (by simp) (by simp)
/-- the map's cells: the two slices, and the geometry -/
theorem BmIs.cells {w : World} {p le ll ce cl : Nat} {g : Geo.G} {es : List BE} {lv : List Int} (h : BmIs w p le ll ce cl g es lv) :
    w.cell? ⟨p, 6, none⟩ = some (.slice (some ⟨le, 0, none⟩) es.length ce) ∧ w.cell? ⟨p, 7, none⟩ = some (.slice (some ⟨ll, 0, none⟩) lv.length cl) :=
  ⟨(cell_of_row _ _ _ _ _ _ h.hp).trans rfl, (cell_of_row _ _ _ _ _ _ h.hp).trans rfl⟩
theorem BmIs.geo {w : World} {p le ll ce cl : Nat} {g : Geo.G} {es : List BE} {lv : List Int} (h : BmIs w p le ll ce cl g es lv) :
    w.cell? ⟨p, 0, none⟩ = some (.int .i64 g.d) ∧ w.cell? ⟨p, 1, none⟩ = some (.int .i64 g.z) ∧ w.cell? ⟨p, 2, none⟩ = some (.int .i64 g.s) ∧ w.cell? ⟨p, 3, none⟩ = some (.int .i64 g.b) ∧ w.cell? ⟨p, 4, none⟩ = some (.int .i64 g.p) ∧ w.cell? ⟨p, 5, none⟩ = some (.int .i64 g.o) :=
  ⟨(cell_of_row _ _ _ _ _ _ h.hp).trans rfl, (cell_of_row _ _ _ _ _ _ h.hp).trans rfl, (cell_of_row _ _ _ _ _ _ h.hp).trans rfl, (cell_of_row _ _ _ _ _ _ h.hp).trans rfl, (cell_of_row _ _ _ _ _ _ h.hp).trans rfl, (cell_of_row _ _ _ _ _ _ h.hp).trans rfl⟩
/-- an entry's cells -/
theorem BmIs.ent {w : World} {p le ll ce cl : Nat} {g : Geo.G} {es : List BE} {lv : List Int} (h : BmIs w p le ll ce cl g es lv) {k : Nat} {e : BE} (hk : es[k]? = some e) :
    w.cell? ⟨le, k * 6, none⟩ = some (.int .i64 e.st) ∧ w.cell? ⟨le, k * 6 + 1, none⟩ = some (.int .i64 e.z) ∧ w.cell? ⟨le, k * 6 + 2, none⟩ = some (.int .i64 e.m) ∧ w.cell? ⟨le, k * 6 + 3, none⟩ = some (.int .i64 e.o) ∧ w.cell? ⟨le, k * 6 + 4, none⟩ = some (.int .i64 e.q) ∧ w.cell? ⟨le, k * 6 + 5, none⟩ = some (.int .i64 e.s) := by
  obtain ⟨L, hL, hL2⟩ := h.he
  have hkl : k < es.length := (List.getElem?_eq_some_iff.1 hk).1
  have key : ∀ j, j < 6 → w.cell? ⟨le, k * 6 + j, none⟩ = (BEC e)[j]? := fun j hj => by
    rw [cell_of_row _ _ _ _ _ _ hL, ← flatE_at es k j e hk hj, ← hL2, List.getElem?_take, if_pos (by omega), Array.getElem?_toList]
  exact ⟨key 0 (by omega), key 1 (by omega), key 2 (by omega), key 3 (by omega), key 4 (by omega), key 5 (by omega)⟩
theorem BmIs.live {w : World} {p le ll ce cl : Nat} {g : Geo.G} {es : List BE} {lv : List Int} (h : BmIs w p le ll ce cl g es lv) {k : Nat} {x : Int} (hk : lv[k]? = some x) : w.cell? ⟨ll, k, none⟩ = some (.int .i64 x) ∧ w.frozen? ⟨ll, k, none⟩ = false := by
  obtain ⟨V, hV, hV2⟩ := h.hl
  have hkl : k < lv.length := (List.getElem?_eq_some_iff.1 hk).1
  refine ⟨?_, frozen_of_row _ _ _ _ _ hV⟩
  have h1 : (V.toList.take lv.length)[k]? = (lv.map (Value.int .i64))[k]? := by rw [hV2]
  rw [List.getElem?_take, if_pos hkl, Array.getElem?_toList] at h1
  rw [cell_of_row _ _ _ _ _ _ hV, h1]
  simp [hk]
/-- how many entries have a state -/
def countB (es : List BE) (s : Int) : Nat := (es.filter fun e => e.st == s).length
theorem countB_succ {es : List BE} {k : Nat} {e : BE} (s : Int) (h : es[k]? = some e) : countB (es.take (k + 1)) s = countB (es.take k) s + if e.st == s then 1 else 0 := by
  obtain ⟨hk, rfl⟩ := List.getElem?_eq_some_iff.1 h
  unfold countB
  rw [List.take_succ_eq_append_getElem hk, List.filter_append]
  cases he : (es[k].st == s) <;> simp [he]
theorem countB_le (es : List BE) (s : Int) : countB es s ≤ es.length := List.length_filter_le _ _
set_option maxRecDepth 100000 in
set_option maxHeartbeats 2000000 in
theorem bcount_any (w : World) (p le ll ce cl : Nat) (g : Geo.G) (es : List BE) (lv : List Int) (h : BmIs w p le ll ce cl g es lv) (s : Int) (hn : es.length ≤ 100000) :
    Calls Try.prog 24 #[.pointer (some ⟨p, 0, none⟩), .int .i64 s] w fun e w' => e = .returned (.int .i64 (countB es s : Nat)) ∧ Below w.heap.size w w' := by
  obtain ⟨c6, c7⟩ := h.cells
  have h1 := h.h1
  have HB := Lib.hid h
  have hz := (zero_of_info Try.infoEnt).1
  have HIE := Lib.hid (fun e => esize e)
  have HON := Lib.hid (fun e => BEC_one e)
  clear h
  go_enter Try.func24, Try.ntmps24
  go_wp2
  go_loopw [5, 13] (fun n i wr => ∃ k : Nat, k ≤ es.length ∧ i = .int .i64 k ∧ n = .int .i64 (countB (es.take k) s : Nat) ∧ Below w.heap.size w wr) (fun _ i _ => es.length - (intOf i).toNat)
  case atStart => exact ⟨0, Nat.zero_le _, rfl, by simp [countB], Below.refl _ _⟩
  case round =>
    obtain ⟨k, hk, rfl, rfl, hB⟩ := hrel
    by_cases hlt : k < es.length
    · obtain ⟨e, he⟩ : ∃ e, es[k]? = some e := ⟨_, List.getElem?_eq_getElem hlt⟩
      have hbw := HB.out.below hB
      obtain ⟨e0, e1, e2, e3, e4, e5⟩ := hbw.ent he
      have HS := Lib.hid (countB_succ s he)
      have hcl := countB_le (es.take k) s
      rw [List.length_take] at hcl
      have hB2 := hB.alloc hB.size (.cells (BEC e) 54)
      have HB2 := Lib.hid hB2
      generalize countB (es.take k) s = cn at *
      have hce : (wr.alloc (.cells (BEC e) 54)).cell? ⟨wr.heap.size, 0, none⟩ = some (.int .i64 e.st) := (cell_of_row _ _ _ _ _ _ (heap_alloc_new wr _)).trans rfl
      clear hbw hB2 he
      cases hs : (e.st == s)
      · rw [hs] at HS
        go_wp2_with (refine wpList_store_row rfl 54 _ _ rfl wr.heap.size (BEC e) rfl rfl 54 (BEC BE.zero) (heap_alloc_new wr _) (HIE.out _) rfl (HON.out _) ?_; rw [World.setRow_alloc_new])
        go_roundw
        case rel => exact ⟨k + 1, by omega, by go_num, by rw [HS.out]; go_num, HB2.out⟩
        case measure => simp [intOf]; omega
      · rw [hs] at HS
        go_wp2_with (refine wpList_store_row rfl 54 _ _ rfl wr.heap.size (BEC e) rfl rfl 54 (BEC BE.zero) (heap_alloc_new wr _) (HIE.out _) rfl (HON.out _) ?_; rw [World.setRow_alloc_new])
        go_roundw
        case rel => exact ⟨k + 1, by omega, by go_num, by rw [HS.out]; go_num, HB2.out⟩
        case measure => simp [intOf]; omega
    · obtain rfl : k = es.length := by omega
      rw [List.take_length]
      go_wp2
      go_ret
      exact ⟨rfl, hB⟩
end Go.Proofs.Ytoiephmngdecaaa
namespace Go.Rv
open Go.RowKit
theorem res_row_tmp {P : Program} {fn : Func} {p q : Tmp} {ty : TypeId} (h : fn.results = #[.cell p ty, .tmp q]) (tmps : Array Value) (w : World) (g : Nat) (t : TypeId) (cs : Array Value) (fr : Nat × Nat) (d : TypeDesc)
    (hp : tmps.getD p undef = .pointer (some ⟨g, 0, none⟩)) (hg : w.heap[g]? = some (.cells cs t fr))
    (hu : P.underlying ty = some d) (hd : (match d with | .struct _ | .array _ _ => true | _ => false) = true) (hi : (P.info? ty).map (·.size) = some cs.size) :
    (results fn tmps).run P w = .ok (.tuple #[.agg cs, tmps.getD q undef]) w := by
  have hp' : tmps[p]?.getD undef = .pointer (some ⟨g, 0, none⟩) := by simpa using hp
  simp [results, h, hp', asAddr, run_loadVar_row w g t ty cs fr d hg hu hd hi]
theorem res_row {P : Program} {fn : Func} {p : Tmp} {ty : TypeId} (h : fn.results = #[.cell p ty]) (tmps : Array Value) (w : World) (g : Nat) (t : TypeId) (cs : Array Value) (fr : Nat × Nat) (d : TypeDesc)
    (hp : tmps.getD p undef = .pointer (some ⟨g, 0, none⟩)) (hg : w.heap[g]? = some (.cells cs t fr))
    (hu : P.underlying ty = some d) (hd : (match d with | .struct _ | .array _ _ => true | _ => false) = true) (hi : (P.info? ty).map (·.size) = some cs.size) :
    (results fn tmps).run P w = .ok (.agg cs) w := by
  have hp' : tmps[p]?.getD undef = .pointer (some ⟨g, 0, none⟩) := by simpa using hp
  simp [results, h, hp', asAddr, run_loadVar_row w g t ty cs fr d hg hu hd hi]
end Go.Rv
namespace Go.Proofs.Ytoiephmngdecaaa
open Go.RowKit Go.Rv
set_option linter.unusedVariables false
set_option maxRecDepth 100000 in
set_option maxHeartbeats 1000000 in
theorem bget_in (w : World) (p le ll ce cl : Nat) (g : Geo.G) (es : List BE) (lv : List Int) (h : BmIs w p le ll ce cl g es lv) (k : Nat) (e : BE) (hk : es[k]? = some e) (hn : es.length ≤ 100000) :
    Calls Try.prog 19 #[.pointer (some ⟨p, 0, none⟩), .int .i64 (k : Nat)] w fun x w' => x = .returned (.tuple #[.agg (BEC e), .int .i64 0]) ∧ Below w.heap.size w w' := by
  have hz := (zero_of_info Try.infoEnt).1
  have hal := (Below.refl w.heap.size w).alloc (Nat.le_refl _) (.cells (BEC BE.zero) 54)
  obtain ⟨c6, c7⟩ := (h.below hal).cells
  obtain ⟨e0, e1, e2, e3, e4, e5⟩ := (h.below hal).ent hk
  have hkl : k < es.length := (List.getElem?_eq_some_iff.1 hk).1
  have h1 := h.h1
  have HIE := Lib.hid (fun e => esize e)
  have HON := Lib.hid (fun e => BEC_one e)
  have hB2 : Below w.heap.size w (w.alloc (.cells (BEC e) 54)) := (Below.refl w.heap.size w).alloc (Nat.le_refl _) _
  have hnew := heap_alloc_new w (.cells (BEC e) 54)
  clear h hk
  go_enter Try.func19, Try.ntmps19
  go_wp2_with (refine wpList_store_row rfl 54 _ _ rfl w.heap.size (BEC e) rfl rfl 54 (BEC BE.zero) (heap_alloc_new w _) (HIE.out _) rfl (HON.out _) ?_; rw [World.setRow_alloc_new])
  refine bodyPost_ret (res_row_tmp rfl _ _ w.heap.size 54 (BEC e) _ _ rfl hnew Try.underlying54 rfl (HIE.out _)) rfl ?_
  exact ⟨rfl, hB2⟩
set_option maxRecDepth 100000 in
set_option maxHeartbeats 1000000 in
theorem bget_out (w : World) (p le ll ce cl : Nat) (g : Geo.G) (es : List BE) (lv : List Int) (h : BmIs w p le ll ce cl g es lv) (k : Int) (hk : k < 0 ∨ (es.length : Int) ≤ k) :
    Calls Try.prog 19 #[.pointer (some ⟨p, 0, none⟩), .int .i64 k] w fun x w' => x = .returned (.tuple #[.agg (BEC BE.zero), .int .i64 13]) ∧ Below w.heap.size w w' := by
  have hz := (zero_of_info Try.infoEnt).1
  have hal := (Below.refl w.heap.size w).alloc (Nat.le_refl _) (.cells (BEC BE.zero) 54)
  obtain ⟨c6, c7⟩ := (h.below hal).cells
  have HIE := Lib.hid (fun e => esize e)
  have HON := Lib.hid (fun e => BEC_one e)
  have hnew := heap_alloc_new w (.cells (BEC BE.zero) 54)
  have HNEW := Lib.hid hnew
  clear h hnew
  generalize hZ : BEC BE.zero = Z at *
  have hsz : Z.size = Z.size := rfl
  have HSZ : Hid ((Try.prog.info? 54).map (·.size) = some Z.size) := Lib.hid (by rw [← hZ]; exact HIE.out _)
  have HOZ : Hid (Z.all (·.oneCell') = true) := Lib.hid (by rw [← hZ]; exact HON.out _)
  clear hZ hsz
  rcases hk with hk | hk
  · have t1 : decide (k < 0) = true := decide_eq_true hk
    clear hk
    go_enter Try.func19, Try.ntmps19
    go_wp2_with (refine wpList_store_row rfl 54 _ _ rfl w.heap.size Z rfl rfl 54 Z (heap_alloc_new w _) HSZ.out rfl HOZ.out ?_; rw [World.setRow_alloc_new])
    refine bodyPost_ret (res_row_tmp rfl _ _ w.heap.size 54 Z _ _ rfl HNEW.out Try.underlying54 rfl HSZ.out) rfl ?_
    exact ⟨rfl, hal⟩
  · have t1 : decide (k < 0) = false := decide_eq_false (by omega)
    have t2 : decide ((es.length : Int) ≤ k) = true := decide_eq_true hk
    clear hk
    go_enter Try.func19, Try.ntmps19
    go_wp2_with (refine wpList_store_row rfl 54 _ _ rfl w.heap.size Z rfl rfl 54 Z (heap_alloc_new w _) HSZ.out rfl HOZ.out ?_; rw [World.setRow_alloc_new])
    refine bodyPost_ret (res_row_tmp rfl _ _ w.heap.size 54 Z _ _ rfl HNEW.out Try.underlying54 rfl HSZ.out) rfl ?_
    exact ⟨rfl, hal⟩
theorem Try.infoGeoZ : (Try.prog.info? 23).map (fun i => (i.zero, i.size)) = some (some (.agg (GC ⟨0, 0, 0, 0, 0, 0⟩)), 6) := by kernel_rfl
set_option maxRecDepth 100000 in
set_option maxHeartbeats 1000000 in
theorem bgeom_any (w : World) (p le ll ce cl : Nat) (g : Geo.G) (es : List BE) (lv : List Int) (h : BmIs w p le ll ce cl g es lv) :
    Calls Try.prog 29 #[.pointer (some ⟨p, 0, none⟩)] w fun x w' => x = .returned (.agg (GC g)) ∧ Below w.heap.size w w' := by
  have hz := (zero_of_info Try.infoGeoZ).1
  have hal := (Below.refl w.heap.size w).alloc (Nat.le_refl _) (.cells (GC ⟨0, 0, 0, 0, 0, 0⟩) 23)
  obtain ⟨c0, c1, c2, c3, c4, c5⟩ := (h.below hal).geo
  have HIE := Lib.hid (gsize (g := g))
  have HON := Lib.hid (GC_one g)
  have hB2 : Below w.heap.size w (w.alloc (.cells (GC g) 23)) := (Below.refl w.heap.size w).alloc (Nat.le_refl _) _
  have hnew := heap_alloc_new w (.cells (GC g) 23)
  clear h
  go_enter Try.func29, Try.ntmps29
  go_wp2_with (refine wpList_store_row rfl 23 _ _ rfl w.heap.size (GC g) rfl rfl 23 (GC ⟨0, 0, 0, 0, 0, 0⟩) (heap_alloc_new w _) HIE.out rfl HON.out ?_; rw [World.setRow_alloc_new])
  refine bodyPost_ret (res_row rfl _ _ w.heap.size 23 (GC g) _ _ rfl hnew Try.underlying23 rfl HIE.out) rfl ?_
  exact ⟨rfl, hB2⟩
end Go.Proofs.Ytoiephmngdecaaa
namespace Go.Rv
open Go.RowKit
def Obl2 (P : Program) (ops : Array Oper) (Q : Exit → Act → World → Prop) (A : (Nat → Value) → Act) (w0 : World) (Φ : List Fact) (i : Nat) (o : Oper) : Prop :=
  ∀ (v : Nat → Value) (w : World) (K : Act → World → Prop), Below w0.heap.size w0 w → Deps Φ v w o.after.toList →
    Hid (∀ u w', Below w.heap.size w w' → (Φ.getD i Fact.any).p u w' → K ((A v).put o.dst u) w') → wpList P ops (Exit.then K Q) [o] (A v) w
def Obls2 (P : Program) (ops : Array Oper) (Q : Exit → Act → World → Prop) (A : (Nat → Value) → Act) (w0 : World) (Φ : List Fact) : Nat → List Oper → Prop
  | _, [] => True
  | i, o :: r => Obl2 P ops Q A w0 Φ i o ∧ Obls2 P ops Q A w0 Φ (i + 1) r
theorem obls_of2 {P : Program} {ops : Array Oper} {Q : Exit → Act → World → Prop} {A : (Nat → Value) → Act} {w0 : World} {Φ : List Fact} : ∀ {i : Nat} {l : List Oper}, Obls2 P ops Q A w0 Φ i l → Obls P ops Q A w0 Φ i l
  | _, [], _ => trivial
  | _, _ :: _, h => ⟨fun v w K hB hd hK => h.1 v w K hB hd (Lib.hid hK), obls_of2 h.2⟩
theorem wp_region_conf2 {P : Program} {ops : Array Oper} {Q : Exit → Act → World → Prop} {a0 : Act} {w0 : World} {id : Nat} (n : Nat) (Φ : List Fact) (A : (Nat → Value) → Act) (hm : P.follows .mixedOrders = true) (hok : confOk ops n = true)
    (hA : ∀ v, putAll v 0 (ops.toList.take n) a0 = A v) (ho : Obls2 P ops Q A w0 Φ 0 (ops.toList.take n))
    (hend : ∀ v w, Below w0.heap.size w0 w → (∀ j, j < n → (Φ.getD j Fact.any).p (v j) w) → wpList P ops Q (ops.toList.drop n) (A v) w) : (Code.region id ops true).wp P Q a0 w0 :=
  wp_region_conf n Φ A hm hok hA (obls_of2 ho) hend
end Go.Rv
namespace Go.Proofs.Ytoiephmngdecaaa
open Go.RowKit Go.Rv
set_option linter.unusedVariables false
theorem BmIs.setLive {w : World} {p le ll ce cl : Nat} {g : Geo.G} {es : List BE} {lv : List Int} (h : BmIs w p le ll ce cl g es lv) {k : Nat} (hk : k < lv.length) (v : Int) :
    BmIs (w.setCell ⟨ll, k, none⟩ (.int .i64 v)) p le ll ce cl g es (lv.set k v) := by
  obtain ⟨hn1, hn2, hn3⟩ := h.ne
  have hO := (Only.refl [ll] w).setCell (p := ⟨ll, k, none⟩) (.inl (by simp)) (.int .i64 v)
  obtain ⟨L, hL, hL2⟩ := h.he
  obtain ⟨V, hV, hV2⟩ := h.hl
  have hlen : (lv.set k v).length = lv.length := List.length_set
  refine ⟨?_, ⟨L, hO.get hL (by simpa using hn3), hL2⟩, ⟨V.setIfInBounds k (.int .i64 v), heap_setCell_same _ _ _ _ _ _ hV, ?_⟩, h.h1, by rw [hlen]; exact h.h2⟩
  · rw [hlen]
    exact hO.get h.hp (by simpa using hn2)
  · rw [hlen, Array.toList_setIfInBounds, List.take_set, hV2, List.map_set]
set_option maxRecDepth 100000 in
set_option maxHeartbeats 2000000 in
theorem bcnt_no (w : World) (p : Nat) (e : BE) (by' : Int) (he : (e.st == 1) = false) :
    Calls Try.prog 48 #[.pointer (some ⟨p, 0, none⟩), .agg (BEC e), .int .i64 by'] w fun x w' => (∃ v, x = .returned v) ∧ Below w.heap.size w w' := by
  have hal := (Below.refl w.heap.size w).alloc (Nat.le_refl _) (.cells (BEC e) 54)
  have hc : (w.alloc (.cells (BEC e) 54)).cell? ⟨w.heap.size, 0, none⟩ = some (.int .i64 e.st) := (cell_of_row _ _ _ _ _ _ (heap_alloc_new w _)).trans rfl
  generalize BEC e = C at *
  go_enter Try.func48, Try.ntmps48
  go_wp2
  go_end0
  exact ⟨⟨_, rfl⟩, hal⟩
set_option maxRecDepth 100000 in
set_option maxHeartbeats 2000000 in
theorem bcnt_yes (w : World) (p le ll ce cl : Nat) (g : Geo.G) (es : List BE) (lv : List Int) (h : BmIs w p le ll ce cl g es lv) (z m : Nat) (o q s by' x y : Int)
    (hx : lv[z]? = some x) (hy : (lv.set z (x + by'))[m]? = some y) (hb : -1 ≤ by' ∧ by' ≤ 1) (hxb : -100000 ≤ x ∧ x ≤ 100000) (hyb : -100000 ≤ y ∧ y ≤ 100000) (hn : lv.length ≤ 100000) :
    Calls Try.prog 48 #[.pointer (some ⟨p, 0, none⟩), .agg (BEC ⟨1, z, m, o, q, s⟩), .int .i64 by'] w fun e w' => (∃ v, e = .returned v) ∧ BmIs w' p le ll ce cl g es ((lv.set z (x + by')).set m (y + by')) ∧ Only [ll] w w' := by
  obtain ⟨C, hC⟩ : ∃ C, BEC ⟨1, z, m, o, q, s⟩ = C := ⟨_, rfl⟩
  have hal := (Below.refl w.heap.size w).alloc (Nat.le_refl _) (.cells C 54)
  have hnew := heap_alloc_new w (.cells C 54)
  obtain ⟨W1, hW1⟩ : ∃ W1, w.alloc (.cells C 54) = W1 := ⟨_, rfl⟩
  rw [hW1] at hal hnew
  have hq0 : ∀ W : World, W.heap[w.heap.size]? = some (.cells C 54 (0, 0)) → W.cell? ⟨w.heap.size, 0, none⟩ = some (.int .i64 1) ∧ W.cell? ⟨w.heap.size, 1, none⟩ = some (.int .i64 (z : Nat)) ∧ W.cell? ⟨w.heap.size, 2, none⟩ = some (.int .i64 (m : Nat)) := fun W hh => by
    rw [← hC] at hh
    exact ⟨(cell_of_row _ _ _ _ _ _ hh).trans rfl, (cell_of_row _ _ _ _ _ _ hh).trans rfl, (cell_of_row _ _ _ _ _ _ hh).trans rfl⟩
  have HQ0 := Lib.hid hq0
  have hB1 := h.below hal
  have hzl : z < lv.length := (List.getElem?_eq_some_iff.1 hx).1
  have hml : m < lv.length := by have := (List.getElem?_eq_some_iff.1 hy).1; rwa [List.length_set] at this
  have hlt := h.lt
  have HW1 := Lib.hid hW1
  have HC := Lib.hid hC
  have hOW : Only [ll] w W1 := Only.of_below hal
  have hcl := h.h2
  have HB1 := Lib.hid hB1
  have HX := Lib.hid hx
  have HY := Lib.hid hy
  have HNW := Lib.hid hnew
  have hzs := (Array.getElem?_eq_some_iff.1 hnew).1
  obtain ⟨k0, k1, k2⟩ := hq0 _ hnew
  clear hW1 hC hq0 h hB1 hx hy hnew hal
  rw [HC.out]
  go_enter Try.func48, Try.ntmps48
  go_upto_region 1 with (fail)
  rw [HW1.out]
  go_wp2
  refine wp_region_conf2 11 [Fact.eq ?rax0, Fact.eq ?rax1, Fact.eq ?rax2, Fact.eq ?rax3, Fact.eq ?rax4, Fact.eq ?rax5, Fact.eq ?rax6, Fact.eq ?rax7, Fact.eq ?rax8, Fact.eq ?rax9, Fact.eq ?rax10] ?raA (by kernel_rfl) (by kernel_rfl) ?rahA ?raho ?rahend
  case rahA =>
    intro vv
    simp only [putRules, Nat.reduceAdd]
    rfl
  case raho =>
    refine ⟨?_, ?_, ?_, ?_, ?_, ?_, ?_, ?_, ?_, ?_, ?_, trivial⟩
    · intro vv W K hB hd HK
      simp only [confRules] at HK
      clear hd
      go_wp2
      refine HK.out _ _ (Below.refl _ _) ?_
      rfl
    · intro vv W K hB hd HK
      simp only [confRules] at hd HK
      have h0 := hd
      clear hd
      simp only [h0] at HK ⊢
      clear h0
      go_wp2
      refine HK.out _ _ (Below.refl _ _) ?_
      rfl
    · intro vv W K hB hd HK
      simp only [confRules] at hd HK
      have h1 := hd
      clear hd
      simp only [h1] at HK ⊢
      clear h1
      go_wp2
      refine HK.out _ _ (Below.refl _ _) ?_
      rfl
    · intro vv W K hB hd HK
      simp only [confRules] at hd HK
      have h2 := hd
      clear hd
      simp only [h2] at HK ⊢
      clear h2
      have hbA := HB1.out.below hB
      obtain ⟨c6, c7⟩ := hbA.cells
      go_wp2
      refine HK.out _ _ (Below.refl _ _) ?_
      rfl
    · intro vv W K hB hd HK
      simp only [confRules] at HK
      clear hd
      go_wp2
      refine HK.out _ _ (Below.refl _ _) ?_
      rfl
    · intro vv W K hB hd HK
      simp only [confRules] at hd HK
      have h4 := hd
      clear hd
      simp only [h4] at HK ⊢
      clear h4
      have hT := (hB.block w.heap.size hzs).trans HNW.out
      obtain ⟨k0, k1, k2⟩ := HQ0.out _ hT
      clear hT
      go_wp2
      refine HK.out _ _ (Below.refl _ _) ?_
      rfl
    · intro vv W K hB hd HK
      simp only [confRules] at hd HK
      obtain ⟨h3, h5⟩ := hd
      simp only [h3, h5] at HK ⊢
      clear h3 h5
      go_wp2
      refine HK.out _ _ (Below.refl _ _) ?_
      rfl
    · intro vv W K hB hd HK
      simp only [confRules] at hd HK
      have h6 := hd
      clear hd
      simp only [h6] at HK ⊢
      clear h6
      have hbA := HB1.out.below hB
      obtain ⟨c8, -⟩ := hbA.live HX.out
      go_wp2
      refine HK.out _ _ (Below.refl _ _) ?_
      rfl
    · intro vv W K hB hd HK
      simp only [confRules] at HK
      clear hd
      go_wp2
      refine HK.out _ _ (Below.refl _ _) ?_
      rfl
    · intro vv W K hB hd HK
      simp only [confRules] at hd HK
      obtain ⟨h7, h8⟩ := hd
      simp only [h7, h8] at HK ⊢
      clear h7 h8
      go_wp2
      refine HK.out _ _ (Below.refl _ _) ?_
      rfl
    · intro vv W K hB hd HK
      simp only [confRules] at hd HK
      obtain ⟨h3, h5, h0, h1, h2, _, h4, _, h6, h7, h8, h9⟩ := hd
      simp only [h3, h5, h0, h1, h2, h4, h6, h7, h8, h9] at HK ⊢
      clear h3 h5 h0 h1 h2 h4 h6 h7 h8 h9
      go_wp2
      refine HK.out _ _ (Below.refl _ _) ?_
      rfl
  case rahend =>
    intro vv W hB hf
    have e9 := hf 9 (by decide)
    have e10 := hf 10 (by decide)
    simp only [endRules] at e9 e10
    simp only [e9, e10, dropRules]
    clear hf e9 e10
    have hbA := HB1.out.below hB
    obtain ⟨c7, cf7⟩ := hbA.live HX.out
    have hO2 : Only [ll] w W := hOW.trans (Only.of_below hB)
    have hbS := hbA.setLive hzl (x + by')
    have hnS := ((Only.refl [ll] W).setCell (p := ⟨ll, z, none⟩) (.inl (by simp)) (.int .i64 (x + by'))).get ((hB.block w.heap.size hzs).trans HNW.out) (by simp; omega)
    have hO3 := hO2.setCell (p := ⟨ll, z, none⟩) (.inl (by simp)) (.int .i64 (x + by'))
    obtain ⟨W2, hW2⟩ : ∃ W2, W.setCell ⟨ll, z, none⟩ (.int .i64 (x + by')) = W2 := ⟨_, rfl⟩
    rw [hW2] at hbS hnS hO3
    have HW2 := Lib.hid hW2
    have HBS := Lib.hid hbS
    have HNS := Lib.hid hnS
    have hzs2 := (Array.getElem?_eq_some_iff.1 hnS).1
    clear hW2 hbA hbS hnS hO2 hB
    go_upto_region 3 with (fail)
    rw [HW2.out]
    clear c7 cf7
    refine wp_region_conf2 11 [Fact.eq ?rbx0, Fact.eq ?rbx1, Fact.eq ?rbx2, Fact.eq ?rbx3, Fact.eq ?rbx4, Fact.eq ?rbx5, Fact.eq ?rbx6, Fact.eq ?rbx7, Fact.eq ?rbx8, Fact.eq ?rbx9, Fact.eq ?rbx10] ?rbA (by kernel_rfl) (by kernel_rfl) ?rbhA ?rbho ?rbhend
    case rbhA =>
      intro vv
      simp only [putRules, Nat.reduceAdd]
      rfl
    case rbho =>
      refine ⟨?_, ?_, ?_, ?_, ?_, ?_, ?_, ?_, ?_, ?_, ?_, trivial⟩
      · intro vv W K hB hd HK
        simp only [confRules] at HK
        clear hd
        go_wp2
        refine HK.out _ _ (Below.refl _ _) ?_
        rfl
      · intro vv W K hB hd HK
        simp only [confRules] at hd HK
        have h0 := hd
        clear hd
        simp only [h0] at HK ⊢
        clear h0
        go_wp2
        refine HK.out _ _ (Below.refl _ _) ?_
        rfl
      · intro vv W K hB hd HK
        simp only [confRules] at hd HK
        have h1 := hd
        clear hd
        simp only [h1] at HK ⊢
        clear h1
        go_wp2
        refine HK.out _ _ (Below.refl _ _) ?_
        rfl
      · intro vv W K hB hd HK
        simp only [confRules] at hd HK
        have h2 := hd
        clear hd
        simp only [h2] at HK ⊢
        clear h2
        have hbA := HBS.out.below hB
        obtain ⟨c6, c7⟩ := hbA.cells
        go_wp2
        refine HK.out _ _ (Below.refl _ _) ?_
        rfl
      · intro vv W K hB hd HK
        simp only [confRules] at HK
        clear hd
        go_wp2
        refine HK.out _ _ (Below.refl _ _) ?_
        rfl
      · intro vv W K hB hd HK
        simp only [confRules] at hd HK
        have h4 := hd
        clear hd
        simp only [h4] at HK ⊢
        clear h4
        have hT := (hB.block w.heap.size hzs2).trans HNS.out
        obtain ⟨k0, k1, k2⟩ := HQ0.out _ hT
        clear hT
        go_wp2
        refine HK.out _ _ (Below.refl _ _) ?_
        rfl
      · intro vv W K hB hd HK
        simp only [confRules] at hd HK
        obtain ⟨h3, h5⟩ := hd
        simp only [h3, h5] at HK ⊢
        clear h3 h5
        go_wp2
        refine HK.out _ _ (Below.refl _ _) ?_
        rfl
      · intro vv W K hB hd HK
        simp only [confRules] at hd HK
        have h6 := hd
        clear hd
        simp only [h6] at HK ⊢
        clear h6
        have hbA := HBS.out.below hB
        obtain ⟨c8, -⟩ := hbA.live HY.out
        go_wp2
        refine HK.out _ _ (Below.refl _ _) ?_
        rfl
      · intro vv W K hB hd HK
        simp only [confRules] at HK
        clear hd
        go_wp2
        refine HK.out _ _ (Below.refl _ _) ?_
        rfl
      · intro vv W K hB hd HK
        simp only [confRules] at hd HK
        obtain ⟨h7, h8⟩ := hd
        simp only [h7, h8] at HK ⊢
        clear h7 h8
        go_wp2
        refine HK.out _ _ (Below.refl _ _) ?_
        rfl
      · intro vv W K hB hd HK
        simp only [confRules] at hd HK
        obtain ⟨h3, h5, h0, h1, h2, _, h4, _, h6, h7, h8, h9⟩ := hd
        simp only [h3, h5, h0, h1, h2, h4, h6, h7, h8, h9] at HK ⊢
        clear h3 h5 h0 h1 h2 h4 h6 h7 h8 h9
        go_wp2
        refine HK.out _ _ (Below.refl _ _) ?_
        rfl
    case rbhend =>
      intro vv W hB hf
      have e9 := hf 9 (by decide)
      have e10 := hf 10 (by decide)
      simp only [endRules] at e9 e10
      simp only [e9, e10, dropRules]
      clear hf e9 e10
      have hbA := HBS.out.below hB
      obtain ⟨c7, cf7⟩ := hbA.live HY.out
      have hbT := hbA.setLive (by rw [List.length_set]; exact hml) (y + by')
      have hO4 := (hO3.trans (Only.of_below hB)).setCell (p := ⟨ll, m, none⟩) (.inl (by simp)) (.int .i64 (y + by'))
      have HBT := Lib.hid hbT
      clear hbT hbA
      go_wp2
      go_end0
      exact ⟨⟨_, rfl⟩, HBT.out, hO4⟩
end Go.Proofs.Ytoiephmngdecaaa
namespace Go.Proofs.Ytoiephmngdecaaa
open Go.RowKit Go.Rv
set_option linter.unusedVariables false
def beLive (g : Geo.G) (e : BE) : Bool := holdsG g e.z e.o && (holdsG g e.m e.o && (decide (domOf g e.z ≠ domOf g e.m) && (decide (1 ≤ e.q) && (decide (e.q ≤ 281474976710655) && (decide (0 ≤ e.s) && decide (e.s ≤ 4294967295))))))
/-- may an entry be? -/
def beRight (g : Geo.G) (e : BE) : Bool := if e.st = 0 ∨ e.st = 2 then decide (e = ⟨e.st, 0, 0, 0, 0, 0⟩) else if e.st = 1 then beLive g e else false
theorem bright_setup (C D : Array Value) (w : World) : ∃ W0, (w.alloc (.cells C 54)).alloc (.cells D 23) = W0 ∧ Below w.heap.size w W0 ∧ W0.heap[w.heap.size]? = some (.cells C 54 (0, 0)) ∧ W0.heap[w.heap.size + 1]? = some (.cells D 23 (0, 0)) ∧ w.heap.size + 1 < W0.heap.size := by
  refine ⟨_, rfl, ((Below.refl _ w).alloc (Nat.le_refl _) _).alloc (by simp) _, ?_, ?_, by simp⟩
  · exact (alloc_old _ _ (by simp)).trans (alloc_new _ _ rfl)
  · exact alloc_new _ _ (by simp)

set_option maxRecDepth 100000 in
set_option maxHeartbeats 2000000 in
theorem bright_1 (C D : Array Value) (z m o q s d1 d2 : Int) (w : World)
    (hC : ∀ (W : World), W.heap[w.heap.size]? = some (.cells C 54 (0, 0)) → W.cell? ⟨w.heap.size, 0, none⟩ = some (.int .i64 1) ∧ W.cell? ⟨w.heap.size, 1, none⟩ = some (.int .i64 z) ∧ W.cell? ⟨w.heap.size, 2, none⟩ = some (.int .i64 m) ∧ W.cell? ⟨w.heap.size, 3, none⟩ = some (.int .i64 o) ∧ W.cell? ⟨w.heap.size, 4, none⟩ = some (.int .i64 q) ∧ W.cell? ⟨w.heap.size, 5, none⟩ = some (.int .i64 s))
    (hI : (Try.prog.info? 23).map (·.size) = some D.size)
    (h1 : ∀ W, Calls Try.prog 40 #[.agg D, .int .i64 z, .int .i64 o] W fun e w' => e = .returned (.bool false) ∧ Below W.heap.size W w') :
    Calls Try.prog 21 #[.agg C, .agg D] w fun e w' => e = .returned (.bool false) ∧ Below w.heap.size w w' := by
  obtain ⟨W0, hW0, hB0, hE, hG, hz0⟩ := bright_setup C D w
  obtain ⟨k0, -⟩ := hC _ hE
  have HW0 := Lib.hid hW0
  have HE := Lib.hid hE
  have HG := Lib.hid hG
  have HI := Lib.hid hI
  have HQ := Lib.hid (fun W hh => (hC W hh).2)
  have H1 := Lib.hid h1
  clear hW0 hE hG hI hC h1
  go_enter Try.func21, Try.ntmps21
  go_upto_region 1 with (fail)
  rw [HW0.out]
  go_wp2
  refine wp_region_conf2 45 [Fact.eq ?rax0, Fact.eq ?rax1, Fact.eq ?rax2, Fact.eq ?rax3, Fact.eq ?rax4, Fact.eq ?rax5, Fact.eq ?rax6, Fact.eq undef, Fact.eq undef, Fact.eq undef, Fact.eq undef, Fact.eq undef, Fact.eq undef, Fact.eq ?rax13, Fact.eq ?rax14, Fact.eq undef, Fact.eq undef, Fact.eq undef, Fact.eq undef, Fact.eq undef, Fact.eq undef, Fact.eq undef, Fact.eq undef, Fact.eq undef, Fact.eq ?rax24, Fact.eq ?rax25, Fact.eq undef, Fact.eq undef, Fact.eq undef, Fact.eq ?rax29, Fact.eq ?rax30, Fact.eq undef, Fact.eq undef, Fact.eq undef, Fact.eq ?rax34, Fact.eq ?rax35, Fact.eq undef, Fact.eq undef, Fact.eq undef, Fact.eq ?rax39, Fact.eq ?rax40, Fact.eq undef, Fact.eq undef, Fact.eq undef, Fact.eq ?rax44] ?raA (by kernel_rfl) (by kernel_rfl) ?rahA ?raho ?rahend
  case rahA =>
    intro vv
    simp only [putRules, Nat.reduceAdd]
    rfl
  case raho =>
    refine ⟨?_, ?_, ?_, ?_, ?_, ?_, ?_, ?_, ?_, ?_, ?_, ?_, ?_, ?_, ?_, ?_, ?_, ?_, ?_, ?_, ?_, ?_, ?_, ?_, ?_, ?_, ?_, ?_, ?_, ?_, ?_, ?_, ?_, ?_, ?_, ?_, ?_, ?_, ?_, ?_, ?_, ?_, ?_, ?_, ?_, trivial⟩
    · intro vv W K hB hd HK
      simp only [confRules] at HK
      clear hd
      have hT := (hB.block (w.heap.size + 1) hz0).trans HG.out
      go_wp2_with (refine wpList_row_on (by rfl) 23 _ rfl (w.heap.size + 1) rfl 23 _ _ _ hT Try.underlying23 rfl HI.out ?_)
      refine HK.out _ _ (Below.refl _ _) ?_
      rfl
    · intro vv W K hB hd HK
      simp only [confRules] at HK
      clear hd
      go_wp2
      refine HK.out _ _ (Below.refl _ _) ?_
      rfl
    · intro vv W K hB hd HK
      simp only [confRules] at hd HK
      have h1 := hd
      clear hd
      simp only [h1] at HK ⊢
      clear h1
      have hT := (hB.block w.heap.size (by omega)).trans HE.out
      obtain ⟨k1, k2, k3, k4, k5⟩ := HQ.out _ hT
      clear hT
      go_wp2
      refine HK.out _ _ (Below.refl _ _) ?_
      rfl
    · intro vv W K hB hd HK
      simp only [confRules] at HK
      clear hd
      go_wp2
      refine HK.out _ _ (Below.refl _ _) ?_
      rfl
    · intro vv W K hB hd HK
      simp only [confRules] at hd HK
      have h3 := hd
      clear hd
      simp only [h3] at HK ⊢
      clear h3
      have hT := (hB.block w.heap.size (by omega)).trans HE.out
      obtain ⟨k1, k2, k3, k4, k5⟩ := HQ.out _ hT
      clear hT
      go_wp2
      refine HK.out _ _ (Below.refl _ _) ?_
      rfl
    · intro vv W K hB hd HK
      simp only [confRules] at hd HK
      obtain ⟨h0, h2, h4⟩ := hd
      simp only [h0, h2, h4] at HK ⊢
      clear h0 h2 h4
      go_wp2_with (refine (H1.out _).mono ?_; rintro e w9 ⟨rfl, hB9⟩)
      refine HK.out _ _ hB9 ?_
      rfl
    · intro vv W K hB hd HK
      simp only [confRules] at hd HK
      obtain ⟨h5, _⟩ := hd
      simp only [h5] at HK ⊢
      clear h5
      go_wp2
      refine HK.out _ _ (Below.refl _ _) ?_
      rfl
    · intro vv W K hB hd HK
      simp only [confRules] at hd HK
      have h6 := hd
      clear hd
      simp only [h6] at HK ⊢
      clear h6
      refine wpList_guard_no (by rfl) ?_
      refine HK.out _ _ (Below.refl _ _) ?_
      rfl
    · intro vv W K hB hd HK
      simp only [confRules] at hd HK
      have h6 := hd
      clear hd
      simp only [h6] at HK ⊢
      clear h6
      refine wpList_guard_no (by rfl) ?_
      refine HK.out _ _ (Below.refl _ _) ?_
      rfl
    · intro vv W K hB hd HK
      simp only [confRules] at hd HK
      obtain ⟨h8, h6⟩ := hd
      simp only [h8, h6] at HK ⊢
      clear h8 h6
      refine wpList_guard_no (by rfl) ?_
      refine HK.out _ _ (Below.refl _ _) ?_
      rfl
    · intro vv W K hB hd HK
      simp only [confRules] at hd HK
      have h6 := hd
      clear hd
      simp only [h6] at HK ⊢
      clear h6
      refine wpList_guard_no (by rfl) ?_
      refine HK.out _ _ (Below.refl _ _) ?_
      rfl
    · intro vv W K hB hd HK
      simp only [confRules] at hd HK
      obtain ⟨h10, h6⟩ := hd
      simp only [h10, h6] at HK ⊢
      clear h10 h6
      refine wpList_guard_no (by rfl) ?_
      refine HK.out _ _ (Below.refl _ _) ?_
      rfl
    · intro vv W K hB hd HK
      simp only [confRules] at hd HK
      obtain ⟨h7, h9, h11, h6, _⟩ := hd
      simp only [h7, h9, h11, h6] at HK ⊢
      clear h7 h9 h11 h6
      refine wpList_guard_no (by rfl) ?_
      refine HK.out _ _ (Below.refl _ _) ?_
      rfl
    · intro vv W K hB hd HK
      simp only [confRules] at hd HK
      obtain ⟨h6, h12⟩ := hd
      simp only [h6, h12] at HK ⊢
      clear h6 h12
      go_wp2
      refine HK.out _ _ (Below.refl _ _) ?_
      rfl
    · intro vv W K hB hd HK
      simp only [confRules] at hd HK
      obtain ⟨h13, h12⟩ := hd
      simp only [h13, h12] at HK ⊢
      clear h13 h12
      go_wp2
      refine HK.out _ _ (Below.refl _ _) ?_
      rfl
    · intro vv W K hB hd HK
      simp only [confRules] at hd HK
      have h14 := hd
      clear hd
      simp only [h14] at HK ⊢
      clear h14
      refine wpList_guard_no (by rfl) ?_
      refine HK.out _ _ (Below.refl _ _) ?_
      rfl
    · intro vv W K hB hd HK
      simp only [confRules] at hd HK
      have h14 := hd
      clear hd
      simp only [h14] at HK ⊢
      clear h14
      refine wpList_guard_no (by rfl) ?_
      refine HK.out _ _ (Below.refl _ _) ?_
      rfl
    · intro vv W K hB hd HK
      simp only [confRules] at hd HK
      obtain ⟨h16, h14⟩ := hd
      simp only [h16, h14] at HK ⊢
      clear h16 h14
      refine wpList_guard_no (by rfl) ?_
      refine HK.out _ _ (Below.refl _ _) ?_
      rfl
    · intro vv W K hB hd HK
      simp only [confRules] at hd HK
      obtain ⟨h15, h17, h14, _⟩ := hd
      simp only [h15, h17, h14] at HK ⊢
      clear h15 h17 h14
      refine wpList_guard_no (by rfl) ?_
      refine HK.out _ _ (Below.refl _ _) ?_
      rfl
    · intro vv W K hB hd HK
      simp only [confRules] at hd HK
      have h14 := hd
      clear hd
      simp only [h14] at HK ⊢
      clear h14
      refine wpList_guard_no (by rfl) ?_
      refine HK.out _ _ (Below.refl _ _) ?_
      rfl
    · intro vv W K hB hd HK
      simp only [confRules] at hd HK
      have h14 := hd
      clear hd
      simp only [h14] at HK ⊢
      clear h14
      refine wpList_guard_no (by rfl) ?_
      refine HK.out _ _ (Below.refl _ _) ?_
      rfl
    · intro vv W K hB hd HK
      simp only [confRules] at hd HK
      obtain ⟨h20, h14⟩ := hd
      simp only [h20, h14] at HK ⊢
      clear h20 h14
      refine wpList_guard_no (by rfl) ?_
      refine HK.out _ _ (Below.refl _ _) ?_
      rfl
    · intro vv W K hB hd HK
      simp only [confRules] at hd HK
      obtain ⟨h19, h21, h18, h14⟩ := hd
      simp only [h19, h21, h18, h14] at HK ⊢
      clear h19 h21 h18 h14
      refine wpList_guard_no (by rfl) ?_
      refine HK.out _ _ (Below.refl _ _) ?_
      rfl
    · intro vv W K hB hd HK
      simp only [confRules] at hd HK
      obtain ⟨h18, h22, h14⟩ := hd
      simp only [h18, h22, h14] at HK ⊢
      clear h18 h22 h14
      refine wpList_guard_no (by rfl) ?_
      refine HK.out _ _ (Below.refl _ _) ?_
      rfl
    · intro vv W K hB hd HK
      simp only [confRules] at hd HK
      obtain ⟨h14, h23⟩ := hd
      simp only [h14, h23] at HK ⊢
      clear h14 h23
      go_wp2
      refine HK.out _ _ (Below.refl _ _) ?_
      rfl
    · intro vv W K hB hd HK
      simp only [confRules] at hd HK
      obtain ⟨h24, h22⟩ := hd
      simp only [h24, h22] at HK ⊢
      clear h24 h22
      go_wp2
      refine HK.out _ _ (Below.refl _ _) ?_
      rfl
    · intro vv W K hB hd HK
      simp only [confRules] at hd HK
      have h25 := hd
      clear hd
      simp only [h25] at HK ⊢
      clear h25
      refine wpList_guard_no (by rfl) ?_
      refine HK.out _ _ (Below.refl _ _) ?_
      rfl
    · intro vv W K hB hd HK
      simp only [confRules] at hd HK
      obtain ⟨h26, h25⟩ := hd
      simp only [h26, h25] at HK ⊢
      clear h26 h25
      refine wpList_guard_no (by rfl) ?_
      refine HK.out _ _ (Below.refl _ _) ?_
      rfl
    · intro vv W K hB hd HK
      simp only [confRules] at hd HK
      obtain ⟨h27, h25⟩ := hd
      simp only [h27, h25] at HK ⊢
      clear h27 h25
      refine wpList_guard_no (by rfl) ?_
      refine HK.out _ _ (Below.refl _ _) ?_
      rfl
    · intro vv W K hB hd HK
      simp only [confRules] at hd HK
      obtain ⟨h25, h28⟩ := hd
      simp only [h25, h28] at HK ⊢
      clear h25 h28
      go_wp2
      refine HK.out _ _ (Below.refl _ _) ?_
      rfl
    · intro vv W K hB hd HK
      simp only [confRules] at hd HK
      obtain ⟨h29, h25⟩ := hd
      simp only [h29, h25] at HK ⊢
      clear h29 h25
      go_wp2
      refine HK.out _ _ (Below.refl _ _) ?_
      rfl
    · intro vv W K hB hd HK
      simp only [confRules] at hd HK
      have h30 := hd
      clear hd
      simp only [h30] at HK ⊢
      clear h30
      refine wpList_guard_no (by rfl) ?_
      refine HK.out _ _ (Below.refl _ _) ?_
      rfl
    · intro vv W K hB hd HK
      simp only [confRules] at hd HK
      obtain ⟨h31, h30⟩ := hd
      simp only [h31, h30] at HK ⊢
      clear h31 h30
      refine wpList_guard_no (by rfl) ?_
      refine HK.out _ _ (Below.refl _ _) ?_
      rfl
    · intro vv W K hB hd HK
      simp only [confRules] at hd HK
      obtain ⟨h32, h30⟩ := hd
      simp only [h32, h30] at HK ⊢
      clear h32 h30
      refine wpList_guard_no (by rfl) ?_
      refine HK.out _ _ (Below.refl _ _) ?_
      rfl
    · intro vv W K hB hd HK
      simp only [confRules] at hd HK
      obtain ⟨h30, h33⟩ := hd
      simp only [h30, h33] at HK ⊢
      clear h30 h33
      go_wp2
      refine HK.out _ _ (Below.refl _ _) ?_
      rfl
    · intro vv W K hB hd HK
      simp only [confRules] at hd HK
      obtain ⟨h34, h30⟩ := hd
      simp only [h34, h30] at HK ⊢
      clear h34 h30
      go_wp2
      refine HK.out _ _ (Below.refl _ _) ?_
      rfl
    · intro vv W K hB hd HK
      simp only [confRules] at hd HK
      have h35 := hd
      clear hd
      simp only [h35] at HK ⊢
      clear h35
      refine wpList_guard_no (by rfl) ?_
      refine HK.out _ _ (Below.refl _ _) ?_
      rfl
    · intro vv W K hB hd HK
      simp only [confRules] at hd HK
      obtain ⟨h36, h35⟩ := hd
      simp only [h36, h35] at HK ⊢
      clear h36 h35
      refine wpList_guard_no (by rfl) ?_
      refine HK.out _ _ (Below.refl _ _) ?_
      rfl
    · intro vv W K hB hd HK
      simp only [confRules] at hd HK
      obtain ⟨h37, h35⟩ := hd
      simp only [h37, h35] at HK ⊢
      clear h37 h35
      refine wpList_guard_no (by rfl) ?_
      refine HK.out _ _ (Below.refl _ _) ?_
      rfl
    · intro vv W K hB hd HK
      simp only [confRules] at hd HK
      obtain ⟨h35, h38⟩ := hd
      simp only [h35, h38] at HK ⊢
      clear h35 h38
      go_wp2
      refine HK.out _ _ (Below.refl _ _) ?_
      rfl
    · intro vv W K hB hd HK
      simp only [confRules] at hd HK
      obtain ⟨h39, h35⟩ := hd
      simp only [h39, h35] at HK ⊢
      clear h39 h35
      go_wp2
      refine HK.out _ _ (Below.refl _ _) ?_
      rfl
    · intro vv W K hB hd HK
      simp only [confRules] at hd HK
      have h40 := hd
      clear hd
      simp only [h40] at HK ⊢
      clear h40
      refine wpList_guard_no (by rfl) ?_
      refine HK.out _ _ (Below.refl _ _) ?_
      rfl
    · intro vv W K hB hd HK
      simp only [confRules] at hd HK
      obtain ⟨h41, h40⟩ := hd
      simp only [h41, h40] at HK ⊢
      clear h41 h40
      refine wpList_guard_no (by rfl) ?_
      refine HK.out _ _ (Below.refl _ _) ?_
      rfl
    · intro vv W K hB hd HK
      simp only [confRules] at hd HK
      obtain ⟨h42, h40⟩ := hd
      simp only [h42, h40] at HK ⊢
      clear h42 h40
      refine wpList_guard_no (by rfl) ?_
      refine HK.out _ _ (Below.refl _ _) ?_
      rfl
    · intro vv W K hB hd HK
      simp only [confRules] at hd HK
      obtain ⟨h40, h43⟩ := hd
      simp only [h40, h43] at HK ⊢
      clear h40 h43
      go_wp2
      refine HK.out _ _ (Below.refl _ _) ?_
      rfl
  case rahend =>
    intro vv W hB hf
    have e44 := hf 44 (by decide)
    simp only [endRules] at e44
    simp only [e44, dropRules]
    clear hf e44
    go_wp2
    go_ret
    exact ⟨rfl, hB0.trans (hB.mono (by omega))⟩
set_option maxRecDepth 100000 in
set_option maxHeartbeats 2000000 in
theorem bright_2 (C D : Array Value) (z m o q s d1 d2 : Int) (w : World)
    (hC : ∀ (W : World), W.heap[w.heap.size]? = some (.cells C 54 (0, 0)) → W.cell? ⟨w.heap.size, 0, none⟩ = some (.int .i64 1) ∧ W.cell? ⟨w.heap.size, 1, none⟩ = some (.int .i64 z) ∧ W.cell? ⟨w.heap.size, 2, none⟩ = some (.int .i64 m) ∧ W.cell? ⟨w.heap.size, 3, none⟩ = some (.int .i64 o) ∧ W.cell? ⟨w.heap.size, 4, none⟩ = some (.int .i64 q) ∧ W.cell? ⟨w.heap.size, 5, none⟩ = some (.int .i64 s))
    (hI : (Try.prog.info? 23).map (·.size) = some D.size)
    (h1 : ∀ W, Calls Try.prog 40 #[.agg D, .int .i64 z, .int .i64 o] W fun e w' => e = .returned (.bool true) ∧ Below W.heap.size W w')
    (h2 : ∀ W, Calls Try.prog 40 #[.agg D, .int .i64 m, .int .i64 o] W fun e w' => e = .returned (.bool false) ∧ Below W.heap.size W w') :
    Calls Try.prog 21 #[.agg C, .agg D] w fun e w' => e = .returned (.bool false) ∧ Below w.heap.size w w' := by
  obtain ⟨W0, hW0, hB0, hE, hG, hz0⟩ := bright_setup C D w
  obtain ⟨k0, -⟩ := hC _ hE
  have HW0 := Lib.hid hW0
  have HE := Lib.hid hE
  have HG := Lib.hid hG
  have HI := Lib.hid hI
  have HQ := Lib.hid (fun W hh => (hC W hh).2)
  have H1 := Lib.hid h1
  have H2 := Lib.hid h2
  clear hW0 hE hG hI hC h1 h2
  go_enter Try.func21, Try.ntmps21
  go_upto_region 1 with (fail)
  rw [HW0.out]
  go_wp2
  refine wp_region_conf2 45 [Fact.eq ?rax0, Fact.eq ?rax1, Fact.eq ?rax2, Fact.eq ?rax3, Fact.eq ?rax4, Fact.eq ?rax5, Fact.eq ?rax6, Fact.eq ?rax7, Fact.eq ?rax8, Fact.eq ?rax9, Fact.eq ?rax10, Fact.eq ?rax11, Fact.eq ?rax12, Fact.eq ?rax13, Fact.eq ?rax14, Fact.eq undef, Fact.eq undef, Fact.eq undef, Fact.eq undef, Fact.eq undef, Fact.eq undef, Fact.eq undef, Fact.eq undef, Fact.eq undef, Fact.eq ?rax24, Fact.eq ?rax25, Fact.eq undef, Fact.eq undef, Fact.eq undef, Fact.eq ?rax29, Fact.eq ?rax30, Fact.eq undef, Fact.eq undef, Fact.eq undef, Fact.eq ?rax34, Fact.eq ?rax35, Fact.eq undef, Fact.eq undef, Fact.eq undef, Fact.eq ?rax39, Fact.eq ?rax40, Fact.eq undef, Fact.eq undef, Fact.eq undef, Fact.eq ?rax44] ?raA (by kernel_rfl) (by kernel_rfl) ?rahA ?raho ?rahend
  case rahA =>
    intro vv
    simp only [putRules, Nat.reduceAdd]
    rfl
  case raho =>
    refine ⟨?_, ?_, ?_, ?_, ?_, ?_, ?_, ?_, ?_, ?_, ?_, ?_, ?_, ?_, ?_, ?_, ?_, ?_, ?_, ?_, ?_, ?_, ?_, ?_, ?_, ?_, ?_, ?_, ?_, ?_, ?_, ?_, ?_, ?_, ?_, ?_, ?_, ?_, ?_, ?_, ?_, ?_, ?_, ?_, ?_, trivial⟩
    · intro vv W K hB hd HK
      simp only [confRules] at HK
      clear hd
      have hT := (hB.block (w.heap.size + 1) hz0).trans HG.out
      go_wp2_with (refine wpList_row_on (by rfl) 23 _ rfl (w.heap.size + 1) rfl 23 _ _ _ hT Try.underlying23 rfl HI.out ?_)
      refine HK.out _ _ (Below.refl _ _) ?_
      rfl
    · intro vv W K hB hd HK
      simp only [confRules] at HK
      clear hd
      go_wp2
      refine HK.out _ _ (Below.refl _ _) ?_
      rfl
    · intro vv W K hB hd HK
      simp only [confRules] at hd HK
      have h1 := hd
      clear hd
      simp only [h1] at HK ⊢
      clear h1
      have hT := (hB.block w.heap.size (by omega)).trans HE.out
      obtain ⟨k1, k2, k3, k4, k5⟩ := HQ.out _ hT
      clear hT
      go_wp2
      refine HK.out _ _ (Below.refl _ _) ?_
      rfl
    · intro vv W K hB hd HK
      simp only [confRules] at HK
      clear hd
      go_wp2
      refine HK.out _ _ (Below.refl _ _) ?_
      rfl
    · intro vv W K hB hd HK
      simp only [confRules] at hd HK
      have h3 := hd
      clear hd
      simp only [h3] at HK ⊢
      clear h3
      have hT := (hB.block w.heap.size (by omega)).trans HE.out
      obtain ⟨k1, k2, k3, k4, k5⟩ := HQ.out _ hT
      clear hT
      go_wp2
      refine HK.out _ _ (Below.refl _ _) ?_
      rfl
    · intro vv W K hB hd HK
      simp only [confRules] at hd HK
      obtain ⟨h0, h2, h4⟩ := hd
      simp only [h0, h2, h4] at HK ⊢
      clear h0 h2 h4
      go_wp2_with (refine (H1.out _).mono ?_; rintro e w9 ⟨rfl, hB9⟩)
      refine HK.out _ _ hB9 ?_
      rfl
    · intro vv W K hB hd HK
      simp only [confRules] at hd HK
      obtain ⟨h5, _⟩ := hd
      simp only [h5] at HK ⊢
      clear h5
      go_wp2
      refine HK.out _ _ (Below.refl _ _) ?_
      rfl
    · intro vv W K hB hd HK
      simp only [confRules] at hd HK
      have h6 := hd
      clear hd
      simp only [h6] at HK ⊢
      clear h6
      refine wpList_guard_yes (by rfl) ?_
      have hT := (hB.block (w.heap.size + 1) hz0).trans HG.out
      go_wp2_with (refine wpList_row_on (by rfl) 23 _ rfl (w.heap.size + 1) rfl 23 _ _ _ hT Try.underlying23 rfl HI.out ?_)
      refine HK.out _ _ (Below.refl _ _) ?_
      rfl
    · intro vv W K hB hd HK
      simp only [confRules] at hd HK
      have h6 := hd
      clear hd
      simp only [h6] at HK ⊢
      clear h6
      refine wpList_guard_yes (by rfl) ?_
      go_wp2
      refine HK.out _ _ (Below.refl _ _) ?_
      rfl
    · intro vv W K hB hd HK
      simp only [confRules] at hd HK
      obtain ⟨h8, h6⟩ := hd
      simp only [h8, h6] at HK ⊢
      clear h8 h6
      refine wpList_guard_yes (by rfl) ?_
      have hT := (hB.block w.heap.size (by omega)).trans HE.out
      obtain ⟨k1, k2, k3, k4, k5⟩ := HQ.out _ hT
      clear hT
      go_wp2
      refine HK.out _ _ (Below.refl _ _) ?_
      rfl
    · intro vv W K hB hd HK
      simp only [confRules] at hd HK
      have h6 := hd
      clear hd
      simp only [h6] at HK ⊢
      clear h6
      refine wpList_guard_yes (by rfl) ?_
      go_wp2
      refine HK.out _ _ (Below.refl _ _) ?_
      rfl
    · intro vv W K hB hd HK
      simp only [confRules] at hd HK
      obtain ⟨h10, h6⟩ := hd
      simp only [h10, h6] at HK ⊢
      clear h10 h6
      refine wpList_guard_yes (by rfl) ?_
      have hT := (hB.block w.heap.size (by omega)).trans HE.out
      obtain ⟨k1, k2, k3, k4, k5⟩ := HQ.out _ hT
      clear hT
      go_wp2
      refine HK.out _ _ (Below.refl _ _) ?_
      rfl
    · intro vv W K hB hd HK
      simp only [confRules] at hd HK
      obtain ⟨h7, h9, h11, h6, _⟩ := hd
      simp only [h7, h9, h11, h6] at HK ⊢
      clear h7 h9 h11 h6
      refine wpList_guard_yes (by rfl) ?_
      go_wp2_with (refine (H2.out _).mono ?_; rintro e w9 ⟨rfl, hB9⟩)
      refine HK.out _ _ hB9 ?_
      rfl
    · intro vv W K hB hd HK
      simp only [confRules] at hd HK
      obtain ⟨h6, h12⟩ := hd
      simp only [h6, h12] at HK ⊢
      clear h6 h12
      go_wp2
      refine HK.out _ _ (Below.refl _ _) ?_
      rfl
    · intro vv W K hB hd HK
      simp only [confRules] at hd HK
      obtain ⟨h13, h12⟩ := hd
      simp only [h13, h12] at HK ⊢
      clear h13 h12
      go_wp2
      refine HK.out _ _ (Below.refl _ _) ?_
      rfl
    · intro vv W K hB hd HK
      simp only [confRules] at hd HK
      have h14 := hd
      clear hd
      simp only [h14] at HK ⊢
      clear h14
      refine wpList_guard_no (by rfl) ?_
      refine HK.out _ _ (Below.refl _ _) ?_
      rfl
    · intro vv W K hB hd HK
      simp only [confRules] at hd HK
      have h14 := hd
      clear hd
      simp only [h14] at HK ⊢
      clear h14
      refine wpList_guard_no (by rfl) ?_
      refine HK.out _ _ (Below.refl _ _) ?_
      rfl
    · intro vv W K hB hd HK
      simp only [confRules] at hd HK
      obtain ⟨h16, h14⟩ := hd
      simp only [h16, h14] at HK ⊢
      clear h16 h14
      refine wpList_guard_no (by rfl) ?_
      refine HK.out _ _ (Below.refl _ _) ?_
      rfl
    · intro vv W K hB hd HK
      simp only [confRules] at hd HK
      obtain ⟨h15, h17, h14, _⟩ := hd
      simp only [h15, h17, h14] at HK ⊢
      clear h15 h17 h14
      refine wpList_guard_no (by rfl) ?_
      refine HK.out _ _ (Below.refl _ _) ?_
      rfl
    · intro vv W K hB hd HK
      simp only [confRules] at hd HK
      have h14 := hd
      clear hd
      simp only [h14] at HK ⊢
      clear h14
      refine wpList_guard_no (by rfl) ?_
      refine HK.out _ _ (Below.refl _ _) ?_
      rfl
    · intro vv W K hB hd HK
      simp only [confRules] at hd HK
      have h14 := hd
      clear hd
      simp only [h14] at HK ⊢
      clear h14
      refine wpList_guard_no (by rfl) ?_
      refine HK.out _ _ (Below.refl _ _) ?_
      rfl
    · intro vv W K hB hd HK
      simp only [confRules] at hd HK
      obtain ⟨h20, h14⟩ := hd
      simp only [h20, h14] at HK ⊢
      clear h20 h14
      refine wpList_guard_no (by rfl) ?_
      refine HK.out _ _ (Below.refl _ _) ?_
      rfl
    · intro vv W K hB hd HK
      simp only [confRules] at hd HK
      obtain ⟨h19, h21, h18, h14⟩ := hd
      simp only [h19, h21, h18, h14] at HK ⊢
      clear h19 h21 h18 h14
      refine wpList_guard_no (by rfl) ?_
      refine HK.out _ _ (Below.refl _ _) ?_
      rfl
    · intro vv W K hB hd HK
      simp only [confRules] at hd HK
      obtain ⟨h18, h22, h14⟩ := hd
      simp only [h18, h22, h14] at HK ⊢
      clear h18 h22 h14
      refine wpList_guard_no (by rfl) ?_
      refine HK.out _ _ (Below.refl _ _) ?_
      rfl
    · intro vv W K hB hd HK
      simp only [confRules] at hd HK
      obtain ⟨h14, h23⟩ := hd
      simp only [h14, h23] at HK ⊢
      clear h14 h23
      go_wp2
      refine HK.out _ _ (Below.refl _ _) ?_
      rfl
    · intro vv W K hB hd HK
      simp only [confRules] at hd HK
      obtain ⟨h24, h22⟩ := hd
      simp only [h24, h22] at HK ⊢
      clear h24 h22
      go_wp2
      refine HK.out _ _ (Below.refl _ _) ?_
      rfl
    · intro vv W K hB hd HK
      simp only [confRules] at hd HK
      have h25 := hd
      clear hd
      simp only [h25] at HK ⊢
      clear h25
      refine wpList_guard_no (by rfl) ?_
      refine HK.out _ _ (Below.refl _ _) ?_
      rfl
    · intro vv W K hB hd HK
      simp only [confRules] at hd HK
      obtain ⟨h26, h25⟩ := hd
      simp only [h26, h25] at HK ⊢
      clear h26 h25
      refine wpList_guard_no (by rfl) ?_
      refine HK.out _ _ (Below.refl _ _) ?_
      rfl
    · intro vv W K hB hd HK
      simp only [confRules] at hd HK
      obtain ⟨h27, h25⟩ := hd
      simp only [h27, h25] at HK ⊢
      clear h27 h25
      refine wpList_guard_no (by rfl) ?_
      refine HK.out _ _ (Below.refl _ _) ?_
      rfl
    · intro vv W K hB hd HK
      simp only [confRules] at hd HK
      obtain ⟨h25, h28⟩ := hd
      simp only [h25, h28] at HK ⊢
      clear h25 h28
      go_wp2
      refine HK.out _ _ (Below.refl _ _) ?_
      rfl
    · intro vv W K hB hd HK
      simp only [confRules] at hd HK
      obtain ⟨h29, h25⟩ := hd
      simp only [h29, h25] at HK ⊢
      clear h29 h25
      go_wp2
      refine HK.out _ _ (Below.refl _ _) ?_
      rfl
    · intro vv W K hB hd HK
      simp only [confRules] at hd HK
      have h30 := hd
      clear hd
      simp only [h30] at HK ⊢
      clear h30
      refine wpList_guard_no (by rfl) ?_
      refine HK.out _ _ (Below.refl _ _) ?_
      rfl
    · intro vv W K hB hd HK
      simp only [confRules] at hd HK
      obtain ⟨h31, h30⟩ := hd
      simp only [h31, h30] at HK ⊢
      clear h31 h30
      refine wpList_guard_no (by rfl) ?_
      refine HK.out _ _ (Below.refl _ _) ?_
      rfl
    · intro vv W K hB hd HK
      simp only [confRules] at hd HK
      obtain ⟨h32, h30⟩ := hd
      simp only [h32, h30] at HK ⊢
      clear h32 h30
      refine wpList_guard_no (by rfl) ?_
      refine HK.out _ _ (Below.refl _ _) ?_
      rfl
    · intro vv W K hB hd HK
      simp only [confRules] at hd HK
      obtain ⟨h30, h33⟩ := hd
      simp only [h30, h33] at HK ⊢
      clear h30 h33
      go_wp2
      refine HK.out _ _ (Below.refl _ _) ?_
      rfl
    · intro vv W K hB hd HK
      simp only [confRules] at hd HK
      obtain ⟨h34, h30⟩ := hd
      simp only [h34, h30] at HK ⊢
      clear h34 h30
      go_wp2
      refine HK.out _ _ (Below.refl _ _) ?_
      rfl
    · intro vv W K hB hd HK
      simp only [confRules] at hd HK
      have h35 := hd
      clear hd
      simp only [h35] at HK ⊢
      clear h35
      refine wpList_guard_no (by rfl) ?_
      refine HK.out _ _ (Below.refl _ _) ?_
      rfl
    · intro vv W K hB hd HK
      simp only [confRules] at hd HK
      obtain ⟨h36, h35⟩ := hd
      simp only [h36, h35] at HK ⊢
      clear h36 h35
      refine wpList_guard_no (by rfl) ?_
      refine HK.out _ _ (Below.refl _ _) ?_
      rfl
    · intro vv W K hB hd HK
      simp only [confRules] at hd HK
      obtain ⟨h37, h35⟩ := hd
      simp only [h37, h35] at HK ⊢
      clear h37 h35
      refine wpList_guard_no (by rfl) ?_
      refine HK.out _ _ (Below.refl _ _) ?_
      rfl
    · intro vv W K hB hd HK
      simp only [confRules] at hd HK
      obtain ⟨h35, h38⟩ := hd
      simp only [h35, h38] at HK ⊢
      clear h35 h38
      go_wp2
      refine HK.out _ _ (Below.refl _ _) ?_
      rfl
    · intro vv W K hB hd HK
      simp only [confRules] at hd HK
      obtain ⟨h39, h35⟩ := hd
      simp only [h39, h35] at HK ⊢
      clear h39 h35
      go_wp2
      refine HK.out _ _ (Below.refl _ _) ?_
      rfl
    · intro vv W K hB hd HK
      simp only [confRules] at hd HK
      have h40 := hd
      clear hd
      simp only [h40] at HK ⊢
      clear h40
      refine wpList_guard_no (by rfl) ?_
      refine HK.out _ _ (Below.refl _ _) ?_
      rfl
    · intro vv W K hB hd HK
      simp only [confRules] at hd HK
      obtain ⟨h41, h40⟩ := hd
      simp only [h41, h40] at HK ⊢
      clear h41 h40
      refine wpList_guard_no (by rfl) ?_
      refine HK.out _ _ (Below.refl _ _) ?_
      rfl
    · intro vv W K hB hd HK
      simp only [confRules] at hd HK
      obtain ⟨h42, h40⟩ := hd
      simp only [h42, h40] at HK ⊢
      clear h42 h40
      refine wpList_guard_no (by rfl) ?_
      refine HK.out _ _ (Below.refl _ _) ?_
      rfl
    · intro vv W K hB hd HK
      simp only [confRules] at hd HK
      obtain ⟨h40, h43⟩ := hd
      simp only [h40, h43] at HK ⊢
      clear h40 h43
      go_wp2
      refine HK.out _ _ (Below.refl _ _) ?_
      rfl
  case rahend =>
    intro vv W hB hf
    have e44 := hf 44 (by decide)
    simp only [endRules] at e44
    simp only [e44, dropRules]
    clear hf e44
    go_wp2
    go_ret
    exact ⟨rfl, hB0.trans (hB.mono (by omega))⟩
set_option maxRecDepth 100000 in
set_option maxHeartbeats 2000000 in
theorem bright_3 (C D : Array Value) (z m o q s d1 d2 : Int) (w : World)
    (hC : ∀ (W : World), W.heap[w.heap.size]? = some (.cells C 54 (0, 0)) → W.cell? ⟨w.heap.size, 0, none⟩ = some (.int .i64 1) ∧ W.cell? ⟨w.heap.size, 1, none⟩ = some (.int .i64 z) ∧ W.cell? ⟨w.heap.size, 2, none⟩ = some (.int .i64 m) ∧ W.cell? ⟨w.heap.size, 3, none⟩ = some (.int .i64 o) ∧ W.cell? ⟨w.heap.size, 4, none⟩ = some (.int .i64 q) ∧ W.cell? ⟨w.heap.size, 5, none⟩ = some (.int .i64 s))
    (hI : (Try.prog.info? 23).map (·.size) = some D.size)
    (h1 : ∀ W, Calls Try.prog 40 #[.agg D, .int .i64 z, .int .i64 o] W fun e w' => e = .returned (.bool true) ∧ Below W.heap.size W w')
    (h2 : ∀ W, Calls Try.prog 40 #[.agg D, .int .i64 m, .int .i64 o] W fun e w' => e = .returned (.bool true) ∧ Below W.heap.size W w')
    (hd1 : ∀ W, Calls Try.prog 41 #[.agg D, .int .i64 z] W fun e w' => e = .returned (.int .i64 d1) ∧ Below W.heap.size W w') (hd2 : ∀ W, Calls Try.prog 41 #[.agg D, .int .i64 m] W fun e w' => e = .returned (.int .i64 d1) ∧ Below W.heap.size W w') :
    Calls Try.prog 21 #[.agg C, .agg D] w fun e w' => e = .returned (.bool false) ∧ Below w.heap.size w w' := by
  obtain ⟨W0, hW0, hB0, hE, hG, hz0⟩ := bright_setup C D w
  obtain ⟨k0, -⟩ := hC _ hE
  have HW0 := Lib.hid hW0
  have HE := Lib.hid hE
  have HG := Lib.hid hG
  have HI := Lib.hid hI
  have HQ := Lib.hid (fun W hh => (hC W hh).2)
  have H1 := Lib.hid h1
  have H2 := Lib.hid h2
  have D1 := Lib.hid hd1
  have D2 := Lib.hid hd2
  clear hW0 hE hG hI hC h1 h2 hd1 hd2
  go_enter Try.func21, Try.ntmps21
  go_upto_region 1 with (fail)
  rw [HW0.out]
  go_wp2
  refine wp_region_conf2 45 [Fact.eq ?rax0, Fact.eq ?rax1, Fact.eq ?rax2, Fact.eq ?rax3, Fact.eq ?rax4, Fact.eq ?rax5, Fact.eq ?rax6, Fact.eq ?rax7, Fact.eq ?rax8, Fact.eq ?rax9, Fact.eq ?rax10, Fact.eq ?rax11, Fact.eq ?rax12, Fact.eq ?rax13, Fact.eq ?rax14, Fact.eq ?rax15, Fact.eq ?rax16, Fact.eq ?rax17, Fact.eq ?rax18, Fact.eq ?rax19, Fact.eq ?rax20, Fact.eq ?rax21, Fact.eq ?rax22, Fact.eq ?rax23, Fact.eq ?rax24, Fact.eq ?rax25, Fact.eq undef, Fact.eq undef, Fact.eq undef, Fact.eq ?rax29, Fact.eq ?rax30, Fact.eq undef, Fact.eq undef, Fact.eq undef, Fact.eq ?rax34, Fact.eq ?rax35, Fact.eq undef, Fact.eq undef, Fact.eq undef, Fact.eq ?rax39, Fact.eq ?rax40, Fact.eq undef, Fact.eq undef, Fact.eq undef, Fact.eq ?rax44] ?raA (by kernel_rfl) (by kernel_rfl) ?rahA ?raho ?rahend
  case rahA =>
    intro vv
    simp only [putRules, Nat.reduceAdd]
    rfl
  case raho =>
    refine ⟨?_, ?_, ?_, ?_, ?_, ?_, ?_, ?_, ?_, ?_, ?_, ?_, ?_, ?_, ?_, ?_, ?_, ?_, ?_, ?_, ?_, ?_, ?_, ?_, ?_, ?_, ?_, ?_, ?_, ?_, ?_, ?_, ?_, ?_, ?_, ?_, ?_, ?_, ?_, ?_, ?_, ?_, ?_, ?_, ?_, trivial⟩
    · intro vv W K hB hd HK
      simp only [confRules] at HK
      clear hd
      have hT := (hB.block (w.heap.size + 1) hz0).trans HG.out
      go_wp2_with (refine wpList_row_on (by rfl) 23 _ rfl (w.heap.size + 1) rfl 23 _ _ _ hT Try.underlying23 rfl HI.out ?_)
      refine HK.out _ _ (Below.refl _ _) ?_
      rfl
    · intro vv W K hB hd HK
      simp only [confRules] at HK
      clear hd
      go_wp2
      refine HK.out _ _ (Below.refl _ _) ?_
      rfl
    · intro vv W K hB hd HK
      simp only [confRules] at hd HK
      have h1 := hd
      clear hd
      simp only [h1] at HK ⊢
      clear h1
      have hT := (hB.block w.heap.size (by omega)).trans HE.out
      obtain ⟨k1, k2, k3, k4, k5⟩ := HQ.out _ hT
      clear hT
      go_wp2
      refine HK.out _ _ (Below.refl _ _) ?_
      rfl
    · intro vv W K hB hd HK
      simp only [confRules] at HK
      clear hd
      go_wp2
      refine HK.out _ _ (Below.refl _ _) ?_
      rfl
    · intro vv W K hB hd HK
      simp only [confRules] at hd HK
      have h3 := hd
      clear hd
      simp only [h3] at HK ⊢
      clear h3
      have hT := (hB.block w.heap.size (by omega)).trans HE.out
      obtain ⟨k1, k2, k3, k4, k5⟩ := HQ.out _ hT
      clear hT
      go_wp2
      refine HK.out _ _ (Below.refl _ _) ?_
      rfl
    · intro vv W K hB hd HK
      simp only [confRules] at hd HK
      obtain ⟨h0, h2, h4⟩ := hd
      simp only [h0, h2, h4] at HK ⊢
      clear h0 h2 h4
      go_wp2_with (refine (H1.out _).mono ?_; rintro e w9 ⟨rfl, hB9⟩)
      refine HK.out _ _ hB9 ?_
      rfl
    · intro vv W K hB hd HK
      simp only [confRules] at hd HK
      obtain ⟨h5, _⟩ := hd
      simp only [h5] at HK ⊢
      clear h5
      go_wp2
      refine HK.out _ _ (Below.refl _ _) ?_
      rfl
    · intro vv W K hB hd HK
      simp only [confRules] at hd HK
      have h6 := hd
      clear hd
      simp only [h6] at HK ⊢
      clear h6
      refine wpList_guard_yes (by rfl) ?_
      have hT := (hB.block (w.heap.size + 1) hz0).trans HG.out
      go_wp2_with (refine wpList_row_on (by rfl) 23 _ rfl (w.heap.size + 1) rfl 23 _ _ _ hT Try.underlying23 rfl HI.out ?_)
      refine HK.out _ _ (Below.refl _ _) ?_
      rfl
    · intro vv W K hB hd HK
      simp only [confRules] at hd HK
      have h6 := hd
      clear hd
      simp only [h6] at HK ⊢
      clear h6
      refine wpList_guard_yes (by rfl) ?_
      go_wp2
      refine HK.out _ _ (Below.refl _ _) ?_
      rfl
    · intro vv W K hB hd HK
      simp only [confRules] at hd HK
      obtain ⟨h8, h6⟩ := hd
      simp only [h8, h6] at HK ⊢
      clear h8 h6
      refine wpList_guard_yes (by rfl) ?_
      have hT := (hB.block w.heap.size (by omega)).trans HE.out
      obtain ⟨k1, k2, k3, k4, k5⟩ := HQ.out _ hT
      clear hT
      go_wp2
      refine HK.out _ _ (Below.refl _ _) ?_
      rfl
    · intro vv W K hB hd HK
      simp only [confRules] at hd HK
      have h6 := hd
      clear hd
      simp only [h6] at HK ⊢
      clear h6
      refine wpList_guard_yes (by rfl) ?_
      go_wp2
      refine HK.out _ _ (Below.refl _ _) ?_
      rfl
    · intro vv W K hB hd HK
      simp only [confRules] at hd HK
      obtain ⟨h10, h6⟩ := hd
      simp only [h10, h6] at HK ⊢
      clear h10 h6
      refine wpList_guard_yes (by rfl) ?_
      have hT := (hB.block w.heap.size (by omega)).trans HE.out
      obtain ⟨k1, k2, k3, k4, k5⟩ := HQ.out _ hT
      clear hT
      go_wp2
      refine HK.out _ _ (Below.refl _ _) ?_
      rfl
    · intro vv W K hB hd HK
      simp only [confRules] at hd HK
      obtain ⟨h7, h9, h11, h6, _⟩ := hd
      simp only [h7, h9, h11, h6] at HK ⊢
      clear h7 h9 h11 h6
      refine wpList_guard_yes (by rfl) ?_
      go_wp2_with (refine (H2.out _).mono ?_; rintro e w9 ⟨rfl, hB9⟩)
      refine HK.out _ _ hB9 ?_
      rfl
    · intro vv W K hB hd HK
      simp only [confRules] at hd HK
      obtain ⟨h6, h12⟩ := hd
      simp only [h6, h12] at HK ⊢
      clear h6 h12
      go_wp2
      refine HK.out _ _ (Below.refl _ _) ?_
      rfl
    · intro vv W K hB hd HK
      simp only [confRules] at hd HK
      obtain ⟨h13, h12⟩ := hd
      simp only [h13, h12] at HK ⊢
      clear h13 h12
      go_wp2
      refine HK.out _ _ (Below.refl _ _) ?_
      rfl
    · intro vv W K hB hd HK
      simp only [confRules] at hd HK
      have h14 := hd
      clear hd
      simp only [h14] at HK ⊢
      clear h14
      refine wpList_guard_yes (by rfl) ?_
      have hT := (hB.block (w.heap.size + 1) hz0).trans HG.out
      go_wp2_with (refine wpList_row_on (by rfl) 23 _ rfl (w.heap.size + 1) rfl 23 _ _ _ hT Try.underlying23 rfl HI.out ?_)
      refine HK.out _ _ (Below.refl _ _) ?_
      rfl
    · intro vv W K hB hd HK
      simp only [confRules] at hd HK
      have h14 := hd
      clear hd
      simp only [h14] at HK ⊢
      clear h14
      refine wpList_guard_yes (by rfl) ?_
      go_wp2
      refine HK.out _ _ (Below.refl _ _) ?_
      rfl
    · intro vv W K hB hd HK
      simp only [confRules] at hd HK
      obtain ⟨h16, h14⟩ := hd
      simp only [h16, h14] at HK ⊢
      clear h16 h14
      refine wpList_guard_yes (by rfl) ?_
      have hT := (hB.block w.heap.size (by omega)).trans HE.out
      obtain ⟨k1, k2, k3, k4, k5⟩ := HQ.out _ hT
      clear hT
      go_wp2
      refine HK.out _ _ (Below.refl _ _) ?_
      rfl
    · intro vv W K hB hd HK
      simp only [confRules] at hd HK
      obtain ⟨h15, h17, h14, _⟩ := hd
      simp only [h15, h17, h14] at HK ⊢
      clear h15 h17 h14
      refine wpList_guard_yes (by rfl) ?_
      go_wp2_with (refine (D1.out _).mono ?_; rintro e w9 ⟨rfl, hB9⟩)
      refine HK.out _ _ hB9 ?_
      rfl
    · intro vv W K hB hd HK
      simp only [confRules] at hd HK
      have h14 := hd
      clear hd
      simp only [h14] at HK ⊢
      clear h14
      refine wpList_guard_yes (by rfl) ?_
      have hT := (hB.block (w.heap.size + 1) hz0).trans HG.out
      go_wp2_with (refine wpList_row_on (by rfl) 23 _ rfl (w.heap.size + 1) rfl 23 _ _ _ hT Try.underlying23 rfl HI.out ?_)
      refine HK.out _ _ (Below.refl _ _) ?_
      rfl
    · intro vv W K hB hd HK
      simp only [confRules] at hd HK
      have h14 := hd
      clear hd
      simp only [h14] at HK ⊢
      clear h14
      refine wpList_guard_yes (by rfl) ?_
      go_wp2
      refine HK.out _ _ (Below.refl _ _) ?_
      rfl
    · intro vv W K hB hd HK
      simp only [confRules] at hd HK
      obtain ⟨h20, h14⟩ := hd
      simp only [h20, h14] at HK ⊢
      clear h20 h14
      refine wpList_guard_yes (by rfl) ?_
      have hT := (hB.block w.heap.size (by omega)).trans HE.out
      obtain ⟨k1, k2, k3, k4, k5⟩ := HQ.out _ hT
      clear hT
      go_wp2
      refine HK.out _ _ (Below.refl _ _) ?_
      rfl
    · intro vv W K hB hd HK
      simp only [confRules] at hd HK
      obtain ⟨h19, h21, h18, h14⟩ := hd
      simp only [h19, h21, h18, h14] at HK ⊢
      clear h19 h21 h18 h14
      refine wpList_guard_yes (by rfl) ?_
      go_wp2_with (refine (D2.out _).mono ?_; rintro e w9 ⟨rfl, hB9⟩)
      refine HK.out _ _ hB9 ?_
      rfl
    · intro vv W K hB hd HK
      simp only [confRules] at hd HK
      obtain ⟨h18, h22, h14⟩ := hd
      simp only [h18, h22, h14] at HK ⊢
      clear h18 h22 h14
      refine wpList_guard_yes (by rfl) ?_
      go_wp2
      refine HK.out _ _ (Below.refl _ _) ?_
      rfl
    · intro vv W K hB hd HK
      simp only [confRules] at hd HK
      obtain ⟨h14, h23⟩ := hd
      simp only [h14, h23] at HK ⊢
      clear h14 h23
      go_wp2
      refine HK.out _ _ (Below.refl _ _) ?_
      rfl
    · intro vv W K hB hd HK
      simp only [confRules] at hd HK
      obtain ⟨h24, h22⟩ := hd
      simp only [h24, h22] at HK ⊢
      clear h24 h22
      go_wp2
      refine HK.out _ _ (Below.refl _ _) ?_
      rfl
    · intro vv W K hB hd HK
      simp only [confRules] at hd HK
      have h25 := hd
      clear hd
      simp only [h25] at HK ⊢
      clear h25
      refine wpList_guard_no (by rfl) ?_
      refine HK.out _ _ (Below.refl _ _) ?_
      rfl
    · intro vv W K hB hd HK
      simp only [confRules] at hd HK
      obtain ⟨h26, h25⟩ := hd
      simp only [h26, h25] at HK ⊢
      clear h26 h25
      refine wpList_guard_no (by rfl) ?_
      refine HK.out _ _ (Below.refl _ _) ?_
      rfl
    · intro vv W K hB hd HK
      simp only [confRules] at hd HK
      obtain ⟨h27, h25⟩ := hd
      simp only [h27, h25] at HK ⊢
      clear h27 h25
      refine wpList_guard_no (by rfl) ?_
      refine HK.out _ _ (Below.refl _ _) ?_
      rfl
    · intro vv W K hB hd HK
      simp only [confRules] at hd HK
      obtain ⟨h25, h28⟩ := hd
      simp only [h25, h28] at HK ⊢
      clear h25 h28
      go_wp2
      refine HK.out _ _ (Below.refl _ _) ?_
      rfl
    · intro vv W K hB hd HK
      simp only [confRules] at hd HK
      obtain ⟨h29, h25⟩ := hd
      simp only [h29, h25] at HK ⊢
      clear h29 h25
      go_wp2
      refine HK.out _ _ (Below.refl _ _) ?_
      rfl
    · intro vv W K hB hd HK
      simp only [confRules] at hd HK
      have h30 := hd
      clear hd
      simp only [h30] at HK ⊢
      clear h30
      refine wpList_guard_no (by rfl) ?_
      refine HK.out _ _ (Below.refl _ _) ?_
      rfl
    · intro vv W K hB hd HK
      simp only [confRules] at hd HK
      obtain ⟨h31, h30⟩ := hd
      simp only [h31, h30] at HK ⊢
      clear h31 h30
      refine wpList_guard_no (by rfl) ?_
      refine HK.out _ _ (Below.refl _ _) ?_
      rfl
    · intro vv W K hB hd HK
      simp only [confRules] at hd HK
      obtain ⟨h32, h30⟩ := hd
      simp only [h32, h30] at HK ⊢
      clear h32 h30
      refine wpList_guard_no (by rfl) ?_
      refine HK.out _ _ (Below.refl _ _) ?_
      rfl
    · intro vv W K hB hd HK
      simp only [confRules] at hd HK
      obtain ⟨h30, h33⟩ := hd
      simp only [h30, h33] at HK ⊢
      clear h30 h33
      go_wp2
      refine HK.out _ _ (Below.refl _ _) ?_
      rfl
    · intro vv W K hB hd HK
      simp only [confRules] at hd HK
      obtain ⟨h34, h30⟩ := hd
      simp only [h34, h30] at HK ⊢
      clear h34 h30
      go_wp2
      refine HK.out _ _ (Below.refl _ _) ?_
      rfl
    · intro vv W K hB hd HK
      simp only [confRules] at hd HK
      have h35 := hd
      clear hd
      simp only [h35] at HK ⊢
      clear h35
      refine wpList_guard_no (by rfl) ?_
      refine HK.out _ _ (Below.refl _ _) ?_
      rfl
    · intro vv W K hB hd HK
      simp only [confRules] at hd HK
      obtain ⟨h36, h35⟩ := hd
      simp only [h36, h35] at HK ⊢
      clear h36 h35
      refine wpList_guard_no (by rfl) ?_
      refine HK.out _ _ (Below.refl _ _) ?_
      rfl
    · intro vv W K hB hd HK
      simp only [confRules] at hd HK
      obtain ⟨h37, h35⟩ := hd
      simp only [h37, h35] at HK ⊢
      clear h37 h35
      refine wpList_guard_no (by rfl) ?_
      refine HK.out _ _ (Below.refl _ _) ?_
      rfl
    · intro vv W K hB hd HK
      simp only [confRules] at hd HK
      obtain ⟨h35, h38⟩ := hd
      simp only [h35, h38] at HK ⊢
      clear h35 h38
      go_wp2
      refine HK.out _ _ (Below.refl _ _) ?_
      rfl
    · intro vv W K hB hd HK
      simp only [confRules] at hd HK
      obtain ⟨h39, h35⟩ := hd
      simp only [h39, h35] at HK ⊢
      clear h39 h35
      go_wp2
      refine HK.out _ _ (Below.refl _ _) ?_
      rfl
    · intro vv W K hB hd HK
      simp only [confRules] at hd HK
      have h40 := hd
      clear hd
      simp only [h40] at HK ⊢
      clear h40
      refine wpList_guard_no (by rfl) ?_
      refine HK.out _ _ (Below.refl _ _) ?_
      rfl
    · intro vv W K hB hd HK
      simp only [confRules] at hd HK
      obtain ⟨h41, h40⟩ := hd
      simp only [h41, h40] at HK ⊢
      clear h41 h40
      refine wpList_guard_no (by rfl) ?_
      refine HK.out _ _ (Below.refl _ _) ?_
      rfl
    · intro vv W K hB hd HK
      simp only [confRules] at hd HK
      obtain ⟨h42, h40⟩ := hd
      simp only [h42, h40] at HK ⊢
      clear h42 h40
      refine wpList_guard_no (by rfl) ?_
      refine HK.out _ _ (Below.refl _ _) ?_
      rfl
    · intro vv W K hB hd HK
      simp only [confRules] at hd HK
      obtain ⟨h40, h43⟩ := hd
      simp only [h40, h43] at HK ⊢
      clear h40 h43
      go_wp2
      refine HK.out _ _ (Below.refl _ _) ?_
      rfl
  case rahend =>
    intro vv W hB hf
    have e44 := hf 44 (by decide)
    simp only [endRules] at e44
    simp only [e44, dropRules]
    clear hf e44
    go_wp2
    go_ret
    exact ⟨rfl, hB0.trans (hB.mono (by omega))⟩
set_option maxRecDepth 100000 in
set_option maxHeartbeats 2000000 in
theorem bright_4 (C D : Array Value) (z m o q s d1 d2 : Int) (w : World)
    (hC : ∀ (W : World), W.heap[w.heap.size]? = some (.cells C 54 (0, 0)) → W.cell? ⟨w.heap.size, 0, none⟩ = some (.int .i64 1) ∧ W.cell? ⟨w.heap.size, 1, none⟩ = some (.int .i64 z) ∧ W.cell? ⟨w.heap.size, 2, none⟩ = some (.int .i64 m) ∧ W.cell? ⟨w.heap.size, 3, none⟩ = some (.int .i64 o) ∧ W.cell? ⟨w.heap.size, 4, none⟩ = some (.int .i64 q) ∧ W.cell? ⟨w.heap.size, 5, none⟩ = some (.int .i64 s))
    (hI : (Try.prog.info? 23).map (·.size) = some D.size)
    (h1 : ∀ W, Calls Try.prog 40 #[.agg D, .int .i64 z, .int .i64 o] W fun e w' => e = .returned (.bool true) ∧ Below W.heap.size W w')
    (h2 : ∀ W, Calls Try.prog 40 #[.agg D, .int .i64 m, .int .i64 o] W fun e w' => e = .returned (.bool true) ∧ Below W.heap.size W w')
    (hd1 : ∀ W, Calls Try.prog 41 #[.agg D, .int .i64 z] W fun e w' => e = .returned (.int .i64 d1) ∧ Below W.heap.size W w') (hd2 : ∀ W, Calls Try.prog 41 #[.agg D, .int .i64 m] W fun e w' => e = .returned (.int .i64 d2) ∧ Below W.heap.size W w') (t3 : (d1 == d2) = false)
    (t4 : decide (1 ≤ q) = false) :
    Calls Try.prog 21 #[.agg C, .agg D] w fun e w' => e = .returned (.bool false) ∧ Below w.heap.size w w' := by
  obtain ⟨W0, hW0, hB0, hE, hG, hz0⟩ := bright_setup C D w
  obtain ⟨k0, -⟩ := hC _ hE
  have HW0 := Lib.hid hW0
  have HE := Lib.hid hE
  have HG := Lib.hid hG
  have HI := Lib.hid hI
  have HQ := Lib.hid (fun W hh => (hC W hh).2)
  have H1 := Lib.hid h1
  have H2 := Lib.hid h2
  have D1 := Lib.hid hd1
  have D2 := Lib.hid hd2
  have T3 := Lib.hid t3
  have T4 := Lib.hid t4
  clear hW0 hE hG hI hC h1 h2 hd1 hd2 t3 t4
  go_enter Try.func21, Try.ntmps21
  go_upto_region 1 with (fail)
  rw [HW0.out]
  go_wp2
  refine wp_region_conf2 45 [Fact.eq ?rax0, Fact.eq ?rax1, Fact.eq ?rax2, Fact.eq ?rax3, Fact.eq ?rax4, Fact.eq ?rax5, Fact.eq ?rax6, Fact.eq ?rax7, Fact.eq ?rax8, Fact.eq ?rax9, Fact.eq ?rax10, Fact.eq ?rax11, Fact.eq ?rax12, Fact.eq ?rax13, Fact.eq ?rax14, Fact.eq ?rax15, Fact.eq ?rax16, Fact.eq ?rax17, Fact.eq ?rax18, Fact.eq ?rax19, Fact.eq ?rax20, Fact.eq ?rax21, Fact.eq ?rax22, Fact.eq (.bool true), Fact.eq ?rax24, Fact.eq ?rax25, Fact.eq ?rax26, Fact.eq ?rax27, Fact.eq (.bool false), Fact.eq ?rax29, Fact.eq ?rax30, Fact.eq undef, Fact.eq undef, Fact.eq undef, Fact.eq ?rax34, Fact.eq ?rax35, Fact.eq undef, Fact.eq undef, Fact.eq undef, Fact.eq ?rax39, Fact.eq ?rax40, Fact.eq undef, Fact.eq undef, Fact.eq undef, Fact.eq ?rax44] ?raA (by kernel_rfl) (by kernel_rfl) ?rahA ?raho ?rahend
  case rahA =>
    intro vv
    simp only [putRules, Nat.reduceAdd]
    rfl
  case raho =>
    refine ⟨?_, ?_, ?_, ?_, ?_, ?_, ?_, ?_, ?_, ?_, ?_, ?_, ?_, ?_, ?_, ?_, ?_, ?_, ?_, ?_, ?_, ?_, ?_, ?_, ?_, ?_, ?_, ?_, ?_, ?_, ?_, ?_, ?_, ?_, ?_, ?_, ?_, ?_, ?_, ?_, ?_, ?_, ?_, ?_, ?_, trivial⟩
    · intro vv W K hB hd HK
      simp only [confRules] at HK
      clear hd
      have hT := (hB.block (w.heap.size + 1) hz0).trans HG.out
      go_wp2_with (refine wpList_row_on (by rfl) 23 _ rfl (w.heap.size + 1) rfl 23 _ _ _ hT Try.underlying23 rfl HI.out ?_)
      refine HK.out _ _ (Below.refl _ _) ?_
      rfl
    · intro vv W K hB hd HK
      simp only [confRules] at HK
      clear hd
      go_wp2
      refine HK.out _ _ (Below.refl _ _) ?_
      rfl
    · intro vv W K hB hd HK
      simp only [confRules] at hd HK
      have h1 := hd
      clear hd
      simp only [h1] at HK ⊢
      clear h1
      have hT := (hB.block w.heap.size (by omega)).trans HE.out
      obtain ⟨k1, k2, k3, k4, k5⟩ := HQ.out _ hT
      clear hT
      go_wp2
      refine HK.out _ _ (Below.refl _ _) ?_
      rfl
    · intro vv W K hB hd HK
      simp only [confRules] at HK
      clear hd
      go_wp2
      refine HK.out _ _ (Below.refl _ _) ?_
      rfl
    · intro vv W K hB hd HK
      simp only [confRules] at hd HK
      have h3 := hd
      clear hd
      simp only [h3] at HK ⊢
      clear h3
      have hT := (hB.block w.heap.size (by omega)).trans HE.out
      obtain ⟨k1, k2, k3, k4, k5⟩ := HQ.out _ hT
      clear hT
      go_wp2
      refine HK.out _ _ (Below.refl _ _) ?_
      rfl
    · intro vv W K hB hd HK
      simp only [confRules] at hd HK
      obtain ⟨h0, h2, h4⟩ := hd
      simp only [h0, h2, h4] at HK ⊢
      clear h0 h2 h4
      go_wp2_with (refine (H1.out _).mono ?_; rintro e w9 ⟨rfl, hB9⟩)
      refine HK.out _ _ hB9 ?_
      rfl
    · intro vv W K hB hd HK
      simp only [confRules] at hd HK
      obtain ⟨h5, _⟩ := hd
      simp only [h5] at HK ⊢
      clear h5
      go_wp2
      refine HK.out _ _ (Below.refl _ _) ?_
      rfl
    · intro vv W K hB hd HK
      simp only [confRules] at hd HK
      have h6 := hd
      clear hd
      simp only [h6] at HK ⊢
      clear h6
      refine wpList_guard_yes (by rfl) ?_
      have hT := (hB.block (w.heap.size + 1) hz0).trans HG.out
      go_wp2_with (refine wpList_row_on (by rfl) 23 _ rfl (w.heap.size + 1) rfl 23 _ _ _ hT Try.underlying23 rfl HI.out ?_)
      refine HK.out _ _ (Below.refl _ _) ?_
      rfl
    · intro vv W K hB hd HK
      simp only [confRules] at hd HK
      have h6 := hd
      clear hd
      simp only [h6] at HK ⊢
      clear h6
      refine wpList_guard_yes (by rfl) ?_
      go_wp2
      refine HK.out _ _ (Below.refl _ _) ?_
      rfl
    · intro vv W K hB hd HK
      simp only [confRules] at hd HK
      obtain ⟨h8, h6⟩ := hd
      simp only [h8, h6] at HK ⊢
      clear h8 h6
      refine wpList_guard_yes (by rfl) ?_
      have hT := (hB.block w.heap.size (by omega)).trans HE.out
      obtain ⟨k1, k2, k3, k4, k5⟩ := HQ.out _ hT
      clear hT
      go_wp2
      refine HK.out _ _ (Below.refl _ _) ?_
      rfl
    · intro vv W K hB hd HK
      simp only [confRules] at hd HK
      have h6 := hd
      clear hd
      simp only [h6] at HK ⊢
      clear h6
      refine wpList_guard_yes (by rfl) ?_
      go_wp2
      refine HK.out _ _ (Below.refl _ _) ?_
      rfl
    · intro vv W K hB hd HK
      simp only [confRules] at hd HK
      obtain ⟨h10, h6⟩ := hd
      simp only [h10, h6] at HK ⊢
      clear h10 h6
      refine wpList_guard_yes (by rfl) ?_
      have hT := (hB.block w.heap.size (by omega)).trans HE.out
      obtain ⟨k1, k2, k3, k4, k5⟩ := HQ.out _ hT
      clear hT
      go_wp2
      refine HK.out _ _ (Below.refl _ _) ?_
      rfl
    · intro vv W K hB hd HK
      simp only [confRules] at hd HK
      obtain ⟨h7, h9, h11, h6, _⟩ := hd
      simp only [h7, h9, h11, h6] at HK ⊢
      clear h7 h9 h11 h6
      refine wpList_guard_yes (by rfl) ?_
      go_wp2_with (refine (H2.out _).mono ?_; rintro e w9 ⟨rfl, hB9⟩)
      refine HK.out _ _ hB9 ?_
      rfl
    · intro vv W K hB hd HK
      simp only [confRules] at hd HK
      obtain ⟨h6, h12⟩ := hd
      simp only [h6, h12] at HK ⊢
      clear h6 h12
      go_wp2
      refine HK.out _ _ (Below.refl _ _) ?_
      rfl
    · intro vv W K hB hd HK
      simp only [confRules] at hd HK
      obtain ⟨h13, h12⟩ := hd
      simp only [h13, h12] at HK ⊢
      clear h13 h12
      go_wp2
      refine HK.out _ _ (Below.refl _ _) ?_
      rfl
    · intro vv W K hB hd HK
      simp only [confRules] at hd HK
      have h14 := hd
      clear hd
      simp only [h14] at HK ⊢
      clear h14
      refine wpList_guard_yes (by rfl) ?_
      have hT := (hB.block (w.heap.size + 1) hz0).trans HG.out
      go_wp2_with (refine wpList_row_on (by rfl) 23 _ rfl (w.heap.size + 1) rfl 23 _ _ _ hT Try.underlying23 rfl HI.out ?_)
      refine HK.out _ _ (Below.refl _ _) ?_
      rfl
    · intro vv W K hB hd HK
      simp only [confRules] at hd HK
      have h14 := hd
      clear hd
      simp only [h14] at HK ⊢
      clear h14
      refine wpList_guard_yes (by rfl) ?_
      go_wp2
      refine HK.out _ _ (Below.refl _ _) ?_
      rfl
    · intro vv W K hB hd HK
      simp only [confRules] at hd HK
      obtain ⟨h16, h14⟩ := hd
      simp only [h16, h14] at HK ⊢
      clear h16 h14
      refine wpList_guard_yes (by rfl) ?_
      have hT := (hB.block w.heap.size (by omega)).trans HE.out
      obtain ⟨k1, k2, k3, k4, k5⟩ := HQ.out _ hT
      clear hT
      go_wp2
      refine HK.out _ _ (Below.refl _ _) ?_
      rfl
    · intro vv W K hB hd HK
      simp only [confRules] at hd HK
      obtain ⟨h15, h17, h14, _⟩ := hd
      simp only [h15, h17, h14] at HK ⊢
      clear h15 h17 h14
      refine wpList_guard_yes (by rfl) ?_
      go_wp2_with (refine (D1.out _).mono ?_; rintro e w9 ⟨rfl, hB9⟩)
      refine HK.out _ _ hB9 ?_
      rfl
    · intro vv W K hB hd HK
      simp only [confRules] at hd HK
      have h14 := hd
      clear hd
      simp only [h14] at HK ⊢
      clear h14
      refine wpList_guard_yes (by rfl) ?_
      have hT := (hB.block (w.heap.size + 1) hz0).trans HG.out
      go_wp2_with (refine wpList_row_on (by rfl) 23 _ rfl (w.heap.size + 1) rfl 23 _ _ _ hT Try.underlying23 rfl HI.out ?_)
      refine HK.out _ _ (Below.refl _ _) ?_
      rfl
    · intro vv W K hB hd HK
      simp only [confRules] at hd HK
      have h14 := hd
      clear hd
      simp only [h14] at HK ⊢
      clear h14
      refine wpList_guard_yes (by rfl) ?_
      go_wp2
      refine HK.out _ _ (Below.refl _ _) ?_
      rfl
    · intro vv W K hB hd HK
      simp only [confRules] at hd HK
      obtain ⟨h20, h14⟩ := hd
      simp only [h20, h14] at HK ⊢
      clear h20 h14
      refine wpList_guard_yes (by rfl) ?_
      have hT := (hB.block w.heap.size (by omega)).trans HE.out
      obtain ⟨k1, k2, k3, k4, k5⟩ := HQ.out _ hT
      clear hT
      go_wp2
      refine HK.out _ _ (Below.refl _ _) ?_
      rfl
    · intro vv W K hB hd HK
      simp only [confRules] at hd HK
      obtain ⟨h19, h21, h18, h14⟩ := hd
      simp only [h19, h21, h18, h14] at HK ⊢
      clear h19 h21 h18 h14
      refine wpList_guard_yes (by rfl) ?_
      go_wp2_with (refine (D2.out _).mono ?_; rintro e w9 ⟨rfl, hB9⟩)
      refine HK.out _ _ hB9 ?_
      rfl
    · intro vv W K hB hd HK
      simp only [confRules] at hd HK
      obtain ⟨h18, h22, h14⟩ := hd
      simp only [h18, h22, h14] at HK ⊢
      clear h18 h22 h14
      refine wpList_guard_yes (by rfl) ?_
      have t := T3.out
      go_wp2
      refine HK.out _ _ (Below.refl _ _) ?_
      first | rfl | exact congrArg Value.bool t | exact congrArg Value.bool (show (!_) = _ by rw [t]; rfl)
    · intro vv W K hB hd HK
      simp only [confRules] at hd HK
      obtain ⟨h14, h23⟩ := hd
      simp only [h14, h23] at HK ⊢
      clear h14 h23
      go_wp2
      refine HK.out _ _ (Below.refl _ _) ?_
      rfl
    · intro vv W K hB hd HK
      simp only [confRules] at hd HK
      obtain ⟨h24, h22⟩ := hd
      simp only [h24, h22] at HK ⊢
      clear h24 h22
      go_wp2
      refine HK.out _ _ (Below.refl _ _) ?_
      rfl
    · intro vv W K hB hd HK
      simp only [confRules] at hd HK
      have h25 := hd
      clear hd
      simp only [h25] at HK ⊢
      clear h25
      refine wpList_guard_yes (by rfl) ?_
      go_wp2
      refine HK.out _ _ (Below.refl _ _) ?_
      rfl
    · intro vv W K hB hd HK
      simp only [confRules] at hd HK
      obtain ⟨h26, h25⟩ := hd
      simp only [h26, h25] at HK ⊢
      clear h26 h25
      refine wpList_guard_yes (by rfl) ?_
      have hT := (hB.block w.heap.size (by omega)).trans HE.out
      obtain ⟨k1, k2, k3, k4, k5⟩ := HQ.out _ hT
      clear hT
      go_wp2
      refine HK.out _ _ (Below.refl _ _) ?_
      rfl
    · intro vv W K hB hd HK
      simp only [confRules] at hd HK
      obtain ⟨h27, h25⟩ := hd
      simp only [h27, h25] at HK ⊢
      clear h27 h25
      refine wpList_guard_yes (by rfl) ?_
      have t := T4.out
      go_wp2
      refine HK.out _ _ (Below.refl _ _) ?_
      first | rfl | exact congrArg Value.bool t | exact congrArg Value.bool (show (!_) = _ by rw [t]; rfl)
    · intro vv W K hB hd HK
      simp only [confRules] at hd HK
      obtain ⟨h25, h28⟩ := hd
      simp only [h25, h28] at HK ⊢
      clear h25 h28
      go_wp2
      refine HK.out _ _ (Below.refl _ _) ?_
      rfl
    · intro vv W K hB hd HK
      simp only [confRules] at hd HK
      obtain ⟨h29, h25⟩ := hd
      simp only [h29, h25] at HK ⊢
      clear h29 h25
      go_wp2
      refine HK.out _ _ (Below.refl _ _) ?_
      rfl
    · intro vv W K hB hd HK
      simp only [confRules] at hd HK
      have h30 := hd
      clear hd
      simp only [h30] at HK ⊢
      clear h30
      refine wpList_guard_no (by rfl) ?_
      refine HK.out _ _ (Below.refl _ _) ?_
      rfl
    · intro vv W K hB hd HK
      simp only [confRules] at hd HK
      obtain ⟨h31, h30⟩ := hd
      simp only [h31, h30] at HK ⊢
      clear h31 h30
      refine wpList_guard_no (by rfl) ?_
      refine HK.out _ _ (Below.refl _ _) ?_
      rfl
    · intro vv W K hB hd HK
      simp only [confRules] at hd HK
      obtain ⟨h32, h30⟩ := hd
      simp only [h32, h30] at HK ⊢
      clear h32 h30
      refine wpList_guard_no (by rfl) ?_
      refine HK.out _ _ (Below.refl _ _) ?_
      rfl
    · intro vv W K hB hd HK
      simp only [confRules] at hd HK
      obtain ⟨h30, h33⟩ := hd
      simp only [h30, h33] at HK ⊢
      clear h30 h33
      go_wp2
      refine HK.out _ _ (Below.refl _ _) ?_
      rfl
    · intro vv W K hB hd HK
      simp only [confRules] at hd HK
      obtain ⟨h34, h30⟩ := hd
      simp only [h34, h30] at HK ⊢
      clear h34 h30
      go_wp2
      refine HK.out _ _ (Below.refl _ _) ?_
      rfl
    · intro vv W K hB hd HK
      simp only [confRules] at hd HK
      have h35 := hd
      clear hd
      simp only [h35] at HK ⊢
      clear h35
      refine wpList_guard_no (by rfl) ?_
      refine HK.out _ _ (Below.refl _ _) ?_
      rfl
    · intro vv W K hB hd HK
      simp only [confRules] at hd HK
      obtain ⟨h36, h35⟩ := hd
      simp only [h36, h35] at HK ⊢
      clear h36 h35
      refine wpList_guard_no (by rfl) ?_
      refine HK.out _ _ (Below.refl _ _) ?_
      rfl
    · intro vv W K hB hd HK
      simp only [confRules] at hd HK
      obtain ⟨h37, h35⟩ := hd
      simp only [h37, h35] at HK ⊢
      clear h37 h35
      refine wpList_guard_no (by rfl) ?_
      refine HK.out _ _ (Below.refl _ _) ?_
      rfl
    · intro vv W K hB hd HK
      simp only [confRules] at hd HK
      obtain ⟨h35, h38⟩ := hd
      simp only [h35, h38] at HK ⊢
      clear h35 h38
      go_wp2
      refine HK.out _ _ (Below.refl _ _) ?_
      rfl
    · intro vv W K hB hd HK
      simp only [confRules] at hd HK
      obtain ⟨h39, h35⟩ := hd
      simp only [h39, h35] at HK ⊢
      clear h39 h35
      go_wp2
      refine HK.out _ _ (Below.refl _ _) ?_
      rfl
    · intro vv W K hB hd HK
      simp only [confRules] at hd HK
      have h40 := hd
      clear hd
      simp only [h40] at HK ⊢
      clear h40
      refine wpList_guard_no (by rfl) ?_
      refine HK.out _ _ (Below.refl _ _) ?_
      rfl
    · intro vv W K hB hd HK
      simp only [confRules] at hd HK
      obtain ⟨h41, h40⟩ := hd
      simp only [h41, h40] at HK ⊢
      clear h41 h40
      refine wpList_guard_no (by rfl) ?_
      refine HK.out _ _ (Below.refl _ _) ?_
      rfl
    · intro vv W K hB hd HK
      simp only [confRules] at hd HK
      obtain ⟨h42, h40⟩ := hd
      simp only [h42, h40] at HK ⊢
      clear h42 h40
      refine wpList_guard_no (by rfl) ?_
      refine HK.out _ _ (Below.refl _ _) ?_
      rfl
    · intro vv W K hB hd HK
      simp only [confRules] at hd HK
      obtain ⟨h40, h43⟩ := hd
      simp only [h40, h43] at HK ⊢
      clear h40 h43
      go_wp2
      refine HK.out _ _ (Below.refl _ _) ?_
      rfl
  case rahend =>
    intro vv W hB hf
    have e44 := hf 44 (by decide)
    simp only [endRules] at e44
    simp only [e44, dropRules]
    clear hf e44
    go_wp2
    go_ret
    exact ⟨rfl, hB0.trans (hB.mono (by omega))⟩
set_option maxRecDepth 100000 in
set_option maxHeartbeats 2000000 in
theorem bright_5 (C D : Array Value) (z m o q s d1 d2 : Int) (w : World)
    (hC : ∀ (W : World), W.heap[w.heap.size]? = some (.cells C 54 (0, 0)) → W.cell? ⟨w.heap.size, 0, none⟩ = some (.int .i64 1) ∧ W.cell? ⟨w.heap.size, 1, none⟩ = some (.int .i64 z) ∧ W.cell? ⟨w.heap.size, 2, none⟩ = some (.int .i64 m) ∧ W.cell? ⟨w.heap.size, 3, none⟩ = some (.int .i64 o) ∧ W.cell? ⟨w.heap.size, 4, none⟩ = some (.int .i64 q) ∧ W.cell? ⟨w.heap.size, 5, none⟩ = some (.int .i64 s))
    (hI : (Try.prog.info? 23).map (·.size) = some D.size)
    (h1 : ∀ W, Calls Try.prog 40 #[.agg D, .int .i64 z, .int .i64 o] W fun e w' => e = .returned (.bool true) ∧ Below W.heap.size W w')
    (h2 : ∀ W, Calls Try.prog 40 #[.agg D, .int .i64 m, .int .i64 o] W fun e w' => e = .returned (.bool true) ∧ Below W.heap.size W w')
    (hd1 : ∀ W, Calls Try.prog 41 #[.agg D, .int .i64 z] W fun e w' => e = .returned (.int .i64 d1) ∧ Below W.heap.size W w') (hd2 : ∀ W, Calls Try.prog 41 #[.agg D, .int .i64 m] W fun e w' => e = .returned (.int .i64 d2) ∧ Below W.heap.size W w') (t3 : (d1 == d2) = false)
    (t4 : decide (1 ≤ q) = true)
    (t5 : decide (q ≤ 281474976710655) = false) :
    Calls Try.prog 21 #[.agg C, .agg D] w fun e w' => e = .returned (.bool false) ∧ Below w.heap.size w w' := by
  obtain ⟨W0, hW0, hB0, hE, hG, hz0⟩ := bright_setup C D w
  obtain ⟨k0, -⟩ := hC _ hE
  have HW0 := Lib.hid hW0
  have HE := Lib.hid hE
  have HG := Lib.hid hG
  have HI := Lib.hid hI
  have HQ := Lib.hid (fun W hh => (hC W hh).2)
  have H1 := Lib.hid h1
  have H2 := Lib.hid h2
  have D1 := Lib.hid hd1
  have D2 := Lib.hid hd2
  have T3 := Lib.hid t3
  have T4 := Lib.hid t4
  have T5 := Lib.hid t5
  clear hW0 hE hG hI hC h1 h2 hd1 hd2 t3 t4 t5
  go_enter Try.func21, Try.ntmps21
  go_upto_region 1 with (fail)
  rw [HW0.out]
  go_wp2
  refine wp_region_conf2 45 [Fact.eq ?rax0, Fact.eq ?rax1, Fact.eq ?rax2, Fact.eq ?rax3, Fact.eq ?rax4, Fact.eq ?rax5, Fact.eq ?rax6, Fact.eq ?rax7, Fact.eq ?rax8, Fact.eq ?rax9, Fact.eq ?rax10, Fact.eq ?rax11, Fact.eq ?rax12, Fact.eq ?rax13, Fact.eq ?rax14, Fact.eq ?rax15, Fact.eq ?rax16, Fact.eq ?rax17, Fact.eq ?rax18, Fact.eq ?rax19, Fact.eq ?rax20, Fact.eq ?rax21, Fact.eq ?rax22, Fact.eq (.bool true), Fact.eq ?rax24, Fact.eq ?rax25, Fact.eq ?rax26, Fact.eq ?rax27, Fact.eq (.bool true), Fact.eq ?rax29, Fact.eq ?rax30, Fact.eq ?rax31, Fact.eq ?rax32, Fact.eq (.bool false), Fact.eq ?rax34, Fact.eq ?rax35, Fact.eq undef, Fact.eq undef, Fact.eq undef, Fact.eq ?rax39, Fact.eq ?rax40, Fact.eq undef, Fact.eq undef, Fact.eq undef, Fact.eq ?rax44] ?raA (by kernel_rfl) (by kernel_rfl) ?rahA ?raho ?rahend
  case rahA =>
    intro vv
    simp only [putRules, Nat.reduceAdd]
    rfl
  case raho =>
    refine ⟨?_, ?_, ?_, ?_, ?_, ?_, ?_, ?_, ?_, ?_, ?_, ?_, ?_, ?_, ?_, ?_, ?_, ?_, ?_, ?_, ?_, ?_, ?_, ?_, ?_, ?_, ?_, ?_, ?_, ?_, ?_, ?_, ?_, ?_, ?_, ?_, ?_, ?_, ?_, ?_, ?_, ?_, ?_, ?_, ?_, trivial⟩
    · intro vv W K hB hd HK
      simp only [confRules] at HK
      clear hd
      have hT := (hB.block (w.heap.size + 1) hz0).trans HG.out
      go_wp2_with (refine wpList_row_on (by rfl) 23 _ rfl (w.heap.size + 1) rfl 23 _ _ _ hT Try.underlying23 rfl HI.out ?_)
      refine HK.out _ _ (Below.refl _ _) ?_
      rfl
    · intro vv W K hB hd HK
      simp only [confRules] at HK
      clear hd
      go_wp2
      refine HK.out _ _ (Below.refl _ _) ?_
      rfl
    · intro vv W K hB hd HK
      simp only [confRules] at hd HK
      have h1 := hd
      clear hd
      simp only [h1] at HK ⊢
      clear h1
      have hT := (hB.block w.heap.size (by omega)).trans HE.out
      obtain ⟨k1, k2, k3, k4, k5⟩ := HQ.out _ hT
      clear hT
      go_wp2
      refine HK.out _ _ (Below.refl _ _) ?_
      rfl
    · intro vv W K hB hd HK
      simp only [confRules] at HK
      clear hd
      go_wp2
      refine HK.out _ _ (Below.refl _ _) ?_
      rfl
    · intro vv W K hB hd HK
      simp only [confRules] at hd HK
      have h3 := hd
      clear hd
      simp only [h3] at HK ⊢
      clear h3
      have hT := (hB.block w.heap.size (by omega)).trans HE.out
      obtain ⟨k1, k2, k3, k4, k5⟩ := HQ.out _ hT
      clear hT
      go_wp2
      refine HK.out _ _ (Below.refl _ _) ?_
      rfl
    · intro vv W K hB hd HK
      simp only [confRules] at hd HK
      obtain ⟨h0, h2, h4⟩ := hd
      simp only [h0, h2, h4] at HK ⊢
      clear h0 h2 h4
      go_wp2_with (refine (H1.out _).mono ?_; rintro e w9 ⟨rfl, hB9⟩)
      refine HK.out _ _ hB9 ?_
      rfl
    · intro vv W K hB hd HK
      simp only [confRules] at hd HK
      obtain ⟨h5, _⟩ := hd
      simp only [h5] at HK ⊢
      clear h5
      go_wp2
      refine HK.out _ _ (Below.refl _ _) ?_
      rfl
    · intro vv W K hB hd HK
      simp only [confRules] at hd HK
      have h6 := hd
      clear hd
      simp only [h6] at HK ⊢
      clear h6
      refine wpList_guard_yes (by rfl) ?_
      have hT := (hB.block (w.heap.size + 1) hz0).trans HG.out
      go_wp2_with (refine wpList_row_on (by rfl) 23 _ rfl (w.heap.size + 1) rfl 23 _ _ _ hT Try.underlying23 rfl HI.out ?_)
      refine HK.out _ _ (Below.refl _ _) ?_
      rfl
    · intro vv W K hB hd HK
      simp only [confRules] at hd HK
      have h6 := hd
      clear hd
      simp only [h6] at HK ⊢
      clear h6
      refine wpList_guard_yes (by rfl) ?_
      go_wp2
      refine HK.out _ _ (Below.refl _ _) ?_
      rfl
    · intro vv W K hB hd HK
      simp only [confRules] at hd HK
      obtain ⟨h8, h6⟩ := hd
      simp only [h8, h6] at HK ⊢
      clear h8 h6
      refine wpList_guard_yes (by rfl) ?_
      have hT := (hB.block w.heap.size (by omega)).trans HE.out
      obtain ⟨k1, k2, k3, k4, k5⟩ := HQ.out _ hT
      clear hT
      go_wp2
      refine HK.out _ _ (Below.refl _ _) ?_
      rfl
    · intro vv W K hB hd HK
      simp only [confRules] at hd HK
      have h6 := hd
      clear hd
      simp only [h6] at HK ⊢
      clear h6
      refine wpList_guard_yes (by rfl) ?_
      go_wp2
      refine HK.out _ _ (Below.refl _ _) ?_
      rfl
    · intro vv W K hB hd HK
      simp only [confRules] at hd HK
      obtain ⟨h10, h6⟩ := hd
      simp only [h10, h6] at HK ⊢
      clear h10 h6
      refine wpList_guard_yes (by rfl) ?_
      have hT := (hB.block w.heap.size (by omega)).trans HE.out
      obtain ⟨k1, k2, k3, k4, k5⟩ := HQ.out _ hT
      clear hT
      go_wp2
      refine HK.out _ _ (Below.refl _ _) ?_
      rfl
    · intro vv W K hB hd HK
      simp only [confRules] at hd HK
      obtain ⟨h7, h9, h11, h6, _⟩ := hd
      simp only [h7, h9, h11, h6] at HK ⊢
      clear h7 h9 h11 h6
      refine wpList_guard_yes (by rfl) ?_
      go_wp2_with (refine (H2.out _).mono ?_; rintro e w9 ⟨rfl, hB9⟩)
      refine HK.out _ _ hB9 ?_
      rfl
    · intro vv W K hB hd HK
      simp only [confRules] at hd HK
      obtain ⟨h6, h12⟩ := hd
      simp only [h6, h12] at HK ⊢
      clear h6 h12
      go_wp2
      refine HK.out _ _ (Below.refl _ _) ?_
      rfl
    · intro vv W K hB hd HK
      simp only [confRules] at hd HK
      obtain ⟨h13, h12⟩ := hd
      simp only [h13, h12] at HK ⊢
      clear h13 h12
      go_wp2
      refine HK.out _ _ (Below.refl _ _) ?_
      rfl
    · intro vv W K hB hd HK
      simp only [confRules] at hd HK
      have h14 := hd
      clear hd
      simp only [h14] at HK ⊢
      clear h14
      refine wpList_guard_yes (by rfl) ?_
      have hT := (hB.block (w.heap.size + 1) hz0).trans HG.out
      go_wp2_with (refine wpList_row_on (by rfl) 23 _ rfl (w.heap.size + 1) rfl 23 _ _ _ hT Try.underlying23 rfl HI.out ?_)
      refine HK.out _ _ (Below.refl _ _) ?_
      rfl
    · intro vv W K hB hd HK
      simp only [confRules] at hd HK
      have h14 := hd
      clear hd
      simp only [h14] at HK ⊢
      clear h14
      refine wpList_guard_yes (by rfl) ?_
      go_wp2
      refine HK.out _ _ (Below.refl _ _) ?_
      rfl
    · intro vv W K hB hd HK
      simp only [confRules] at hd HK
      obtain ⟨h16, h14⟩ := hd
      simp only [h16, h14] at HK ⊢
      clear h16 h14
      refine wpList_guard_yes (by rfl) ?_
      have hT := (hB.block w.heap.size (by omega)).trans HE.out
      obtain ⟨k1, k2, k3, k4, k5⟩ := HQ.out _ hT
      clear hT
      go_wp2
      refine HK.out _ _ (Below.refl _ _) ?_
      rfl
    · intro vv W K hB hd HK
      simp only [confRules] at hd HK
      obtain ⟨h15, h17, h14, _⟩ := hd
      simp only [h15, h17, h14] at HK ⊢
      clear h15 h17 h14
      refine wpList_guard_yes (by rfl) ?_
      go_wp2_with (refine (D1.out _).mono ?_; rintro e w9 ⟨rfl, hB9⟩)
      refine HK.out _ _ hB9 ?_
      rfl
    · intro vv W K hB hd HK
      simp only [confRules] at hd HK
      have h14 := hd
      clear hd
      simp only [h14] at HK ⊢
      clear h14
      refine wpList_guard_yes (by rfl) ?_
      have hT := (hB.block (w.heap.size + 1) hz0).trans HG.out
      go_wp2_with (refine wpList_row_on (by rfl) 23 _ rfl (w.heap.size + 1) rfl 23 _ _ _ hT Try.underlying23 rfl HI.out ?_)
      refine HK.out _ _ (Below.refl _ _) ?_
      rfl
    · intro vv W K hB hd HK
      simp only [confRules] at hd HK
      have h14 := hd
      clear hd
      simp only [h14] at HK ⊢
      clear h14
      refine wpList_guard_yes (by rfl) ?_
      go_wp2
      refine HK.out _ _ (Below.refl _ _) ?_
      rfl
    · intro vv W K hB hd HK
      simp only [confRules] at hd HK
      obtain ⟨h20, h14⟩ := hd
      simp only [h20, h14] at HK ⊢
      clear h20 h14
      refine wpList_guard_yes (by rfl) ?_
      have hT := (hB.block w.heap.size (by omega)).trans HE.out
      obtain ⟨k1, k2, k3, k4, k5⟩ := HQ.out _ hT
      clear hT
      go_wp2
      refine HK.out _ _ (Below.refl _ _) ?_
      rfl
    · intro vv W K hB hd HK
      simp only [confRules] at hd HK
      obtain ⟨h19, h21, h18, h14⟩ := hd
      simp only [h19, h21, h18, h14] at HK ⊢
      clear h19 h21 h18 h14
      refine wpList_guard_yes (by rfl) ?_
      go_wp2_with (refine (D2.out _).mono ?_; rintro e w9 ⟨rfl, hB9⟩)
      refine HK.out _ _ hB9 ?_
      rfl
    · intro vv W K hB hd HK
      simp only [confRules] at hd HK
      obtain ⟨h18, h22, h14⟩ := hd
      simp only [h18, h22, h14] at HK ⊢
      clear h18 h22 h14
      refine wpList_guard_yes (by rfl) ?_
      have t := T3.out
      go_wp2
      refine HK.out _ _ (Below.refl _ _) ?_
      first | rfl | exact congrArg Value.bool t | exact congrArg Value.bool (show (!_) = _ by rw [t]; rfl)
    · intro vv W K hB hd HK
      simp only [confRules] at hd HK
      obtain ⟨h14, h23⟩ := hd
      simp only [h14, h23] at HK ⊢
      clear h14 h23
      go_wp2
      refine HK.out _ _ (Below.refl _ _) ?_
      rfl
    · intro vv W K hB hd HK
      simp only [confRules] at hd HK
      obtain ⟨h24, h22⟩ := hd
      simp only [h24, h22] at HK ⊢
      clear h24 h22
      go_wp2
      refine HK.out _ _ (Below.refl _ _) ?_
      rfl
    · intro vv W K hB hd HK
      simp only [confRules] at hd HK
      have h25 := hd
      clear hd
      simp only [h25] at HK ⊢
      clear h25
      refine wpList_guard_yes (by rfl) ?_
      go_wp2
      refine HK.out _ _ (Below.refl _ _) ?_
      rfl
    · intro vv W K hB hd HK
      simp only [confRules] at hd HK
      obtain ⟨h26, h25⟩ := hd
      simp only [h26, h25] at HK ⊢
      clear h26 h25
      refine wpList_guard_yes (by rfl) ?_
      have hT := (hB.block w.heap.size (by omega)).trans HE.out
      obtain ⟨k1, k2, k3, k4, k5⟩ := HQ.out _ hT
      clear hT
      go_wp2
      refine HK.out _ _ (Below.refl _ _) ?_
      rfl
    · intro vv W K hB hd HK
      simp only [confRules] at hd HK
      obtain ⟨h27, h25⟩ := hd
      simp only [h27, h25] at HK ⊢
      clear h27 h25
      refine wpList_guard_yes (by rfl) ?_
      have t := T4.out
      go_wp2
      refine HK.out _ _ (Below.refl _ _) ?_
      first | rfl | exact congrArg Value.bool t | exact congrArg Value.bool (show (!_) = _ by rw [t]; rfl)
    · intro vv W K hB hd HK
      simp only [confRules] at hd HK
      obtain ⟨h25, h28⟩ := hd
      simp only [h25, h28] at HK ⊢
      clear h25 h28
      go_wp2
      refine HK.out _ _ (Below.refl _ _) ?_
      rfl
    · intro vv W K hB hd HK
      simp only [confRules] at hd HK
      obtain ⟨h29, h25⟩ := hd
      simp only [h29, h25] at HK ⊢
      clear h29 h25
      go_wp2
      refine HK.out _ _ (Below.refl _ _) ?_
      rfl
    · intro vv W K hB hd HK
      simp only [confRules] at hd HK
      have h30 := hd
      clear hd
      simp only [h30] at HK ⊢
      clear h30
      refine wpList_guard_yes (by rfl) ?_
      go_wp2
      refine HK.out _ _ (Below.refl _ _) ?_
      rfl
    · intro vv W K hB hd HK
      simp only [confRules] at hd HK
      obtain ⟨h31, h30⟩ := hd
      simp only [h31, h30] at HK ⊢
      clear h31 h30
      refine wpList_guard_yes (by rfl) ?_
      have hT := (hB.block w.heap.size (by omega)).trans HE.out
      obtain ⟨k1, k2, k3, k4, k5⟩ := HQ.out _ hT
      clear hT
      go_wp2
      refine HK.out _ _ (Below.refl _ _) ?_
      rfl
    · intro vv W K hB hd HK
      simp only [confRules] at hd HK
      obtain ⟨h32, h30⟩ := hd
      simp only [h32, h30] at HK ⊢
      clear h32 h30
      refine wpList_guard_yes (by rfl) ?_
      have t := T5.out
      go_wp2
      refine HK.out _ _ (Below.refl _ _) ?_
      first | rfl | exact congrArg Value.bool t | exact congrArg Value.bool (show (!_) = _ by rw [t]; rfl)
    · intro vv W K hB hd HK
      simp only [confRules] at hd HK
      obtain ⟨h30, h33⟩ := hd
      simp only [h30, h33] at HK ⊢
      clear h30 h33
      go_wp2
      refine HK.out _ _ (Below.refl _ _) ?_
      rfl
    · intro vv W K hB hd HK
      simp only [confRules] at hd HK
      obtain ⟨h34, h30⟩ := hd
      simp only [h34, h30] at HK ⊢
      clear h34 h30
      go_wp2
      refine HK.out _ _ (Below.refl _ _) ?_
      rfl
    · intro vv W K hB hd HK
      simp only [confRules] at hd HK
      have h35 := hd
      clear hd
      simp only [h35] at HK ⊢
      clear h35
      refine wpList_guard_no (by rfl) ?_
      refine HK.out _ _ (Below.refl _ _) ?_
      rfl
    · intro vv W K hB hd HK
      simp only [confRules] at hd HK
      obtain ⟨h36, h35⟩ := hd
      simp only [h36, h35] at HK ⊢
      clear h36 h35
      refine wpList_guard_no (by rfl) ?_
      refine HK.out _ _ (Below.refl _ _) ?_
      rfl
    · intro vv W K hB hd HK
      simp only [confRules] at hd HK
      obtain ⟨h37, h35⟩ := hd
      simp only [h37, h35] at HK ⊢
      clear h37 h35
      refine wpList_guard_no (by rfl) ?_
      refine HK.out _ _ (Below.refl _ _) ?_
      rfl
    · intro vv W K hB hd HK
      simp only [confRules] at hd HK
      obtain ⟨h35, h38⟩ := hd
      simp only [h35, h38] at HK ⊢
      clear h35 h38
      go_wp2
      refine HK.out _ _ (Below.refl _ _) ?_
      rfl
    · intro vv W K hB hd HK
      simp only [confRules] at hd HK
      obtain ⟨h39, h35⟩ := hd
      simp only [h39, h35] at HK ⊢
      clear h39 h35
      go_wp2
      refine HK.out _ _ (Below.refl _ _) ?_
      rfl
    · intro vv W K hB hd HK
      simp only [confRules] at hd HK
      have h40 := hd
      clear hd
      simp only [h40] at HK ⊢
      clear h40
      refine wpList_guard_no (by rfl) ?_
      refine HK.out _ _ (Below.refl _ _) ?_
      rfl
    · intro vv W K hB hd HK
      simp only [confRules] at hd HK
      obtain ⟨h41, h40⟩ := hd
      simp only [h41, h40] at HK ⊢
      clear h41 h40
      refine wpList_guard_no (by rfl) ?_
      refine HK.out _ _ (Below.refl _ _) ?_
      rfl
    · intro vv W K hB hd HK
      simp only [confRules] at hd HK
      obtain ⟨h42, h40⟩ := hd
      simp only [h42, h40] at HK ⊢
      clear h42 h40
      refine wpList_guard_no (by rfl) ?_
      refine HK.out _ _ (Below.refl _ _) ?_
      rfl
    · intro vv W K hB hd HK
      simp only [confRules] at hd HK
      obtain ⟨h40, h43⟩ := hd
      simp only [h40, h43] at HK ⊢
      clear h40 h43
      go_wp2
      refine HK.out _ _ (Below.refl _ _) ?_
      rfl
  case rahend =>
    intro vv W hB hf
    have e44 := hf 44 (by decide)
    simp only [endRules] at e44
    simp only [e44, dropRules]
    clear hf e44
    go_wp2
    go_ret
    exact ⟨rfl, hB0.trans (hB.mono (by omega))⟩
set_option maxRecDepth 100000 in
set_option maxHeartbeats 2000000 in
theorem bright_6 (C D : Array Value) (z m o q s d1 d2 : Int) (w : World)
    (hC : ∀ (W : World), W.heap[w.heap.size]? = some (.cells C 54 (0, 0)) → W.cell? ⟨w.heap.size, 0, none⟩ = some (.int .i64 1) ∧ W.cell? ⟨w.heap.size, 1, none⟩ = some (.int .i64 z) ∧ W.cell? ⟨w.heap.size, 2, none⟩ = some (.int .i64 m) ∧ W.cell? ⟨w.heap.size, 3, none⟩ = some (.int .i64 o) ∧ W.cell? ⟨w.heap.size, 4, none⟩ = some (.int .i64 q) ∧ W.cell? ⟨w.heap.size, 5, none⟩ = some (.int .i64 s))
    (hI : (Try.prog.info? 23).map (·.size) = some D.size)
    (h1 : ∀ W, Calls Try.prog 40 #[.agg D, .int .i64 z, .int .i64 o] W fun e w' => e = .returned (.bool true) ∧ Below W.heap.size W w')
    (h2 : ∀ W, Calls Try.prog 40 #[.agg D, .int .i64 m, .int .i64 o] W fun e w' => e = .returned (.bool true) ∧ Below W.heap.size W w')
    (hd1 : ∀ W, Calls Try.prog 41 #[.agg D, .int .i64 z] W fun e w' => e = .returned (.int .i64 d1) ∧ Below W.heap.size W w') (hd2 : ∀ W, Calls Try.prog 41 #[.agg D, .int .i64 m] W fun e w' => e = .returned (.int .i64 d2) ∧ Below W.heap.size W w') (t3 : (d1 == d2) = false)
    (t4 : decide (1 ≤ q) = true)
    (t5 : decide (q ≤ 281474976710655) = true)
    (t6 : decide (0 ≤ s) = false) :
    Calls Try.prog 21 #[.agg C, .agg D] w fun e w' => e = .returned (.bool false) ∧ Below w.heap.size w w' := by
  obtain ⟨W0, hW0, hB0, hE, hG, hz0⟩ := bright_setup C D w
  obtain ⟨k0, -⟩ := hC _ hE
  have HW0 := Lib.hid hW0
  have HE := Lib.hid hE
  have HG := Lib.hid hG
  have HI := Lib.hid hI
  have HQ := Lib.hid (fun W hh => (hC W hh).2)
  have H1 := Lib.hid h1
  have H2 := Lib.hid h2
  have D1 := Lib.hid hd1
  have D2 := Lib.hid hd2
  have T3 := Lib.hid t3
  have T4 := Lib.hid t4
  have T5 := Lib.hid t5
  have T6 := Lib.hid t6
  clear hW0 hE hG hI hC h1 h2 hd1 hd2 t3 t4 t5 t6
  go_enter Try.func21, Try.ntmps21
  go_upto_region 1 with (fail)
  rw [HW0.out]
  go_wp2
  refine wp_region_conf2 45 [Fact.eq ?rax0, Fact.eq ?rax1, Fact.eq ?rax2, Fact.eq ?rax3, Fact.eq ?rax4, Fact.eq ?rax5, Fact.eq ?rax6, Fact.eq ?rax7, Fact.eq ?rax8, Fact.eq ?rax9, Fact.eq ?rax10, Fact.eq ?rax11, Fact.eq ?rax12, Fact.eq ?rax13, Fact.eq ?rax14, Fact.eq ?rax15, Fact.eq ?rax16, Fact.eq ?rax17, Fact.eq ?rax18, Fact.eq ?rax19, Fact.eq ?rax20, Fact.eq ?rax21, Fact.eq ?rax22, Fact.eq (.bool true), Fact.eq ?rax24, Fact.eq ?rax25, Fact.eq ?rax26, Fact.eq ?rax27, Fact.eq (.bool true), Fact.eq ?rax29, Fact.eq ?rax30, Fact.eq ?rax31, Fact.eq ?rax32, Fact.eq (.bool true), Fact.eq ?rax34, Fact.eq ?rax35, Fact.eq ?rax36, Fact.eq ?rax37, Fact.eq (.bool false), Fact.eq ?rax39, Fact.eq ?rax40, Fact.eq undef, Fact.eq undef, Fact.eq undef, Fact.eq ?rax44] ?raA (by kernel_rfl) (by kernel_rfl) ?rahA ?raho ?rahend
  case rahA =>
    intro vv
    simp only [putRules, Nat.reduceAdd]
    rfl
  case raho =>
    refine ⟨?_, ?_, ?_, ?_, ?_, ?_, ?_, ?_, ?_, ?_, ?_, ?_, ?_, ?_, ?_, ?_, ?_, ?_, ?_, ?_, ?_, ?_, ?_, ?_, ?_, ?_, ?_, ?_, ?_, ?_, ?_, ?_, ?_, ?_, ?_, ?_, ?_, ?_, ?_, ?_, ?_, ?_, ?_, ?_, ?_, trivial⟩
    · intro vv W K hB hd HK
      simp only [confRules] at HK
      clear hd
      have hT := (hB.block (w.heap.size + 1) hz0).trans HG.out
      go_wp2_with (refine wpList_row_on (by rfl) 23 _ rfl (w.heap.size + 1) rfl 23 _ _ _ hT Try.underlying23 rfl HI.out ?_)
      refine HK.out _ _ (Below.refl _ _) ?_
      rfl
    · intro vv W K hB hd HK
      simp only [confRules] at HK
      clear hd
      go_wp2
      refine HK.out _ _ (Below.refl _ _) ?_
      rfl
    · intro vv W K hB hd HK
      simp only [confRules] at hd HK
      have h1 := hd
      clear hd
      simp only [h1] at HK ⊢
      clear h1
      have hT := (hB.block w.heap.size (by omega)).trans HE.out
      obtain ⟨k1, k2, k3, k4, k5⟩ := HQ.out _ hT
      clear hT
      go_wp2
      refine HK.out _ _ (Below.refl _ _) ?_
      rfl
    · intro vv W K hB hd HK
      simp only [confRules] at HK
      clear hd
      go_wp2
      refine HK.out _ _ (Below.refl _ _) ?_
      rfl
    · intro vv W K hB hd HK
      simp only [confRules] at hd HK
      have h3 := hd
      clear hd
      simp only [h3] at HK ⊢
      clear h3
      have hT := (hB.block w.heap.size (by omega)).trans HE.out
      obtain ⟨k1, k2, k3, k4, k5⟩ := HQ.out _ hT
      clear hT
      go_wp2
      refine HK.out _ _ (Below.refl _ _) ?_
      rfl
    · intro vv W K hB hd HK
      simp only [confRules] at hd HK
      obtain ⟨h0, h2, h4⟩ := hd
      simp only [h0, h2, h4] at HK ⊢
      clear h0 h2 h4
      go_wp2_with (refine (H1.out _).mono ?_; rintro e w9 ⟨rfl, hB9⟩)
      refine HK.out _ _ hB9 ?_
      rfl
    · intro vv W K hB hd HK
      simp only [confRules] at hd HK
      obtain ⟨h5, _⟩ := hd
      simp only [h5] at HK ⊢
      clear h5
      go_wp2
      refine HK.out _ _ (Below.refl _ _) ?_
      rfl
    · intro vv W K hB hd HK
      simp only [confRules] at hd HK
      have h6 := hd
      clear hd
      simp only [h6] at HK ⊢
      clear h6
      refine wpList_guard_yes (by rfl) ?_
      have hT := (hB.block (w.heap.size + 1) hz0).trans HG.out
      go_wp2_with (refine wpList_row_on (by rfl) 23 _ rfl (w.heap.size + 1) rfl 23 _ _ _ hT Try.underlying23 rfl HI.out ?_)
      refine HK.out _ _ (Below.refl _ _) ?_
      rfl
    · intro vv W K hB hd HK
      simp only [confRules] at hd HK
      have h6 := hd
      clear hd
      simp only [h6] at HK ⊢
      clear h6
      refine wpList_guard_yes (by rfl) ?_
      go_wp2
      refine HK.out _ _ (Below.refl _ _) ?_
      rfl
    · intro vv W K hB hd HK
      simp only [confRules] at hd HK
      obtain ⟨h8, h6⟩ := hd
      simp only [h8, h6] at HK ⊢
      clear h8 h6
      refine wpList_guard_yes (by rfl) ?_
      have hT := (hB.block w.heap.size (by omega)).trans HE.out
      obtain ⟨k1, k2, k3, k4, k5⟩ := HQ.out _ hT
      clear hT
      go_wp2
      refine HK.out _ _ (Below.refl _ _) ?_
      rfl
    · intro vv W K hB hd HK
      simp only [confRules] at hd HK
      have h6 := hd
      clear hd
      simp only [h6] at HK ⊢
      clear h6
      refine wpList_guard_yes (by rfl) ?_
      go_wp2
      refine HK.out _ _ (Below.refl _ _) ?_
      rfl
    · intro vv W K hB hd HK
      simp only [confRules] at hd HK
      obtain ⟨h10, h6⟩ := hd
      simp only [h10, h6] at HK ⊢
      clear h10 h6
      refine wpList_guard_yes (by rfl) ?_
      have hT := (hB.block w.heap.size (by omega)).trans HE.out
      obtain ⟨k1, k2, k3, k4, k5⟩ := HQ.out _ hT
      clear hT
      go_wp2
      refine HK.out _ _ (Below.refl _ _) ?_
      rfl
    · intro vv W K hB hd HK
      simp only [confRules] at hd HK
      obtain ⟨h7, h9, h11, h6, _⟩ := hd
      simp only [h7, h9, h11, h6] at HK ⊢
      clear h7 h9 h11 h6
      refine wpList_guard_yes (by rfl) ?_
      go_wp2_with (refine (H2.out _).mono ?_; rintro e w9 ⟨rfl, hB9⟩)
      refine HK.out _ _ hB9 ?_
      rfl
    · intro vv W K hB hd HK
      simp only [confRules] at hd HK
      obtain ⟨h6, h12⟩ := hd
      simp only [h6, h12] at HK ⊢
      clear h6 h12
      go_wp2
      refine HK.out _ _ (Below.refl _ _) ?_
      rfl
    · intro vv W K hB hd HK
      simp only [confRules] at hd HK
      obtain ⟨h13, h12⟩ := hd
      simp only [h13, h12] at HK ⊢
      clear h13 h12
      go_wp2
      refine HK.out _ _ (Below.refl _ _) ?_
      rfl
    · intro vv W K hB hd HK
      simp only [confRules] at hd HK
      have h14 := hd
      clear hd
      simp only [h14] at HK ⊢
      clear h14
      refine wpList_guard_yes (by rfl) ?_
      have hT := (hB.block (w.heap.size + 1) hz0).trans HG.out
      go_wp2_with (refine wpList_row_on (by rfl) 23 _ rfl (w.heap.size + 1) rfl 23 _ _ _ hT Try.underlying23 rfl HI.out ?_)
      refine HK.out _ _ (Below.refl _ _) ?_
      rfl
    · intro vv W K hB hd HK
      simp only [confRules] at hd HK
      have h14 := hd
      clear hd
      simp only [h14] at HK ⊢
      clear h14
      refine wpList_guard_yes (by rfl) ?_
      go_wp2
      refine HK.out _ _ (Below.refl _ _) ?_
      rfl
    · intro vv W K hB hd HK
      simp only [confRules] at hd HK
      obtain ⟨h16, h14⟩ := hd
      simp only [h16, h14] at HK ⊢
      clear h16 h14
      refine wpList_guard_yes (by rfl) ?_
      have hT := (hB.block w.heap.size (by omega)).trans HE.out
      obtain ⟨k1, k2, k3, k4, k5⟩ := HQ.out _ hT
      clear hT
      go_wp2
      refine HK.out _ _ (Below.refl _ _) ?_
      rfl
    · intro vv W K hB hd HK
      simp only [confRules] at hd HK
      obtain ⟨h15, h17, h14, _⟩ := hd
      simp only [h15, h17, h14] at HK ⊢
      clear h15 h17 h14
      refine wpList_guard_yes (by rfl) ?_
      go_wp2_with (refine (D1.out _).mono ?_; rintro e w9 ⟨rfl, hB9⟩)
      refine HK.out _ _ hB9 ?_
      rfl
    · intro vv W K hB hd HK
      simp only [confRules] at hd HK
      have h14 := hd
      clear hd
      simp only [h14] at HK ⊢
      clear h14
      refine wpList_guard_yes (by rfl) ?_
      have hT := (hB.block (w.heap.size + 1) hz0).trans HG.out
      go_wp2_with (refine wpList_row_on (by rfl) 23 _ rfl (w.heap.size + 1) rfl 23 _ _ _ hT Try.underlying23 rfl HI.out ?_)
      refine HK.out _ _ (Below.refl _ _) ?_
      rfl
    · intro vv W K hB hd HK
      simp only [confRules] at hd HK
      have h14 := hd
      clear hd
      simp only [h14] at HK ⊢
      clear h14
      refine wpList_guard_yes (by rfl) ?_
      go_wp2
      refine HK.out _ _ (Below.refl _ _) ?_
      rfl
    · intro vv W K hB hd HK
      simp only [confRules] at hd HK
      obtain ⟨h20, h14⟩ := hd
      simp only [h20, h14] at HK ⊢
      clear h20 h14
      refine wpList_guard_yes (by rfl) ?_
      have hT := (hB.block w.heap.size (by omega)).trans HE.out
      obtain ⟨k1, k2, k3, k4, k5⟩ := HQ.out _ hT
      clear hT
      go_wp2
      refine HK.out _ _ (Below.refl _ _) ?_
      rfl
    · intro vv W K hB hd HK
      simp only [confRules] at hd HK
      obtain ⟨h19, h21, h18, h14⟩ := hd
      simp only [h19, h21, h18, h14] at HK ⊢
      clear h19 h21 h18 h14
      refine wpList_guard_yes (by rfl) ?_
      go_wp2_with (refine (D2.out _).mono ?_; rintro e w9 ⟨rfl, hB9⟩)
      refine HK.out _ _ hB9 ?_
      rfl
    · intro vv W K hB hd HK
      simp only [confRules] at hd HK
      obtain ⟨h18, h22, h14⟩ := hd
      simp only [h18, h22, h14] at HK ⊢
      clear h18 h22 h14
      refine wpList_guard_yes (by rfl) ?_
      have t := T3.out
      go_wp2
      refine HK.out _ _ (Below.refl _ _) ?_
      first | rfl | exact congrArg Value.bool t | exact congrArg Value.bool (show (!_) = _ by rw [t]; rfl)
    · intro vv W K hB hd HK
      simp only [confRules] at hd HK
      obtain ⟨h14, h23⟩ := hd
      simp only [h14, h23] at HK ⊢
      clear h14 h23
      go_wp2
      refine HK.out _ _ (Below.refl _ _) ?_
      rfl
    · intro vv W K hB hd HK
      simp only [confRules] at hd HK
      obtain ⟨h24, h22⟩ := hd
      simp only [h24, h22] at HK ⊢
      clear h24 h22
      go_wp2
      refine HK.out _ _ (Below.refl _ _) ?_
      rfl
    · intro vv W K hB hd HK
      simp only [confRules] at hd HK
      have h25 := hd
      clear hd
      simp only [h25] at HK ⊢
      clear h25
      refine wpList_guard_yes (by rfl) ?_
      go_wp2
      refine HK.out _ _ (Below.refl _ _) ?_
      rfl
    · intro vv W K hB hd HK
      simp only [confRules] at hd HK
      obtain ⟨h26, h25⟩ := hd
      simp only [h26, h25] at HK ⊢
      clear h26 h25
      refine wpList_guard_yes (by rfl) ?_
      have hT := (hB.block w.heap.size (by omega)).trans HE.out
      obtain ⟨k1, k2, k3, k4, k5⟩ := HQ.out _ hT
      clear hT
      go_wp2
      refine HK.out _ _ (Below.refl _ _) ?_
      rfl
    · intro vv W K hB hd HK
      simp only [confRules] at hd HK
      obtain ⟨h27, h25⟩ := hd
      simp only [h27, h25] at HK ⊢
      clear h27 h25
      refine wpList_guard_yes (by rfl) ?_
      have t := T4.out
      go_wp2
      refine HK.out _ _ (Below.refl _ _) ?_
      first | rfl | exact congrArg Value.bool t | exact congrArg Value.bool (show (!_) = _ by rw [t]; rfl)
    · intro vv W K hB hd HK
      simp only [confRules] at hd HK
      obtain ⟨h25, h28⟩ := hd
      simp only [h25, h28] at HK ⊢
      clear h25 h28
      go_wp2
      refine HK.out _ _ (Below.refl _ _) ?_
      rfl
    · intro vv W K hB hd HK
      simp only [confRules] at hd HK
      obtain ⟨h29, h25⟩ := hd
      simp only [h29, h25] at HK ⊢
      clear h29 h25
      go_wp2
      refine HK.out _ _ (Below.refl _ _) ?_
      rfl
    · intro vv W K hB hd HK
      simp only [confRules] at hd HK
      have h30 := hd
      clear hd
      simp only [h30] at HK ⊢
      clear h30
      refine wpList_guard_yes (by rfl) ?_
      go_wp2
      refine HK.out _ _ (Below.refl _ _) ?_
      rfl
    · intro vv W K hB hd HK
      simp only [confRules] at hd HK
      obtain ⟨h31, h30⟩ := hd
      simp only [h31, h30] at HK ⊢
      clear h31 h30
      refine wpList_guard_yes (by rfl) ?_
      have hT := (hB.block w.heap.size (by omega)).trans HE.out
      obtain ⟨k1, k2, k3, k4, k5⟩ := HQ.out _ hT
      clear hT
      go_wp2
      refine HK.out _ _ (Below.refl _ _) ?_
      rfl
    · intro vv W K hB hd HK
      simp only [confRules] at hd HK
      obtain ⟨h32, h30⟩ := hd
      simp only [h32, h30] at HK ⊢
      clear h32 h30
      refine wpList_guard_yes (by rfl) ?_
      have t := T5.out
      go_wp2
      refine HK.out _ _ (Below.refl _ _) ?_
      first | rfl | exact congrArg Value.bool t | exact congrArg Value.bool (show (!_) = _ by rw [t]; rfl)
    · intro vv W K hB hd HK
      simp only [confRules] at hd HK
      obtain ⟨h30, h33⟩ := hd
      simp only [h30, h33] at HK ⊢
      clear h30 h33
      go_wp2
      refine HK.out _ _ (Below.refl _ _) ?_
      rfl
    · intro vv W K hB hd HK
      simp only [confRules] at hd HK
      obtain ⟨h34, h30⟩ := hd
      simp only [h34, h30] at HK ⊢
      clear h34 h30
      go_wp2
      refine HK.out _ _ (Below.refl _ _) ?_
      rfl
    · intro vv W K hB hd HK
      simp only [confRules] at hd HK
      have h35 := hd
      clear hd
      simp only [h35] at HK ⊢
      clear h35
      refine wpList_guard_yes (by rfl) ?_
      go_wp2
      refine HK.out _ _ (Below.refl _ _) ?_
      rfl
    · intro vv W K hB hd HK
      simp only [confRules] at hd HK
      obtain ⟨h36, h35⟩ := hd
      simp only [h36, h35] at HK ⊢
      clear h36 h35
      refine wpList_guard_yes (by rfl) ?_
      have hT := (hB.block w.heap.size (by omega)).trans HE.out
      obtain ⟨k1, k2, k3, k4, k5⟩ := HQ.out _ hT
      clear hT
      go_wp2
      refine HK.out _ _ (Below.refl _ _) ?_
      rfl
    · intro vv W K hB hd HK
      simp only [confRules] at hd HK
      obtain ⟨h37, h35⟩ := hd
      simp only [h37, h35] at HK ⊢
      clear h37 h35
      refine wpList_guard_yes (by rfl) ?_
      have t := T6.out
      go_wp2
      refine HK.out _ _ (Below.refl _ _) ?_
      first | rfl | exact congrArg Value.bool t | exact congrArg Value.bool (show (!_) = _ by rw [t]; rfl)
    · intro vv W K hB hd HK
      simp only [confRules] at hd HK
      obtain ⟨h35, h38⟩ := hd
      simp only [h35, h38] at HK ⊢
      clear h35 h38
      go_wp2
      refine HK.out _ _ (Below.refl _ _) ?_
      rfl
    · intro vv W K hB hd HK
      simp only [confRules] at hd HK
      obtain ⟨h39, h35⟩ := hd
      simp only [h39, h35] at HK ⊢
      clear h39 h35
      go_wp2
      refine HK.out _ _ (Below.refl _ _) ?_
      rfl
    · intro vv W K hB hd HK
      simp only [confRules] at hd HK
      have h40 := hd
      clear hd
      simp only [h40] at HK ⊢
      clear h40
      refine wpList_guard_no (by rfl) ?_
      refine HK.out _ _ (Below.refl _ _) ?_
      rfl
    · intro vv W K hB hd HK
      simp only [confRules] at hd HK
      obtain ⟨h41, h40⟩ := hd
      simp only [h41, h40] at HK ⊢
      clear h41 h40
      refine wpList_guard_no (by rfl) ?_
      refine HK.out _ _ (Below.refl _ _) ?_
      rfl
    · intro vv W K hB hd HK
      simp only [confRules] at hd HK
      obtain ⟨h42, h40⟩ := hd
      simp only [h42, h40] at HK ⊢
      clear h42 h40
      refine wpList_guard_no (by rfl) ?_
      refine HK.out _ _ (Below.refl _ _) ?_
      rfl
    · intro vv W K hB hd HK
      simp only [confRules] at hd HK
      obtain ⟨h40, h43⟩ := hd
      simp only [h40, h43] at HK ⊢
      clear h40 h43
      go_wp2
      refine HK.out _ _ (Below.refl _ _) ?_
      rfl
  case rahend =>
    intro vv W hB hf
    have e44 := hf 44 (by decide)
    simp only [endRules] at e44
    simp only [e44, dropRules]
    clear hf e44
    go_wp2
    go_ret
    exact ⟨rfl, hB0.trans (hB.mono (by omega))⟩
set_option maxRecDepth 100000 in
set_option maxHeartbeats 2000000 in
theorem bright_7 (C D : Array Value) (z m o q s d1 d2 : Int) (w : World)
    (hC : ∀ (W : World), W.heap[w.heap.size]? = some (.cells C 54 (0, 0)) → W.cell? ⟨w.heap.size, 0, none⟩ = some (.int .i64 1) ∧ W.cell? ⟨w.heap.size, 1, none⟩ = some (.int .i64 z) ∧ W.cell? ⟨w.heap.size, 2, none⟩ = some (.int .i64 m) ∧ W.cell? ⟨w.heap.size, 3, none⟩ = some (.int .i64 o) ∧ W.cell? ⟨w.heap.size, 4, none⟩ = some (.int .i64 q) ∧ W.cell? ⟨w.heap.size, 5, none⟩ = some (.int .i64 s))
    (hI : (Try.prog.info? 23).map (·.size) = some D.size)
    (h1 : ∀ W, Calls Try.prog 40 #[.agg D, .int .i64 z, .int .i64 o] W fun e w' => e = .returned (.bool true) ∧ Below W.heap.size W w')
    (h2 : ∀ W, Calls Try.prog 40 #[.agg D, .int .i64 m, .int .i64 o] W fun e w' => e = .returned (.bool true) ∧ Below W.heap.size W w')
    (hd1 : ∀ W, Calls Try.prog 41 #[.agg D, .int .i64 z] W fun e w' => e = .returned (.int .i64 d1) ∧ Below W.heap.size W w') (hd2 : ∀ W, Calls Try.prog 41 #[.agg D, .int .i64 m] W fun e w' => e = .returned (.int .i64 d2) ∧ Below W.heap.size W w') (t3 : (d1 == d2) = false)
    (t4 : decide (1 ≤ q) = true)
    (t5 : decide (q ≤ 281474976710655) = true)
    (t6 : decide (0 ≤ s) = true)
    (t7 : decide (s ≤ 4294967295) = false) :
    Calls Try.prog 21 #[.agg C, .agg D] w fun e w' => e = .returned (.bool false) ∧ Below w.heap.size w w' := by
  obtain ⟨W0, hW0, hB0, hE, hG, hz0⟩ := bright_setup C D w
  obtain ⟨k0, -⟩ := hC _ hE
  have HW0 := Lib.hid hW0
  have HE := Lib.hid hE
  have HG := Lib.hid hG
  have HI := Lib.hid hI
  have HQ := Lib.hid (fun W hh => (hC W hh).2)
  have H1 := Lib.hid h1
  have H2 := Lib.hid h2
  have D1 := Lib.hid hd1
  have D2 := Lib.hid hd2
  have T3 := Lib.hid t3
  have T4 := Lib.hid t4
  have T5 := Lib.hid t5
  have T6 := Lib.hid t6
  have T7 := Lib.hid t7
  clear hW0 hE hG hI hC h1 h2 hd1 hd2 t3 t4 t5 t6 t7
  go_enter Try.func21, Try.ntmps21
  go_upto_region 1 with (fail)
  rw [HW0.out]
  go_wp2
  refine wp_region_conf2 45 [Fact.eq ?rax0, Fact.eq ?rax1, Fact.eq ?rax2, Fact.eq ?rax3, Fact.eq ?rax4, Fact.eq ?rax5, Fact.eq ?rax6, Fact.eq ?rax7, Fact.eq ?rax8, Fact.eq ?rax9, Fact.eq ?rax10, Fact.eq ?rax11, Fact.eq ?rax12, Fact.eq ?rax13, Fact.eq ?rax14, Fact.eq ?rax15, Fact.eq ?rax16, Fact.eq ?rax17, Fact.eq ?rax18, Fact.eq ?rax19, Fact.eq ?rax20, Fact.eq ?rax21, Fact.eq ?rax22, Fact.eq (.bool true), Fact.eq ?rax24, Fact.eq ?rax25, Fact.eq ?rax26, Fact.eq ?rax27, Fact.eq (.bool true), Fact.eq ?rax29, Fact.eq ?rax30, Fact.eq ?rax31, Fact.eq ?rax32, Fact.eq (.bool true), Fact.eq ?rax34, Fact.eq ?rax35, Fact.eq ?rax36, Fact.eq ?rax37, Fact.eq (.bool true), Fact.eq ?rax39, Fact.eq ?rax40, Fact.eq ?rax41, Fact.eq ?rax42, Fact.eq (.bool false), Fact.eq ?rax44] ?raA (by kernel_rfl) (by kernel_rfl) ?rahA ?raho ?rahend
  case rahA =>
    intro vv
    simp only [putRules, Nat.reduceAdd]
    rfl
  case raho =>
    refine ⟨?_, ?_, ?_, ?_, ?_, ?_, ?_, ?_, ?_, ?_, ?_, ?_, ?_, ?_, ?_, ?_, ?_, ?_, ?_, ?_, ?_, ?_, ?_, ?_, ?_, ?_, ?_, ?_, ?_, ?_, ?_, ?_, ?_, ?_, ?_, ?_, ?_, ?_, ?_, ?_, ?_, ?_, ?_, ?_, ?_, trivial⟩
    · intro vv W K hB hd HK
      simp only [confRules] at HK
      clear hd
      have hT := (hB.block (w.heap.size + 1) hz0).trans HG.out
      go_wp2_with (refine wpList_row_on (by rfl) 23 _ rfl (w.heap.size + 1) rfl 23 _ _ _ hT Try.underlying23 rfl HI.out ?_)
      refine HK.out _ _ (Below.refl _ _) ?_
      rfl
    · intro vv W K hB hd HK
      simp only [confRules] at HK
      clear hd
      go_wp2
      refine HK.out _ _ (Below.refl _ _) ?_
      rfl
    · intro vv W K hB hd HK
      simp only [confRules] at hd HK
      have h1 := hd
      clear hd
      simp only [h1] at HK ⊢
      clear h1
      have hT := (hB.block w.heap.size (by omega)).trans HE.out
      obtain ⟨k1, k2, k3, k4, k5⟩ := HQ.out _ hT
      clear hT
      go_wp2
      refine HK.out _ _ (Below.refl _ _) ?_
      rfl
    · intro vv W K hB hd HK
      simp only [confRules] at HK
      clear hd
      go_wp2
      refine HK.out _ _ (Below.refl _ _) ?_
      rfl
    · intro vv W K hB hd HK
      simp only [confRules] at hd HK
      have h3 := hd
      clear hd
      simp only [h3] at HK ⊢
      clear h3
      have hT := (hB.block w.heap.size (by omega)).trans HE.out
      obtain ⟨k1, k2, k3, k4, k5⟩ := HQ.out _ hT
      clear hT
      go_wp2
      refine HK.out _ _ (Below.refl _ _) ?_
      rfl
    · intro vv W K hB hd HK
      simp only [confRules] at hd HK
      obtain ⟨h0, h2, h4⟩ := hd
      simp only [h0, h2, h4] at HK ⊢
      clear h0 h2 h4
      go_wp2_with (refine (H1.out _).mono ?_; rintro e w9 ⟨rfl, hB9⟩)
      refine HK.out _ _ hB9 ?_
      rfl
    · intro vv W K hB hd HK
      simp only [confRules] at hd HK
      obtain ⟨h5, _⟩ := hd
      simp only [h5] at HK ⊢
      clear h5
      go_wp2
      refine HK.out _ _ (Below.refl _ _) ?_
      rfl
    · intro vv W K hB hd HK
      simp only [confRules] at hd HK
      have h6 := hd
      clear hd
      simp only [h6] at HK ⊢
      clear h6
      refine wpList_guard_yes (by rfl) ?_
      have hT := (hB.block (w.heap.size + 1) hz0).trans HG.out
      go_wp2_with (refine wpList_row_on (by rfl) 23 _ rfl (w.heap.size + 1) rfl 23 _ _ _ hT Try.underlying23 rfl HI.out ?_)
      refine HK.out _ _ (Below.refl _ _) ?_
      rfl
    · intro vv W K hB hd HK
      simp only [confRules] at hd HK
      have h6 := hd
      clear hd
      simp only [h6] at HK ⊢
      clear h6
      refine wpList_guard_yes (by rfl) ?_
      go_wp2
      refine HK.out _ _ (Below.refl _ _) ?_
      rfl
    · intro vv W K hB hd HK
      simp only [confRules] at hd HK
      obtain ⟨h8, h6⟩ := hd
      simp only [h8, h6] at HK ⊢
      clear h8 h6
      refine wpList_guard_yes (by rfl) ?_
      have hT := (hB.block w.heap.size (by omega)).trans HE.out
      obtain ⟨k1, k2, k3, k4, k5⟩ := HQ.out _ hT
      clear hT
      go_wp2
      refine HK.out _ _ (Below.refl _ _) ?_
      rfl
    · intro vv W K hB hd HK
      simp only [confRules] at hd HK
      have h6 := hd
      clear hd
      simp only [h6] at HK ⊢
      clear h6
      refine wpList_guard_yes (by rfl) ?_
      go_wp2
      refine HK.out _ _ (Below.refl _ _) ?_
      rfl
    · intro vv W K hB hd HK
      simp only [confRules] at hd HK
      obtain ⟨h10, h6⟩ := hd
      simp only [h10, h6] at HK ⊢
      clear h10 h6
      refine wpList_guard_yes (by rfl) ?_
      have hT := (hB.block w.heap.size (by omega)).trans HE.out
      obtain ⟨k1, k2, k3, k4, k5⟩ := HQ.out _ hT
      clear hT
      go_wp2
      refine HK.out _ _ (Below.refl _ _) ?_
      rfl
    · intro vv W K hB hd HK
      simp only [confRules] at hd HK
      obtain ⟨h7, h9, h11, h6, _⟩ := hd
      simp only [h7, h9, h11, h6] at HK ⊢
      clear h7 h9 h11 h6
      refine wpList_guard_yes (by rfl) ?_
      go_wp2_with (refine (H2.out _).mono ?_; rintro e w9 ⟨rfl, hB9⟩)
      refine HK.out _ _ hB9 ?_
      rfl
    · intro vv W K hB hd HK
      simp only [confRules] at hd HK
      obtain ⟨h6, h12⟩ := hd
      simp only [h6, h12] at HK ⊢
      clear h6 h12
      go_wp2
      refine HK.out _ _ (Below.refl _ _) ?_
      rfl
    · intro vv W K hB hd HK
      simp only [confRules] at hd HK
      obtain ⟨h13, h12⟩ := hd
      simp only [h13, h12] at HK ⊢
      clear h13 h12
      go_wp2
      refine HK.out _ _ (Below.refl _ _) ?_
      rfl
    · intro vv W K hB hd HK
      simp only [confRules] at hd HK
      have h14 := hd
      clear hd
      simp only [h14] at HK ⊢
      clear h14
      refine wpList_guard_yes (by rfl) ?_
      have hT := (hB.block (w.heap.size + 1) hz0).trans HG.out
      go_wp2_with (refine wpList_row_on (by rfl) 23 _ rfl (w.heap.size + 1) rfl 23 _ _ _ hT Try.underlying23 rfl HI.out ?_)
      refine HK.out _ _ (Below.refl _ _) ?_
      rfl
    · intro vv W K hB hd HK
      simp only [confRules] at hd HK
      have h14 := hd
      clear hd
      simp only [h14] at HK ⊢
      clear h14
      refine wpList_guard_yes (by rfl) ?_
      go_wp2
      refine HK.out _ _ (Below.refl _ _) ?_
      rfl
    · intro vv W K hB hd HK
      simp only [confRules] at hd HK
      obtain ⟨h16, h14⟩ := hd
      simp only [h16, h14] at HK ⊢
      clear h16 h14
      refine wpList_guard_yes (by rfl) ?_
      have hT := (hB.block w.heap.size (by omega)).trans HE.out
      obtain ⟨k1, k2, k3, k4, k5⟩ := HQ.out _ hT
      clear hT
      go_wp2
      refine HK.out _ _ (Below.refl _ _) ?_
      rfl
    · intro vv W K hB hd HK
      simp only [confRules] at hd HK
      obtain ⟨h15, h17, h14, _⟩ := hd
      simp only [h15, h17, h14] at HK ⊢
      clear h15 h17 h14
      refine wpList_guard_yes (by rfl) ?_
      go_wp2_with (refine (D1.out _).mono ?_; rintro e w9 ⟨rfl, hB9⟩)
      refine HK.out _ _ hB9 ?_
      rfl
    · intro vv W K hB hd HK
      simp only [confRules] at hd HK
      have h14 := hd
      clear hd
      simp only [h14] at HK ⊢
      clear h14
      refine wpList_guard_yes (by rfl) ?_
      have hT := (hB.block (w.heap.size + 1) hz0).trans HG.out
      go_wp2_with (refine wpList_row_on (by rfl) 23 _ rfl (w.heap.size + 1) rfl 23 _ _ _ hT Try.underlying23 rfl HI.out ?_)
      refine HK.out _ _ (Below.refl _ _) ?_
      rfl
    · intro vv W K hB hd HK
      simp only [confRules] at hd HK
      have h14 := hd
      clear hd
      simp only [h14] at HK ⊢
      clear h14
      refine wpList_guard_yes (by rfl) ?_
      go_wp2
      refine HK.out _ _ (Below.refl _ _) ?_
      rfl
    · intro vv W K hB hd HK
      simp only [confRules] at hd HK
      obtain ⟨h20, h14⟩ := hd
      simp only [h20, h14] at HK ⊢
      clear h20 h14
      refine wpList_guard_yes (by rfl) ?_
      have hT := (hB.block w.heap.size (by omega)).trans HE.out
      obtain ⟨k1, k2, k3, k4, k5⟩ := HQ.out _ hT
      clear hT
      go_wp2
      refine HK.out _ _ (Below.refl _ _) ?_
      rfl
    · intro vv W K hB hd HK
      simp only [confRules] at hd HK
      obtain ⟨h19, h21, h18, h14⟩ := hd
      simp only [h19, h21, h18, h14] at HK ⊢
      clear h19 h21 h18 h14
      refine wpList_guard_yes (by rfl) ?_
      go_wp2_with (refine (D2.out _).mono ?_; rintro e w9 ⟨rfl, hB9⟩)
      refine HK.out _ _ hB9 ?_
      rfl
    · intro vv W K hB hd HK
      simp only [confRules] at hd HK
      obtain ⟨h18, h22, h14⟩ := hd
      simp only [h18, h22, h14] at HK ⊢
      clear h18 h22 h14
      refine wpList_guard_yes (by rfl) ?_
      have t := T3.out
      go_wp2
      refine HK.out _ _ (Below.refl _ _) ?_
      first | rfl | exact congrArg Value.bool t | exact congrArg Value.bool (show (!_) = _ by rw [t]; rfl)
    · intro vv W K hB hd HK
      simp only [confRules] at hd HK
      obtain ⟨h14, h23⟩ := hd
      simp only [h14, h23] at HK ⊢
      clear h14 h23
      go_wp2
      refine HK.out _ _ (Below.refl _ _) ?_
      rfl
    · intro vv W K hB hd HK
      simp only [confRules] at hd HK
      obtain ⟨h24, h22⟩ := hd
      simp only [h24, h22] at HK ⊢
      clear h24 h22
      go_wp2
      refine HK.out _ _ (Below.refl _ _) ?_
      rfl
    · intro vv W K hB hd HK
      simp only [confRules] at hd HK
      have h25 := hd
      clear hd
      simp only [h25] at HK ⊢
      clear h25
      refine wpList_guard_yes (by rfl) ?_
      go_wp2
      refine HK.out _ _ (Below.refl _ _) ?_
      rfl
    · intro vv W K hB hd HK
      simp only [confRules] at hd HK
      obtain ⟨h26, h25⟩ := hd
      simp only [h26, h25] at HK ⊢
      clear h26 h25
      refine wpList_guard_yes (by rfl) ?_
      have hT := (hB.block w.heap.size (by omega)).trans HE.out
      obtain ⟨k1, k2, k3, k4, k5⟩ := HQ.out _ hT
      clear hT
      go_wp2
      refine HK.out _ _ (Below.refl _ _) ?_
      rfl
    · intro vv W K hB hd HK
      simp only [confRules] at hd HK
      obtain ⟨h27, h25⟩ := hd
      simp only [h27, h25] at HK ⊢
      clear h27 h25
      refine wpList_guard_yes (by rfl) ?_
      have t := T4.out
      go_wp2
      refine HK.out _ _ (Below.refl _ _) ?_
      first | rfl | exact congrArg Value.bool t | exact congrArg Value.bool (show (!_) = _ by rw [t]; rfl)
    · intro vv W K hB hd HK
      simp only [confRules] at hd HK
      obtain ⟨h25, h28⟩ := hd
      simp only [h25, h28] at HK ⊢
      clear h25 h28
      go_wp2
      refine HK.out _ _ (Below.refl _ _) ?_
      rfl
    · intro vv W K hB hd HK
      simp only [confRules] at hd HK
      obtain ⟨h29, h25⟩ := hd
      simp only [h29, h25] at HK ⊢
      clear h29 h25
      go_wp2
      refine HK.out _ _ (Below.refl _ _) ?_
      rfl
    · intro vv W K hB hd HK
      simp only [confRules] at hd HK
      have h30 := hd
      clear hd
      simp only [h30] at HK ⊢
      clear h30
      refine wpList_guard_yes (by rfl) ?_
      go_wp2
      refine HK.out _ _ (Below.refl _ _) ?_
      rfl
    · intro vv W K hB hd HK
      simp only [confRules] at hd HK
      obtain ⟨h31, h30⟩ := hd
      simp only [h31, h30] at HK ⊢
      clear h31 h30
      refine wpList_guard_yes (by rfl) ?_
      have hT := (hB.block w.heap.size (by omega)).trans HE.out
      obtain ⟨k1, k2, k3, k4, k5⟩ := HQ.out _ hT
      clear hT
      go_wp2
      refine HK.out _ _ (Below.refl _ _) ?_
      rfl
    · intro vv W K hB hd HK
      simp only [confRules] at hd HK
      obtain ⟨h32, h30⟩ := hd
      simp only [h32, h30] at HK ⊢
      clear h32 h30
      refine wpList_guard_yes (by rfl) ?_
      have t := T5.out
      go_wp2
      refine HK.out _ _ (Below.refl _ _) ?_
      first | rfl | exact congrArg Value.bool t | exact congrArg Value.bool (show (!_) = _ by rw [t]; rfl)
    · intro vv W K hB hd HK
      simp only [confRules] at hd HK
      obtain ⟨h30, h33⟩ := hd
      simp only [h30, h33] at HK ⊢
      clear h30 h33
      go_wp2
      refine HK.out _ _ (Below.refl _ _) ?_
      rfl
    · intro vv W K hB hd HK
      simp only [confRules] at hd HK
      obtain ⟨h34, h30⟩ := hd
      simp only [h34, h30] at HK ⊢
      clear h34 h30
      go_wp2
      refine HK.out _ _ (Below.refl _ _) ?_
      rfl
    · intro vv W K hB hd HK
      simp only [confRules] at hd HK
      have h35 := hd
      clear hd
      simp only [h35] at HK ⊢
      clear h35
      refine wpList_guard_yes (by rfl) ?_
      go_wp2
      refine HK.out _ _ (Below.refl _ _) ?_
      rfl
    · intro vv W K hB hd HK
      simp only [confRules] at hd HK
      obtain ⟨h36, h35⟩ := hd
      simp only [h36, h35] at HK ⊢
      clear h36 h35
      refine wpList_guard_yes (by rfl) ?_
      have hT := (hB.block w.heap.size (by omega)).trans HE.out
      obtain ⟨k1, k2, k3, k4, k5⟩ := HQ.out _ hT
      clear hT
      go_wp2
      refine HK.out _ _ (Below.refl _ _) ?_
      rfl
    · intro vv W K hB hd HK
      simp only [confRules] at hd HK
      obtain ⟨h37, h35⟩ := hd
      simp only [h37, h35] at HK ⊢
      clear h37 h35
      refine wpList_guard_yes (by rfl) ?_
      have t := T6.out
      go_wp2
      refine HK.out _ _ (Below.refl _ _) ?_
      first | rfl | exact congrArg Value.bool t | exact congrArg Value.bool (show (!_) = _ by rw [t]; rfl)
    · intro vv W K hB hd HK
      simp only [confRules] at hd HK
      obtain ⟨h35, h38⟩ := hd
      simp only [h35, h38] at HK ⊢
      clear h35 h38
      go_wp2
      refine HK.out _ _ (Below.refl _ _) ?_
      rfl
    · intro vv W K hB hd HK
      simp only [confRules] at hd HK
      obtain ⟨h39, h35⟩ := hd
      simp only [h39, h35] at HK ⊢
      clear h39 h35
      go_wp2
      refine HK.out _ _ (Below.refl _ _) ?_
      rfl
    · intro vv W K hB hd HK
      simp only [confRules] at hd HK
      have h40 := hd
      clear hd
      simp only [h40] at HK ⊢
      clear h40
      refine wpList_guard_yes (by rfl) ?_
      go_wp2
      refine HK.out _ _ (Below.refl _ _) ?_
      rfl
    · intro vv W K hB hd HK
      simp only [confRules] at hd HK
      obtain ⟨h41, h40⟩ := hd
      simp only [h41, h40] at HK ⊢
      clear h41 h40
      refine wpList_guard_yes (by rfl) ?_
      have hT := (hB.block w.heap.size (by omega)).trans HE.out
      obtain ⟨k1, k2, k3, k4, k5⟩ := HQ.out _ hT
      clear hT
      go_wp2
      refine HK.out _ _ (Below.refl _ _) ?_
      rfl
    · intro vv W K hB hd HK
      simp only [confRules] at hd HK
      obtain ⟨h42, h40⟩ := hd
      simp only [h42, h40] at HK ⊢
      clear h42 h40
      refine wpList_guard_yes (by rfl) ?_
      have t := T7.out
      go_wp2
      refine HK.out _ _ (Below.refl _ _) ?_
      first | rfl | exact congrArg Value.bool t | exact congrArg Value.bool (show (!_) = _ by rw [t]; rfl)
    · intro vv W K hB hd HK
      simp only [confRules] at hd HK
      obtain ⟨h40, h43⟩ := hd
      simp only [h40, h43] at HK ⊢
      clear h40 h43
      go_wp2
      refine HK.out _ _ (Below.refl _ _) ?_
      rfl
  case rahend =>
    intro vv W hB hf
    have e44 := hf 44 (by decide)
    simp only [endRules] at e44
    simp only [e44, dropRules]
    clear hf e44
    go_wp2
    go_ret
    exact ⟨rfl, hB0.trans (hB.mono (by omega))⟩
set_option maxRecDepth 100000 in
set_option maxHeartbeats 2000000 in
theorem bright_8 (C D : Array Value) (z m o q s d1 d2 : Int) (w : World)
    (hC : ∀ (W : World), W.heap[w.heap.size]? = some (.cells C 54 (0, 0)) → W.cell? ⟨w.heap.size, 0, none⟩ = some (.int .i64 1) ∧ W.cell? ⟨w.heap.size, 1, none⟩ = some (.int .i64 z) ∧ W.cell? ⟨w.heap.size, 2, none⟩ = some (.int .i64 m) ∧ W.cell? ⟨w.heap.size, 3, none⟩ = some (.int .i64 o) ∧ W.cell? ⟨w.heap.size, 4, none⟩ = some (.int .i64 q) ∧ W.cell? ⟨w.heap.size, 5, none⟩ = some (.int .i64 s))
    (hI : (Try.prog.info? 23).map (·.size) = some D.size)
    (h1 : ∀ W, Calls Try.prog 40 #[.agg D, .int .i64 z, .int .i64 o] W fun e w' => e = .returned (.bool true) ∧ Below W.heap.size W w')
    (h2 : ∀ W, Calls Try.prog 40 #[.agg D, .int .i64 m, .int .i64 o] W fun e w' => e = .returned (.bool true) ∧ Below W.heap.size W w')
    (hd1 : ∀ W, Calls Try.prog 41 #[.agg D, .int .i64 z] W fun e w' => e = .returned (.int .i64 d1) ∧ Below W.heap.size W w') (hd2 : ∀ W, Calls Try.prog 41 #[.agg D, .int .i64 m] W fun e w' => e = .returned (.int .i64 d2) ∧ Below W.heap.size W w') (t3 : (d1 == d2) = false)
    (t4 : decide (1 ≤ q) = true)
    (t5 : decide (q ≤ 281474976710655) = true)
    (t6 : decide (0 ≤ s) = true)
    (t7 : decide (s ≤ 4294967295) = true) :
    Calls Try.prog 21 #[.agg C, .agg D] w fun e w' => e = .returned (.bool true) ∧ Below w.heap.size w w' := by
  obtain ⟨W0, hW0, hB0, hE, hG, hz0⟩ := bright_setup C D w
  obtain ⟨k0, -⟩ := hC _ hE
  have HW0 := Lib.hid hW0
  have HE := Lib.hid hE
  have HG := Lib.hid hG
  have HI := Lib.hid hI
  have HQ := Lib.hid (fun W hh => (hC W hh).2)
  have H1 := Lib.hid h1
  have H2 := Lib.hid h2
  have D1 := Lib.hid hd1
  have D2 := Lib.hid hd2
  have T3 := Lib.hid t3
  have T4 := Lib.hid t4
  have T5 := Lib.hid t5
  have T6 := Lib.hid t6
  have T7 := Lib.hid t7
  clear hW0 hE hG hI hC h1 h2 hd1 hd2 t3 t4 t5 t6 t7
  go_enter Try.func21, Try.ntmps21
  go_upto_region 1 with (fail)
  rw [HW0.out]
  go_wp2
  refine wp_region_conf2 45 [Fact.eq ?rax0, Fact.eq ?rax1, Fact.eq ?rax2, Fact.eq ?rax3, Fact.eq ?rax4, Fact.eq ?rax5, Fact.eq ?rax6, Fact.eq ?rax7, Fact.eq ?rax8, Fact.eq ?rax9, Fact.eq ?rax10, Fact.eq ?rax11, Fact.eq ?rax12, Fact.eq ?rax13, Fact.eq ?rax14, Fact.eq ?rax15, Fact.eq ?rax16, Fact.eq ?rax17, Fact.eq ?rax18, Fact.eq ?rax19, Fact.eq ?rax20, Fact.eq ?rax21, Fact.eq ?rax22, Fact.eq (.bool true), Fact.eq ?rax24, Fact.eq ?rax25, Fact.eq ?rax26, Fact.eq ?rax27, Fact.eq (.bool true), Fact.eq ?rax29, Fact.eq ?rax30, Fact.eq ?rax31, Fact.eq ?rax32, Fact.eq (.bool true), Fact.eq ?rax34, Fact.eq ?rax35, Fact.eq ?rax36, Fact.eq ?rax37, Fact.eq (.bool true), Fact.eq ?rax39, Fact.eq ?rax40, Fact.eq ?rax41, Fact.eq ?rax42, Fact.eq (.bool true), Fact.eq ?rax44] ?raA (by kernel_rfl) (by kernel_rfl) ?rahA ?raho ?rahend
  case rahA =>
    intro vv
    simp only [putRules, Nat.reduceAdd]
    rfl
  case raho =>
    refine ⟨?_, ?_, ?_, ?_, ?_, ?_, ?_, ?_, ?_, ?_, ?_, ?_, ?_, ?_, ?_, ?_, ?_, ?_, ?_, ?_, ?_, ?_, ?_, ?_, ?_, ?_, ?_, ?_, ?_, ?_, ?_, ?_, ?_, ?_, ?_, ?_, ?_, ?_, ?_, ?_, ?_, ?_, ?_, ?_, ?_, trivial⟩
    · intro vv W K hB hd HK
      simp only [confRules] at HK
      clear hd
      have hT := (hB.block (w.heap.size + 1) hz0).trans HG.out
      go_wp2_with (refine wpList_row_on (by rfl) 23 _ rfl (w.heap.size + 1) rfl 23 _ _ _ hT Try.underlying23 rfl HI.out ?_)
      refine HK.out _ _ (Below.refl _ _) ?_
      rfl
    · intro vv W K hB hd HK
      simp only [confRules] at HK
      clear hd
      go_wp2
      refine HK.out _ _ (Below.refl _ _) ?_
      rfl
    · intro vv W K hB hd HK
      simp only [confRules] at hd HK
      have h1 := hd
      clear hd
      simp only [h1] at HK ⊢
      clear h1
      have hT := (hB.block w.heap.size (by omega)).trans HE.out
      obtain ⟨k1, k2, k3, k4, k5⟩ := HQ.out _ hT
      clear hT
      go_wp2
      refine HK.out _ _ (Below.refl _ _) ?_
      rfl
    · intro vv W K hB hd HK
      simp only [confRules] at HK
      clear hd
      go_wp2
      refine HK.out _ _ (Below.refl _ _) ?_
      rfl
    · intro vv W K hB hd HK
      simp only [confRules] at hd HK
      have h3 := hd
      clear hd
      simp only [h3] at HK ⊢
      clear h3
      have hT := (hB.block w.heap.size (by omega)).trans HE.out
      obtain ⟨k1, k2, k3, k4, k5⟩ := HQ.out _ hT
      clear hT
      go_wp2
      refine HK.out _ _ (Below.refl _ _) ?_
      rfl
    · intro vv W K hB hd HK
      simp only [confRules] at hd HK
      obtain ⟨h0, h2, h4⟩ := hd
      simp only [h0, h2, h4] at HK ⊢
      clear h0 h2 h4
      go_wp2_with (refine (H1.out _).mono ?_; rintro e w9 ⟨rfl, hB9⟩)
      refine HK.out _ _ hB9 ?_
      rfl
    · intro vv W K hB hd HK
      simp only [confRules] at hd HK
      obtain ⟨h5, _⟩ := hd
      simp only [h5] at HK ⊢
      clear h5
      go_wp2
      refine HK.out _ _ (Below.refl _ _) ?_
      rfl
    · intro vv W K hB hd HK
      simp only [confRules] at hd HK
      have h6 := hd
      clear hd
      simp only [h6] at HK ⊢
      clear h6
      refine wpList_guard_yes (by rfl) ?_
      have hT := (hB.block (w.heap.size + 1) hz0).trans HG.out
      go_wp2_with (refine wpList_row_on (by rfl) 23 _ rfl (w.heap.size + 1) rfl 23 _ _ _ hT Try.underlying23 rfl HI.out ?_)
      refine HK.out _ _ (Below.refl _ _) ?_
      rfl
    · intro vv W K hB hd HK
      simp only [confRules] at hd HK
      have h6 := hd
      clear hd
      simp only [h6] at HK ⊢
      clear h6
      refine wpList_guard_yes (by rfl) ?_
      go_wp2
      refine HK.out _ _ (Below.refl _ _) ?_
      rfl
    · intro vv W K hB hd HK
      simp only [confRules] at hd HK
      obtain ⟨h8, h6⟩ := hd
      simp only [h8, h6] at HK ⊢
      clear h8 h6
      refine wpList_guard_yes (by rfl) ?_
      have hT := (hB.block w.heap.size (by omega)).trans HE.out
      obtain ⟨k1, k2, k3, k4, k5⟩ := HQ.out _ hT
      clear hT
      go_wp2
      refine HK.out _ _ (Below.refl _ _) ?_
      rfl
    · intro vv W K hB hd HK
      simp only [confRules] at hd HK
      have h6 := hd
      clear hd
      simp only [h6] at HK ⊢
      clear h6
      refine wpList_guard_yes (by rfl) ?_
      go_wp2
      refine HK.out _ _ (Below.refl _ _) ?_
      rfl
    · intro vv W K hB hd HK
      simp only [confRules] at hd HK
      obtain ⟨h10, h6⟩ := hd
      simp only [h10, h6] at HK ⊢
      clear h10 h6
      refine wpList_guard_yes (by rfl) ?_
      have hT := (hB.block w.heap.size (by omega)).trans HE.out
      obtain ⟨k1, k2, k3, k4, k5⟩ := HQ.out _ hT
      clear hT
      go_wp2
      refine HK.out _ _ (Below.refl _ _) ?_
      rfl
    · intro vv W K hB hd HK
      simp only [confRules] at hd HK
      obtain ⟨h7, h9, h11, h6, _⟩ := hd
      simp only [h7, h9, h11, h6] at HK ⊢
      clear h7 h9 h11 h6
      refine wpList_guard_yes (by rfl) ?_
      go_wp2_with (refine (H2.out _).mono ?_; rintro e w9 ⟨rfl, hB9⟩)
      refine HK.out _ _ hB9 ?_
      rfl
    · intro vv W K hB hd HK
      simp only [confRules] at hd HK
      obtain ⟨h6, h12⟩ := hd
      simp only [h6, h12] at HK ⊢
      clear h6 h12
      go_wp2
      refine HK.out _ _ (Below.refl _ _) ?_
      rfl
    · intro vv W K hB hd HK
      simp only [confRules] at hd HK
      obtain ⟨h13, h12⟩ := hd
      simp only [h13, h12] at HK ⊢
      clear h13 h12
      go_wp2
      refine HK.out _ _ (Below.refl _ _) ?_
      rfl
    · intro vv W K hB hd HK
      simp only [confRules] at hd HK
      have h14 := hd
      clear hd
      simp only [h14] at HK ⊢
      clear h14
      refine wpList_guard_yes (by rfl) ?_
      have hT := (hB.block (w.heap.size + 1) hz0).trans HG.out
      go_wp2_with (refine wpList_row_on (by rfl) 23 _ rfl (w.heap.size + 1) rfl 23 _ _ _ hT Try.underlying23 rfl HI.out ?_)
      refine HK.out _ _ (Below.refl _ _) ?_
      rfl
    · intro vv W K hB hd HK
      simp only [confRules] at hd HK
      have h14 := hd
      clear hd
      simp only [h14] at HK ⊢
      clear h14
      refine wpList_guard_yes (by rfl) ?_
      go_wp2
      refine HK.out _ _ (Below.refl _ _) ?_
      rfl
    · intro vv W K hB hd HK
      simp only [confRules] at hd HK
      obtain ⟨h16, h14⟩ := hd
      simp only [h16, h14] at HK ⊢
      clear h16 h14
      refine wpList_guard_yes (by rfl) ?_
      have hT := (hB.block w.heap.size (by omega)).trans HE.out
      obtain ⟨k1, k2, k3, k4, k5⟩ := HQ.out _ hT
      clear hT
      go_wp2
      refine HK.out _ _ (Below.refl _ _) ?_
      rfl
    · intro vv W K hB hd HK
      simp only [confRules] at hd HK
      obtain ⟨h15, h17, h14, _⟩ := hd
      simp only [h15, h17, h14] at HK ⊢
      clear h15 h17 h14
      refine wpList_guard_yes (by rfl) ?_
      go_wp2_with (refine (D1.out _).mono ?_; rintro e w9 ⟨rfl, hB9⟩)
      refine HK.out _ _ hB9 ?_
      rfl
    · intro vv W K hB hd HK
      simp only [confRules] at hd HK
      have h14 := hd
      clear hd
      simp only [h14] at HK ⊢
      clear h14
      refine wpList_guard_yes (by rfl) ?_
      have hT := (hB.block (w.heap.size + 1) hz0).trans HG.out
      go_wp2_with (refine wpList_row_on (by rfl) 23 _ rfl (w.heap.size + 1) rfl 23 _ _ _ hT Try.underlying23 rfl HI.out ?_)
      refine HK.out _ _ (Below.refl _ _) ?_
      rfl
    · intro vv W K hB hd HK
      simp only [confRules] at hd HK
      have h14 := hd
      clear hd
      simp only [h14] at HK ⊢
      clear h14
      refine wpList_guard_yes (by rfl) ?_
      go_wp2
      refine HK.out _ _ (Below.refl _ _) ?_
      rfl
    · intro vv W K hB hd HK
      simp only [confRules] at hd HK
      obtain ⟨h20, h14⟩ := hd
      simp only [h20, h14] at HK ⊢
      clear h20 h14
      refine wpList_guard_yes (by rfl) ?_
      have hT := (hB.block w.heap.size (by omega)).trans HE.out
      obtain ⟨k1, k2, k3, k4, k5⟩ := HQ.out _ hT
      clear hT
      go_wp2
      refine HK.out _ _ (Below.refl _ _) ?_
      rfl
    · intro vv W K hB hd HK
      simp only [confRules] at hd HK
      obtain ⟨h19, h21, h18, h14⟩ := hd
      simp only [h19, h21, h18, h14] at HK ⊢
      clear h19 h21 h18 h14
      refine wpList_guard_yes (by rfl) ?_
      go_wp2_with (refine (D2.out _).mono ?_; rintro e w9 ⟨rfl, hB9⟩)
      refine HK.out _ _ hB9 ?_
      rfl
    · intro vv W K hB hd HK
      simp only [confRules] at hd HK
      obtain ⟨h18, h22, h14⟩ := hd
      simp only [h18, h22, h14] at HK ⊢
      clear h18 h22 h14
      refine wpList_guard_yes (by rfl) ?_
      have t := T3.out
      go_wp2
      refine HK.out _ _ (Below.refl _ _) ?_
      first | rfl | exact congrArg Value.bool t | exact congrArg Value.bool (show (!_) = _ by rw [t]; rfl)
    · intro vv W K hB hd HK
      simp only [confRules] at hd HK
      obtain ⟨h14, h23⟩ := hd
      simp only [h14, h23] at HK ⊢
      clear h14 h23
      go_wp2
      refine HK.out _ _ (Below.refl _ _) ?_
      rfl
    · intro vv W K hB hd HK
      simp only [confRules] at hd HK
      obtain ⟨h24, h22⟩ := hd
      simp only [h24, h22] at HK ⊢
      clear h24 h22
      go_wp2
      refine HK.out _ _ (Below.refl _ _) ?_
      rfl
    · intro vv W K hB hd HK
      simp only [confRules] at hd HK
      have h25 := hd
      clear hd
      simp only [h25] at HK ⊢
      clear h25
      refine wpList_guard_yes (by rfl) ?_
      go_wp2
      refine HK.out _ _ (Below.refl _ _) ?_
      rfl
    · intro vv W K hB hd HK
      simp only [confRules] at hd HK
      obtain ⟨h26, h25⟩ := hd
      simp only [h26, h25] at HK ⊢
      clear h26 h25
      refine wpList_guard_yes (by rfl) ?_
      have hT := (hB.block w.heap.size (by omega)).trans HE.out
      obtain ⟨k1, k2, k3, k4, k5⟩ := HQ.out _ hT
      clear hT
      go_wp2
      refine HK.out _ _ (Below.refl _ _) ?_
      rfl
    · intro vv W K hB hd HK
      simp only [confRules] at hd HK
      obtain ⟨h27, h25⟩ := hd
      simp only [h27, h25] at HK ⊢
      clear h27 h25
      refine wpList_guard_yes (by rfl) ?_
      have t := T4.out
      go_wp2
      refine HK.out _ _ (Below.refl _ _) ?_
      first | rfl | exact congrArg Value.bool t | exact congrArg Value.bool (show (!_) = _ by rw [t]; rfl)
    · intro vv W K hB hd HK
      simp only [confRules] at hd HK
      obtain ⟨h25, h28⟩ := hd
      simp only [h25, h28] at HK ⊢
      clear h25 h28
      go_wp2
      refine HK.out _ _ (Below.refl _ _) ?_
      rfl
    · intro vv W K hB hd HK
      simp only [confRules] at hd HK
      obtain ⟨h29, h25⟩ := hd
      simp only [h29, h25] at HK ⊢
      clear h29 h25
      go_wp2
      refine HK.out _ _ (Below.refl _ _) ?_
      rfl
    · intro vv W K hB hd HK
      simp only [confRules] at hd HK
      have h30 := hd
      clear hd
      simp only [h30] at HK ⊢
      clear h30
      refine wpList_guard_yes (by rfl) ?_
      go_wp2
      refine HK.out _ _ (Below.refl _ _) ?_
      rfl
    · intro vv W K hB hd HK
      simp only [confRules] at hd HK
      obtain ⟨h31, h30⟩ := hd
      simp only [h31, h30] at HK ⊢
      clear h31 h30
      refine wpList_guard_yes (by rfl) ?_
      have hT := (hB.block w.heap.size (by omega)).trans HE.out
      obtain ⟨k1, k2, k3, k4, k5⟩ := HQ.out _ hT
      clear hT
      go_wp2
      refine HK.out _ _ (Below.refl _ _) ?_
      rfl
    · intro vv W K hB hd HK
      simp only [confRules] at hd HK
      obtain ⟨h32, h30⟩ := hd
      simp only [h32, h30] at HK ⊢
      clear h32 h30
      refine wpList_guard_yes (by rfl) ?_
      have t := T5.out
      go_wp2
      refine HK.out _ _ (Below.refl _ _) ?_
      first | rfl | exact congrArg Value.bool t | exact congrArg Value.bool (show (!_) = _ by rw [t]; rfl)
    · intro vv W K hB hd HK
      simp only [confRules] at hd HK
      obtain ⟨h30, h33⟩ := hd
      simp only [h30, h33] at HK ⊢
      clear h30 h33
      go_wp2
      refine HK.out _ _ (Below.refl _ _) ?_
      rfl
    · intro vv W K hB hd HK
      simp only [confRules] at hd HK
      obtain ⟨h34, h30⟩ := hd
      simp only [h34, h30] at HK ⊢
      clear h34 h30
      go_wp2
      refine HK.out _ _ (Below.refl _ _) ?_
      rfl
    · intro vv W K hB hd HK
      simp only [confRules] at hd HK
      have h35 := hd
      clear hd
      simp only [h35] at HK ⊢
      clear h35
      refine wpList_guard_yes (by rfl) ?_
      go_wp2
      refine HK.out _ _ (Below.refl _ _) ?_
      rfl
    · intro vv W K hB hd HK
      simp only [confRules] at hd HK
      obtain ⟨h36, h35⟩ := hd
      simp only [h36, h35] at HK ⊢
      clear h36 h35
      refine wpList_guard_yes (by rfl) ?_
      have hT := (hB.block w.heap.size (by omega)).trans HE.out
      obtain ⟨k1, k2, k3, k4, k5⟩ := HQ.out _ hT
      clear hT
      go_wp2
      refine HK.out _ _ (Below.refl _ _) ?_
      rfl
    · intro vv W K hB hd HK
      simp only [confRules] at hd HK
      obtain ⟨h37, h35⟩ := hd
      simp only [h37, h35] at HK ⊢
      clear h37 h35
      refine wpList_guard_yes (by rfl) ?_
      have t := T6.out
      go_wp2
      refine HK.out _ _ (Below.refl _ _) ?_
      first | rfl | exact congrArg Value.bool t | exact congrArg Value.bool (show (!_) = _ by rw [t]; rfl)
    · intro vv W K hB hd HK
      simp only [confRules] at hd HK
      obtain ⟨h35, h38⟩ := hd
      simp only [h35, h38] at HK ⊢
      clear h35 h38
      go_wp2
      refine HK.out _ _ (Below.refl _ _) ?_
      rfl
    · intro vv W K hB hd HK
      simp only [confRules] at hd HK
      obtain ⟨h39, h35⟩ := hd
      simp only [h39, h35] at HK ⊢
      clear h39 h35
      go_wp2
      refine HK.out _ _ (Below.refl _ _) ?_
      rfl
    · intro vv W K hB hd HK
      simp only [confRules] at hd HK
      have h40 := hd
      clear hd
      simp only [h40] at HK ⊢
      clear h40
      refine wpList_guard_yes (by rfl) ?_
      go_wp2
      refine HK.out _ _ (Below.refl _ _) ?_
      rfl
    · intro vv W K hB hd HK
      simp only [confRules] at hd HK
      obtain ⟨h41, h40⟩ := hd
      simp only [h41, h40] at HK ⊢
      clear h41 h40
      refine wpList_guard_yes (by rfl) ?_
      have hT := (hB.block w.heap.size (by omega)).trans HE.out
      obtain ⟨k1, k2, k3, k4, k5⟩ := HQ.out _ hT
      clear hT
      go_wp2
      refine HK.out _ _ (Below.refl _ _) ?_
      rfl
    · intro vv W K hB hd HK
      simp only [confRules] at hd HK
      obtain ⟨h42, h40⟩ := hd
      simp only [h42, h40] at HK ⊢
      clear h42 h40
      refine wpList_guard_yes (by rfl) ?_
      have t := T7.out
      go_wp2
      refine HK.out _ _ (Below.refl _ _) ?_
      first | rfl | exact congrArg Value.bool t | exact congrArg Value.bool (show (!_) = _ by rw [t]; rfl)
    · intro vv W K hB hd HK
      simp only [confRules] at hd HK
      obtain ⟨h40, h43⟩ := hd
      simp only [h40, h43] at HK ⊢
      clear h40 h43
      go_wp2
      refine HK.out _ _ (Below.refl _ _) ?_
      rfl
  case rahend =>
    intro vv W hB hf
    have e44 := hf 44 (by decide)
    simp only [endRules] at e44
    simp only [e44, dropRules]
    clear hf e44
    go_wp2
    go_ret
    exact ⟨rfl, hB0.trans (hB.mono (by omega))⟩
end Go.Proofs.Ytoiephmngdecaaa
