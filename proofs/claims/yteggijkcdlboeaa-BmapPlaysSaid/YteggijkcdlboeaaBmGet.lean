/- Proved here: contracts of the map's Get and Geom. -/
import Derived.Test.YteggijkcdlboeaaBm
namespace Go.Rv
open Go.RowKit
theorem res_row_tmp {P : Program} {fn : Func} {p q : Tmp} {ty : TypeId} (h : fn.results = #[.cell p ty, .tmp q]) (tmps : Array Value) (w : World) (g : Nat) (t : TypeId) (cs : Array Value) (fr : Nat × Nat) (d : TypeDesc)
    (hp : tmps.getD p undef = .pointer (some ⟨g, 0, none⟩)) (hg : w.heap[g]? = some (.cells cs t fr))
    (hu : P.underlying ty = some d) (hd : (match d with | .struct _ | .array _ _ => true | _ => false) = true) (hi : (P.info? ty).map (·.size) = some cs.size) :
    (results fn tmps).run P w = .ok (.tuple #[.agg cs, tmps.getD q undef]) w := by
  have hp' : tmps[p]?.getD undef = .pointer (some ⟨g, 0, none⟩) := by simpa using hp
  simp [results, h, hp', asAddr, run_loadVar_row w g t ty cs fr d hg hu hd hi]
theorem res_row {P : Program} {fn : Func} {p : Tmp} {ty : TypeId} (h : fn.results = #[.cell p ty]) (tmps : Array Value) (w : World) (g : Nat) (t : TypeId) (cs : Array Value) (fr : Nat × Nat) (d : TypeDesc)
    (hp : tmps.getD p undef = .pointer (some ⟨g, 0, none⟩)) (hg : w.heap[g]? = some (.cells cs t fr))
    (hu : P.underlying ty = some d) (hd : (match d with | .struct _ | .array _ _ => true | _ => false) = true) (hi : (P.info? ty).map (·.size) = some cs.size) :
    (results fn tmps).run P w = .ok (.agg cs) w := by
  have hp' : tmps[p]?.getD undef = .pointer (some ⟨g, 0, none⟩) := by simpa using hp
  simp [results, h, hp', asAddr, run_loadVar_row w g t ty cs fr d hg hu hd hi]
end Go.Rv
namespace Go.Proofs.Yteggijkcdlboeaa
open Go.RowKit Go.Rv
set_option linter.unusedVariables false
set_option maxRecDepth 100000 in
set_option maxHeartbeats 1000000 in
theorem bget_in (w : World) (p le ll ce cl : Nat) (g : Geo.G) (es : List BE) (lv : List Int) (h : BmIs w p le ll ce cl g es lv) (k : Nat) (e : BE) (hk : es[k]? = some e) (hn : es.length ≤ 100000) :
    Calls Try.prog 29 #[.pointer (some ⟨p, 0, none⟩), .int .i64 (k : Nat)] w fun x w' => x = .returned (.tuple #[.agg (BEC e), .int .i64 0]) ∧ Below w.heap.size w w' := by
  have hz := (zero_of_info Try.infoEnt).1
  have hal := (Below.refl w.heap.size w).alloc (Nat.le_refl _) (.cells (BEC BE.zero) 41)
  obtain ⟨c6, c7⟩ := (h.below hal).cells
  obtain ⟨e0, e1, e2, e3, e4, e5⟩ := (h.below hal).ent hk
  have hkl : k < es.length := (List.getElem?_eq_some_iff.1 hk).1
  have h1 := h.h1
  have HIE := Lib.hid (fun e => esize e)
  have HON := Lib.hid (fun e => BEC_one e)
  have hB2 : Below w.heap.size w (w.alloc (.cells (BEC e) 41)) := (Below.refl w.heap.size w).alloc (Nat.le_refl _) _
  have hnew := heap_alloc_new w (.cells (BEC e) 41)
  clear h hk
  go_enter Try.func29, Try.ntmps29
  go_wp2_with (refine wpList_store_row rfl 41 _ _ rfl w.heap.size (BEC e) rfl rfl 41 (BEC BE.zero) (heap_alloc_new w _) (HIE.out _) rfl (HON.out _) ?_; rw [World.setRow_alloc_new])
  refine bodyPost_ret (res_row_tmp rfl _ _ w.heap.size 41 (BEC e) _ _ rfl hnew Try.underlying41 rfl (HIE.out _)) rfl ?_
  exact ⟨rfl, hB2⟩
set_option maxRecDepth 100000 in
set_option maxHeartbeats 1000000 in
theorem bget_out (w : World) (p le ll ce cl : Nat) (g : Geo.G) (es : List BE) (lv : List Int) (h : BmIs w p le ll ce cl g es lv) (k : Int) (hk : k < 0 ∨ (es.length : Int) ≤ k) :
    Calls Try.prog 29 #[.pointer (some ⟨p, 0, none⟩), .int .i64 k] w fun x w' => x = .returned (.tuple #[.agg (BEC BE.zero), .int .i64 13]) ∧ Below w.heap.size w w' := by
  have hz := (zero_of_info Try.infoEnt).1
  have hal := (Below.refl w.heap.size w).alloc (Nat.le_refl _) (.cells (BEC BE.zero) 41)
  obtain ⟨c6, c7⟩ := (h.below hal).cells
  have HIE := Lib.hid (fun e => esize e)
  have HON := Lib.hid (fun e => BEC_one e)
  have hnew := heap_alloc_new w (.cells (BEC BE.zero) 41)
  have HNEW := Lib.hid hnew
  clear h hnew
  generalize hZ : BEC BE.zero = Z at *
  have hsz : Z.size = Z.size := rfl
  have HSZ : Hid ((Try.prog.info? 41).map (·.size) = some Z.size) := Lib.hid (by rw [← hZ]; exact HIE.out _)
  have HOZ : Hid (Z.all (·.oneCell') = true) := Lib.hid (by rw [← hZ]; exact HON.out _)
  clear hZ hsz
  rcases hk with hk | hk
  · have t1 : decide (k < 0) = true := decide_eq_true hk
    clear hk
    go_enter Try.func29, Try.ntmps29
    go_wp2_with (refine wpList_store_row rfl 41 _ _ rfl w.heap.size Z rfl rfl 41 Z (heap_alloc_new w _) HSZ.out rfl HOZ.out ?_; rw [World.setRow_alloc_new])
    refine bodyPost_ret (res_row_tmp rfl _ _ w.heap.size 41 Z _ _ rfl HNEW.out Try.underlying41 rfl HSZ.out) rfl ?_
    exact ⟨rfl, hal⟩
  · have t1 : decide (k < 0) = false := decide_eq_false (by omega)
    have t2 : decide ((es.length : Int) ≤ k) = true := decide_eq_true hk
    clear hk
    go_enter Try.func29, Try.ntmps29
    go_wp2_with (refine wpList_store_row rfl 41 _ _ rfl w.heap.size Z rfl rfl 41 Z (heap_alloc_new w _) HSZ.out rfl HOZ.out ?_; rw [World.setRow_alloc_new])
    refine bodyPost_ret (res_row_tmp rfl _ _ w.heap.size 41 Z _ _ rfl HNEW.out Try.underlying41 rfl HSZ.out) rfl ?_
    exact ⟨rfl, hal⟩
theorem Try.infoGeoZ : (Try.prog.info? 23).map (fun i => (i.zero, i.size)) = some (some (.agg (GC ⟨0, 0, 0, 0, 0, 0⟩)), 6) := by kernel_rfl
set_option maxRecDepth 100000 in
set_option maxHeartbeats 1000000 in
theorem bgeom_any (w : World) (p le ll ce cl : Nat) (g : Geo.G) (es : List BE) (lv : List Int) (h : BmIs w p le ll ce cl g es lv) :
    Calls Try.prog 30 #[.pointer (some ⟨p, 0, none⟩)] w fun x w' => x = .returned (.agg (GC g)) ∧ Below w.heap.size w w' := by
  have hz := (zero_of_info Try.infoGeoZ).1
  have hal := (Below.refl w.heap.size w).alloc (Nat.le_refl _) (.cells (GC ⟨0, 0, 0, 0, 0, 0⟩) 23)
  obtain ⟨c0, c1, c2, c3, c4, c5⟩ := (h.below hal).geo
  have HIE := Lib.hid (gsize (g := g))
  have HON := Lib.hid (GC_one g)
  have hB2 : Below w.heap.size w (w.alloc (.cells (GC g) 23)) := (Below.refl w.heap.size w).alloc (Nat.le_refl _) _
  have hnew := heap_alloc_new w (.cells (GC g) 23)
  clear h
  go_enter Try.func30, Try.ntmps30
  go_wp2_with (refine wpList_store_row rfl 23 _ _ rfl w.heap.size (GC g) rfl rfl 23 (GC ⟨0, 0, 0, 0, 0, 0⟩) (heap_alloc_new w _) HIE.out rfl HON.out ?_; rw [World.setRow_alloc_new])
  refine bodyPost_ret (res_row rfl _ _ w.heap.size 23 (GC g) _ _ rfl hnew Try.underlying23 rfl HIE.out) rfl ?_
  exact ⟨rfl, hB2⟩
end Go.Proofs.Yteggijkcdlboeaa
