/- Proved here: the contract of the map's New; a map's Copy; the records of a list by their numbers, in memory: a map from numbers to rows of the call's own; the blocks that are single (the roller's singles); what the snapshot's code writes with a pen: a body out of a pen; an entry; snap's put: an entry goes through a pen; snap's head: the body of a snapshot's first frame. -/
import Derived.WalkSpells
import Derived.WalkLawsBesides
import Derived.LoopTactic
import Derived.Laws.StructEq
import Derived.Laws.Rows
import Derived.Test.YtoiephmngdecaaaKaa
import Derived.Test.YtoiephmngdecaaaKab
import Derived.Test.YtoiephmngdecaaaKag
import Derived.Test.YtoiephmngdecaaaKah
import Derived.Test.YtoiephmngdecaaaKai
import Derived.Test.YtoiephmngdecaaaKaj
import Derived.Test.YtoiephmngdecaaaKal
import Derived.Test.YtoiephmngdecaaaKao
namespace Go.Rv
open Go.RowKit
/-- a fact with the blocks that it names -/
def Fact.of (Q : Value → World → Prop) (h : ∀ u w w', Q u w → Below w.heap.size w w' → Q u w') : Fact := ⟨Q, h⟩
end Go.Rv
namespace Go.Proofs.Ytoiephmngdecaaa
open Go.RowKit Go.Rv
set_option linter.unusedVariables false
def NewRow (B : Nat) (t : TypeId) (C : Array Value) (n : Nat) (u : Value) (w : World) : Prop := ∃ b, u = .slice (some ⟨b, 0, none⟩) n n ∧ B ≤ b ∧ w.heap[b]? = some (.cells C t (0, 0))
theorem NewRow.st (B : Nat) (t : TypeId) (C : Array Value) (n : Nat) (u : Value) (w w' : World) (h : NewRow B t C n u w) (hB : Below w.heap.size w w') : NewRow B t C n u w' := by
  obtain ⟨b, e, hge, hb⟩ := h; exact ⟨b, e, hge, (hB.block b (Array.getElem?_eq_some_iff.1 hb).1).trans hb⟩
def NewMap (B : Nat) (g : Geo.G) (E L : Array Value) (n m : Nat) (u : Value) (w : World) : Prop := ∃ b c, u = .agg (mapC g b n n c m m) ∧ (B ≤ b ∧ B ≤ c) ∧ w.heap[b]? = some (.cells E 54 (0, 0)) ∧ w.heap[c]? = some (.cells L 3 (0, 0))
theorem NewMap.st (B : Nat) (g : Geo.G) (E L : Array Value) (n m : Nat) (u : Value) (w w' : World) (h : NewMap B g E L n m u w) (hB : Below w.heap.size w w') : NewMap B g E L n m u w' := by
  obtain ⟨b, c, e, hge, hb, hc⟩ := h; exact ⟨b, c, e, hge, (hB.block b (Array.getElem?_eq_some_iff.1 hb).1).trans hb, (hB.block c (Array.getElem?_eq_some_iff.1 hc).1).trans hc⟩
def NewPtr (B : Nat) (g : Geo.G) (E L : Array Value) (n m : Nat) (u : Value) (w : World) : Prop := ∃ p b c, u = .pointer (some ⟨p, 0, none⟩) ∧ (B ≤ p ∧ B ≤ b ∧ B ≤ c) ∧ w.heap[p]? = some (.cells (mapC g b n n c m m) 117 (0, 0)) ∧ w.heap[b]? = some (.cells E 54 (0, 0)) ∧ w.heap[c]? = some (.cells L 3 (0, 0))
theorem NewPtr.st (B : Nat) (g : Geo.G) (E L : Array Value) (n m : Nat) (u : Value) (w w' : World) (h : NewPtr B g E L n m u w) (hB : Below w.heap.size w w') : NewPtr B g E L n m u w' := by
  obtain ⟨p, b, c, e, hge, hp, hb, hc⟩ := h; exact ⟨p, b, c, e, hge, (hB.block p (Array.getElem?_eq_some_iff.1 hp).1).trans hp, (hB.block b (Array.getElem?_eq_some_iff.1 hb).1).trans hb, (hB.block c (Array.getElem?_eq_some_iff.1 hc).1).trans hc⟩
theorem newRules : (∀ B t C n u w, (Fact.of (NewRow B t C n) (NewRow.st B t C n)).p u w = NewRow B t C n u w) ∧ (∀ B g E L n m u w, (Fact.of (NewMap B g E L n m) (NewMap.st B g E L n m)).p u w = NewMap B g E L n m u w) ∧ (∀ B g E L n m u w, (Fact.of (NewPtr B g E L n m) (NewPtr.st B g E L n m)).p u w = NewPtr B g E L n m u w) :=
  ⟨fun _ _ _ _ _ _ => rfl, fun _ _ _ _ _ _ _ _ => rfl, fun _ _ _ _ _ _ _ _ => rfl⟩
theorem bec_zero_at : ∀ j, j < 6 → (BEC BE.zero)[j]! = .int .i64 0
  | 0, _ => rfl
  | 1, _ => rfl
  | 2, _ => rfl
  | 3, _ => rfl
  | 4, _ => rfl
  | 5, _ => rfl
  | n + 6, h => by omega
theorem flat_zero (n : Nat) : flatE (List.replicate n BE.zero) = List.replicate (n * 6) (.int .i64 0) := by
  induction n with
  | zero => rfl
  | succ n ih =>
    rw [List.replicate_succ]; show (BEC BE.zero).toList ++ flatE (List.replicate n BE.zero) = _; rw [ih, show (n + 1) * 6 = 6 + n * 6 by omega, ← List.replicate_append_replicate]; rfl
theorem made_ents (n : Nat) : (madeCells (BEC BE.zero) (n * 6)).toList = flatE (List.replicate n BE.zero) := by
  rw [flat_zero, List.eq_replicate_iff]; refine ⟨by simp [madeCells], fun v hv => ?_⟩
  simp only [madeCells, Array.toList_map, List.mem_map] at hv; obtain ⟨x, -, rfl⟩ := hv; exact bec_zero_at _ (Nat.mod_lt _ (by simp [BEC]))
theorem made_ints (n : Nat) : (madeCells #[.int .i64 0] n).toList = List.replicate n (.int .i64 0) := by
  rw [List.eq_replicate_iff]; refine ⟨by simp [madeCells], fun v hv => ?_⟩
  simp only [madeCells, Array.toList_map, List.mem_map] at hv; obtain ⟨x, -, rfl⟩ := hv; simp [Nat.mod_one]
theorem live_zero (n b : Nat) : liveL n (List.replicate b BE.zero) = List.replicate n 0 := by
  apply List.ext_getElem?; intro i; by_cases h : i < n
  · rw [liveL_at h]
    have : liveN (List.replicate b BE.zero) i = 0 := by
      unfold liveN; rw [List.filter_eq_nil_iff.2]
      · rfl
      · intro x hx; rw [(List.mem_replicate.1 hx).2]; simp [hits, BE.zero]
    rw [this]; simp [h]
  · rw [List.getElem?_eq_none (by rw [liveL_length]; omega), List.getElem?_eq_none (by simp; omega)]
theorem mk_ents (n : Nat) (hn : n ≤ 1000) (w : World) : (Instr.makeSlice 115 (.int .i64 (n : Nat)) (.int .i64 (n : Nat))).run Try.prog w = .ok (.slice (some ⟨w.heap.size, 0, none⟩) n n) (w.alloc (.cells (madeCells (BEC BE.zero) (n * 6)) 54)) := by
  have hinfo : (Try.prog.info? 54).map (fun i => (i.zero, i.size, i.bytes)) = some (some (.agg (BEC BE.zero)), 6, 48) := by kernel_rfl
  obtain ⟨i, hi, hz, hs, hb⟩ := info_parts hinfo; have := run_make (P := Try.prog) w 115 54 i (.agg (BEC BE.zero)) Try.underlying115 hi hz .i64 .i64 (n : Nat) (n : Nat) (by omega) (by omega) (by rw [hb]; omega) (by omega); rw [hs] at this; simpa [Value.cells] using this
theorem mk_live (n : Nat) (hn : n ≤ 1000) (w : World) : (Instr.makeSlice 33 (.int .i64 (n : Nat)) (.int .i64 (n : Nat))).run Try.prog w = .ok (.slice (some ⟨w.heap.size, 0, none⟩) n n) (w.alloc (.cells (madeCells #[.int .i64 0] n) 3)) := by
  have hinfo : (Try.prog.info? 3).map (fun i => (i.zero, i.size, i.bytes)) = some (some (.int .i64 0), 1, 8) := by kernel_rfl
  exact run_make_row' 33 3 (.int .i64 0) 8 Try.underlying33 hinfo rfl .i64 .i64 n (by omega) (by omega) w
set_option maxRecDepth 100000 in
set_option maxHeartbeats 2000000 in
theorem bnew_no (g : Geo.G) (hr : Geo.right g = false) (w : World) :
    Calls Try.prog 22 #[.agg (GC g)] w fun x w' => x = .returned (.tuple #[.pointer none, .int .i64 20]) ∧ Below w.heap.size w w' := by
  have HR := Lib.hid (fun W => by have := gright_any g W; rwa [hr] at this); have HI := Lib.hid (gsize (g := g)); have hal := (Below.refl w.heap.size w).alloc (Nat.le_refl _) (.cells (GC g) 23); have hnew := heap_alloc_new w (.cells (GC g) 23); clear hr; generalize GC g = C at *; go_enter Try.func22, Try.ntmps22; go_wp2_with (refine wpList_row_on (by rfl) 23 _ rfl w.heap.size rfl 23 _ _ _ hnew Try.underlying23 rfl HI.out ?_); refine (HR.out _).mono ?_; rintro e w1 ⟨rfl, hB1⟩; have hB2 := hal.trans (hB1.mono hal.size); go_wp2
  go_ret2
  exact ⟨rfl, hB2⟩
set_option maxRecDepth 100000 in
set_option maxHeartbeats 800000 in
theorem bnew_core (g : Geo.G) (n m : Nat) (hn : n ≤ 1000) (hm : m ≤ 1000) (hbn : g.b = n) (hr : Geo.right g = true) (HAL : ∀ W, Calls Try.prog 46 #[.agg (GC g)] W fun e w' => e = .returned (.int .i64 (m : Nat)) ∧ Below W.heap.size W w') (w : World) :
    Calls Try.prog 22 #[.agg (GC g)] w fun x w' => ∃ p, x = .returned (.tuple #[p, .int .i64 0]) ∧ NewPtr w.heap.size g (madeCells (BEC BE.zero) (n * 6)) (madeCells #[.int .i64 0] m) n m p w' ∧ Below w.heap.size w w' := by
  have HR := Lib.hid (fun W => by have := gright_any g W; rwa [hr] at this); have HI := Lib.hid (gsize (g := g)); have HAL := Lib.hid HAL; have M1 := Lib.hid (fun W => mk_ents n hn W); have M2 := Lib.hid (fun W => mk_live m hm W); have hal := (Below.refl w.heap.size w).alloc (Nat.le_refl _) (.cells (GC g) 23); have hnew := heap_alloc_new w (.cells (GC g) 23); have HCS := Lib.hid (fun (W : World) (b : Nat) (hh : W.heap[b]? = some (.cells (GC g) 23 (0, 0))) => by have := (geo_cells hh).2.2.2.1; rwa [hbn] at this); have HMC := Lib.hid (fun b c => (rfl : mapC g b n n c m m = mapC g b n n c m m)); clear hr hbn; obtain ⟨W0, hW0⟩ : ∃ W0, w.alloc (.cells (GC g) 23) = W0 := ⟨_, rfl⟩; rw [hW0] at hal hnew; have HW0 := Lib.hid hW0; have z0 := (Array.getElem?_eq_some_iff.1 hnew).1; clear hW0; generalize hE : madeCells (BEC BE.zero) (n * 6) = E at *; generalize hL : madeCells #[.int .i64 0] m = L at *; clear hE hL; go_enter Try.func22, Try.ntmps22; go_upto_region 1 with (fail); rw [HW0.out]; go_wp2_with (refine wpList_row_on (by rfl) 23 _ rfl w.heap.size rfl 23 _ _ _ hnew Try.underlying23 rfl HI.out ?_); refine (HR.out _).mono ?_; rintro e w1 ⟨rfl, hB1⟩; have hB2 := hal.trans (hB1.mono hal.size); have hg1 := (hB1.block w.heap.size z0).trans hnew; have HG1 := Lib.hid hg1; have z1 := hB1.size; clear hal hnew hg1 hB1; go_wp2; refine wp_region_conf2 9 [Fact.eq ?rax0, Fact.eq ?rax1, Fact.eq ?rax2, Fact.of (NewRow w.heap.size 54 E n) (NewRow.st w.heap.size 54 E n), Fact.eq ?rax4, Fact.eq ?rax5, Fact.of (NewRow w.heap.size 3 L m) (NewRow.st w.heap.size 3 L m), Fact.of (NewMap w.heap.size g E L n m) (NewMap.st w.heap.size g E L n m), Fact.of (NewPtr w.heap.size g E L n m) (NewPtr.st w.heap.size g E L n m)] ?raA (by kernel_rfl) (by kernel_rfl) ?rahA ?raho ?rahend
  case rahA =>
    intro vv; simp only [putRules, Nat.reduceAdd]; rfl
  case raho =>
    refine ⟨?_, ?_, ?_, ?_, ?_, ?_, ?_, ?_, ?_, trivial⟩
    · intro vv W K hB hd HK; simp only [confRules] at HK; clear hd; have hT := (hB.block w.heap.size (by omega)).trans HG1.out; go_wp2_with (refine wpList_row_on (by rfl) 23 _ rfl w.heap.size rfl 23 _ _ _ hT Try.underlying23 rfl HI.out ?_); refine HK.out _ _ (Below.refl _ _) ?_; rfl
    · intro vv W K hB hd HK; simp only [confRules] at HK; clear hd; go_wp2; refine HK.out _ _ (Below.refl _ _) ?_; rfl
    · intro vv W K hB hd HK; simp only [confRules] at hd HK; have h1 := hd; clear hd; simp only [h1] at HK ⊢; clear h1; have hT := (hB.block w.heap.size (by omega)).trans HG1.out; have k3 := HCS.out _ _ hT; go_wp2; refine HK.out _ _ (Below.refl _ _) ?_; rfl
    · intro vv W K hB hd HK; simp only [confRules, newRules] at hd HK; obtain ⟨h2, _⟩ := hd; simp only [h2] at HK ⊢; clear h2; have hmk := M1.out; go_wp2; refine HK.out _ _ ((Below.refl _ _).alloc (Nat.le_refl _) _) ?_; exact ⟨_, rfl, (by have := hB.size; omega), heap_alloc_new _ _⟩
    · intro vv W K hB hd HK; simp only [confRules] at HK; clear hd; have hT := (hB.block w.heap.size (by omega)).trans HG1.out; go_wp2_with (refine wpList_row_on (by rfl) 23 _ rfl w.heap.size rfl 23 _ _ _ hT Try.underlying23 rfl HI.out ?_); refine HK.out _ _ (Below.refl _ _) ?_; rfl
    · intro vv W K hB hd HK; simp only [confRules] at hd HK; have h4 := hd; clear hd; simp only [h4] at HK ⊢; clear h4; go_wp2_with (refine (HAL.out _).mono ?_; rintro e w9 ⟨rfl, hB9⟩); refine HK.out _ _ hB9 ?_; rfl
    · intro vv W K hB hd HK; simp only [confRules, newRules] at hd HK; obtain ⟨h5, _⟩ := hd; simp only [h5] at HK ⊢; clear h5; have hmk := M2.out; go_wp2; refine HK.out _ _ ((Below.refl _ _).alloc (Nat.le_refl _) _) ?_; exact ⟨_, rfl, (by have := hB.size; omega), heap_alloc_new _ _⟩
    · intro vv W K hB hd HK; simp only [confRules, newRules] at hd HK; obtain ⟨h0, ⟨g3, h3, a3, b3⟩, ⟨g6, h6, a6, b6⟩⟩ := hd; simp only [h0, h3, h6] at HK ⊢; clear h0 h3 h6; unfold GC; go_wp2; refine HK.out _ _ (Below.refl _ _) ?_; exact ⟨_, _, rfl, ⟨a3, a6⟩, b3, b6⟩
    · intro vv W K hB hd HK; simp only [confRules, newRules] at hd HK; obtain ⟨q1, q2, h7, ⟨a7, a8⟩, p1, p2⟩ := hd; simp only [h7] at HK ⊢; clear h7; go_wp2; refine HK.out _ _ ((Below.refl _ _).alloc (Nat.le_refl _) _) ?_; have hbb := (Below.refl W.heap.size W).alloc (Nat.le_refl _) (.cells (mapC g q1 n n q2 m m) 117); exact ⟨_, _, _, rfl, ⟨(by have := hB.size; omega), a7, a8⟩, heap_alloc_new _ _, (hbb.block _ (Array.getElem?_eq_some_iff.1 p1).1).trans p1, (hbb.block _ (Array.getElem?_eq_some_iff.1 p2).1).trans p2⟩
  case rahend =>
    intro vv W hB hf; have hp := hf 8 (by decide); simp only [endRules, newRules] at hp; simp only [dropRules]; clear hf; go_wp2
    go_ret2
    exact ⟨_, rfl, hp, hB2.trans (hB.mono hB2.size)⟩
theorem bnew_any (g : Geo.G) (hr : Geo.right g = true) (w : World) :
    Calls Try.prog 22 #[.agg (GC g)] w fun x w' => ∃ p le ll, x = .returned (.tuple #[.pointer (some ⟨p, 0, none⟩), .int .i64 0]) ∧ BmIs w' p le ll g.b.toNat (nz g) g (List.replicate g.b.toNat BE.zero) (liveL (nz g) (List.replicate g.b.toNat BE.zero)) ∧ w.heap.size ≤ p ∧ w.heap.size ≤ le ∧ w.heap.size ≤ ll ∧ Below w.heap.size w w' := by
  have hs := ((Geo.right_iff g).1 hr).1; obtain ⟨hb1, hb2⟩ := hs.2.2.2.1; obtain ⟨hd1, hd2⟩ := Geo.dz_bd hs; have hnz : ((nz g : Nat) : Int) = g.d * g.z := by unfold nz; omega
  refine (bnew_core g g.b.toNat (nz g) (by omega) (by omega) (by omega) hr (fun W => by rw [hnz]; exact gall_any g W hs) w).mono ?_; rintro x w' ⟨v, rfl, ⟨p, b, c, rfl, ⟨h1, h2, h3⟩, hp, hb, hc⟩, hB⟩; refine ⟨p, b, c, rfl, ⟨?_, ⟨_, hb, ?_⟩, ⟨_, hc, ?_⟩, ?_, ?_⟩, h1, h2, h3, hB⟩
  · rw [List.length_replicate, liveL_length]; exact hp
  · rw [List.length_replicate, made_ents, List.take_of_length_le (by rw [flatE_length, List.length_replicate]; omega)]
  · rw [live_zero, List.length_replicate, made_ints, List.take_of_length_le (by simp), List.map_replicate]
  · rw [List.length_replicate]; exact ⟨Nat.le_refl _, by omega⟩
  · rw [liveL_length]; exact ⟨Nat.le_refl _, by omega⟩
theorem mapOk_new (g : Geo.G) (hr : Geo.right g = true) : MapOk g (List.replicate g.b.toNat BE.zero) := by
  have hs := ((Geo.right_iff g).1 hr).1; obtain ⟨hb1, hb2⟩ := hs.2.2.2.1; refine ⟨by rw [List.length_replicate]; omega, fun e he => ?_⟩
  rw [(List.mem_replicate.1 he).2]; exact ⟨zero_right g, rfl, rfl, rfl, rfl, rfl, rfl⟩
end Go.Proofs.Ytoiephmngdecaaa
namespace Go.Rv
open Go.RowKit
theorem OwnM.empty {α : Type} {w : World} {e : TypeId} {n : Nat} {X : α → Array Value} {Q : α → Prop} {base g : Nat} (hg : w.heap[g]? = some (.cells #[] e (0, 0))) (hb : base ≤ g) : OwnM w e n X Q base (.slice (some ⟨g, 0, none⟩) 0 0) [] :=
  ⟨⟨by simp [flatM], .inr ⟨g, 0, #[], rfl, hb, hg, Nat.le_refl _, by decide, by simp, by simp [flatM]⟩⟩, by simp⟩
end Go.Rv
namespace Go.Proofs.Ytoiephmngdecaaa
open Go.RowKit Go.Rv
set_option linter.unusedVariables false
theorem kinE : Kin 6 BEC (fun _ => True) := ⟨fun e _ => BEC_size e, fun e _ => BEC_one e⟩
/-- an int, as cells -/
def iC (x : Int) : Array Value := #[.int .i64 x]
theorem kinI : Kin 1 iC (fun _ => True) := ⟨fun e _ => rfl, fun e _ => by simp [iC, Value.oneCell']⟩
theorem flat_iC (l : List Int) : flatM iC l = l.map (Value.int .i64) := by
  induction l with
  | nil => rfl
  | cons x l ih => simp only [flatM, List.flatMap_cons, List.map_cons, iC] at ih ⊢; rw [ih]; rfl
set_option maxRecDepth 100000 in
set_option maxHeartbeats 2000000 in
theorem eclone_any (w : World) (ad : Addr) (es : List BE) (cp : Nat) (hR : RowOf w 6 BEC (fun _ => True) (some ad) es) (hl : es.length ≤ 100000) :
    Calls Try.prog 52 #[.slice (some ad) es.length cp] w fun e w' => ∃ v, e = .returned v ∧ OwnM w' 54 6 BEC (fun _ => True) w.heap.size v es ∧ Below w.heap.size w w' := by
  have HR := Lib.hid (hR.below ((Below.refl _ w).alloc (Nat.le_refl _) (.cells #[] 54))); have hnil := fun W => Lib.run_eql_slice_nil (P := Try.prog) W 115 54 (some ad) es.length cp 0 0 Try.underlying115; have hinfo : (Try.prog.info? 54).map (fun i => (i.zero, i.size, i.bytes)) = some (some (.agg (BEC BE.zero)), 6, 48) := by kernel_rfl
  have HI := Lib.hid hinfo; have hown : OwnM (w.alloc (.cells #[] 54)) 54 6 BEC (fun _ => True) w.heap.size (.slice (some ⟨w.heap.size, 0, none⟩) 0 0) [] := OwnM.empty (heap_alloc_new _ _) (Nat.le_refl _); have HOG := Lib.hid (fun w' (hg : (w.alloc (.cells #[] 54)).grownBy w' (some w.heap.size)) => ((Below.refl w.heap.size w).alloc (Nat.le_refl _) _).trans (hown.grown hg (by simp))); have HOWN := Lib.hid hown; clear hR hinfo hown; go_enter Try.func52, Try.ntmps52; go_wp2_with (at_builtin; refine wpList_appendM rfl (.tmp 5) (.tmp 6) 115 rfl 54 6 BEC (fun _ => True) kinE (by decide) (.agg (BEC BE.zero)) 48 Try.underlying115 HI.out rfl w.heap.size _ [] rfl HOWN.out (some ad) cp es rfl HR.out (by simp) (by unfold maxLen; simp; omega) (by simp; omega) (by simp) ?_; intro v' w' hv hg _); go_ret; exact ⟨_, rfl, hv, HOG.out _ hg⟩
set_option maxRecDepth 100000 in
set_option maxHeartbeats 2000000 in
theorem iclone_any (w : World) (ad : Addr) (es : List Int) (cp : Nat) (hR : RowOf w 1 iC (fun _ => True) (some ad) es) (hl : es.length ≤ 100000) :
    Calls Try.prog 53 #[.slice (some ad) es.length cp] w fun e w' => ∃ v, e = .returned v ∧ OwnM w' 3 1 iC (fun _ => True) w.heap.size v es ∧ Below w.heap.size w w' := by
  have HR := Lib.hid (hR.below ((Below.refl _ w).alloc (Nat.le_refl _) (.cells #[] 3))); have hnil := fun W => Lib.run_eql_slice_nil (P := Try.prog) W 33 3 (some ad) es.length cp 0 0 Try.underlying33; have hinfo : (Try.prog.info? 3).map (fun i => (i.zero, i.size, i.bytes)) = some (some (.int .i64 0), 1, 8) := by kernel_rfl
  have HI := Lib.hid hinfo; have hown : OwnM (w.alloc (.cells #[] 3)) 3 1 iC (fun _ => True) w.heap.size (.slice (some ⟨w.heap.size, 0, none⟩) 0 0) [] := OwnM.empty (heap_alloc_new _ _) (Nat.le_refl _); have HOG := Lib.hid (fun w' (hg : (w.alloc (.cells #[] 3)).grownBy w' (some w.heap.size)) => ((Below.refl w.heap.size w).alloc (Nat.le_refl _) _).trans (hown.grown hg (by simp))); have HOWN := Lib.hid hown; clear hR hinfo hown; go_enter Try.func53, Try.ntmps53; go_wp2_with (at_builtin; refine wpList_appendM rfl (.tmp 5) (.tmp 6) 33 rfl 3 1 iC (fun _ => True) kinI (by decide) (.int .i64 0) 8 Try.underlying33 HI.out rfl w.heap.size _ [] rfl HOWN.out (some ad) cp es rfl HR.out (by simp) (by unfold maxLen; simp; omega) (by simp; omega) (by simp) ?_; intro v' w' hv hg _); go_ret; exact ⟨_, rfl, hv, HOG.out _ hg⟩
/-- a row that is a copy -/
def CRow (B : Nat) (t : TypeId) (L : List Value) (n b c : Nat) (w : World) : Prop := B ≤ b ∧ n ≤ c ∧ c ≤ 9223372036854775807 ∧ ∃ cur : Array Value, w.heap[b]? = some (.cells cur t (0, 0)) ∧ cur.toList.take L.length = L
theorem CRow.below {B : Nat} {t : TypeId} {L : List Value} {n b c : Nat} {w w' : World} (h : CRow B t L n b c w) (hB : Below w.heap.size w w') : CRow B t L n b c w' := by
  obtain ⟨h1, h2, h3, cur, hc, ht⟩ := h; exact ⟨h1, h2, h3, cur, (hB.block b (Array.getElem?_eq_some_iff.1 hc).1).trans hc, ht⟩
theorem crow_of_own {α : Type} {w : World} {e : TypeId} {n : Nat} {X : α → Array Value} {base : Nat} {v : Value} {xs : List α} (hK : Kin n X (fun _ => True)) (h : OwnM w e n X (fun _ => True) base v xs) (h0 : xs ≠ []) : ∃ b c, v = .slice (some ⟨b, 0, none⟩) xs.length c ∧ CRow base e (flatM X xs) xs.length b c w := by
  rcases h.1.2 with ⟨-, hn⟩ | ⟨g, cap, cur, rfl, hb, hg, hnc, hcm, hcs, htake⟩
  · exact absurd (List.eq_nil_of_length_eq_zero hn) h0
  · exact ⟨g, cap, rfl, hb, hnc, by unfold maxLen at hcm; omega, cur, hg, by rw [flatM_length (n := n) (fun y _ => hK.size y trivial)]; exact htake⟩
def CSl (B : Nat) (t : TypeId) (L : List Value) (n : Nat) (u : Value) (w : World) : Prop := ∃ b c, u = .slice (some ⟨b, 0, none⟩) n c ∧ CRow B t L n b c w
theorem CSl.st (B : Nat) (t : TypeId) (L : List Value) (n : Nat) (u : Value) (w w' : World) (h : CSl B t L n u w) (hB : Below w.heap.size w w') : CSl B t L n u w' := by
  obtain ⟨b, c, e, h1⟩ := h; exact ⟨b, c, e, h1.below hB⟩
def CMap (B : Nat) (g : Geo.G) (E L : List Value) (n m : Nat) (u : Value) (w : World) : Prop := ∃ b c1 c c2, u = .agg (mapC g b n c1 c m c2) ∧ CRow B 54 E n b c1 w ∧ CRow B 3 L m c c2 w
theorem CMap.st (B : Nat) (g : Geo.G) (E L : List Value) (n m : Nat) (u : Value) (w w' : World) (h : CMap B g E L n m u w) (hB : Below w.heap.size w w') : CMap B g E L n m u w' := by
  obtain ⟨b, c1, c, c2, e, h1, h2⟩ := h; exact ⟨b, c1, c, c2, e, h1.below hB, h2.below hB⟩
def CPtr (B : Nat) (g : Geo.G) (E L : List Value) (n m : Nat) (u : Value) (w : World) : Prop := ∃ p b c1 c c2, u = .pointer (some ⟨p, 0, none⟩) ∧ B ≤ p ∧ w.heap[p]? = some (.cells (mapC g b n c1 c m c2) 117 (0, 0)) ∧ CRow B 54 E n b c1 w ∧ CRow B 3 L m c c2 w
theorem CPtr.st (B : Nat) (g : Geo.G) (E L : List Value) (n m : Nat) (u : Value) (w w' : World) (h : CPtr B g E L n m u w) (hB : Below w.heap.size w w') : CPtr B g E L n m u w' := by
  obtain ⟨p, b, c1, c, c2, e, h0, hp, h1, h2⟩ := h; exact ⟨p, b, c1, c, c2, e, h0, (hB.block p (Array.getElem?_eq_some_iff.1 hp).1).trans hp, h1.below hB, h2.below hB⟩
theorem copyRules : (∀ B t L n u w, (Fact.of (CSl B t L n) (CSl.st B t L n)).p u w = CSl B t L n u w) ∧ (∀ B g E L n m u w, (Fact.of (CMap B g E L n m) (CMap.st B g E L n m)).p u w = CMap B g E L n m u w) ∧ (∀ B g E L n m u w, (Fact.of (CPtr B g E L n m) (CPtr.st B g E L n m)).p u w = CPtr B g E L n m u w) :=
  ⟨fun _ _ _ _ _ _ => rfl, fun _ _ _ _ _ _ _ _ => rfl, fun _ _ _ _ _ _ _ _ => rfl⟩
set_option maxRecDepth 100000 in
set_option maxHeartbeats 4000000 in
theorem bcopy_any (w : World) (p le ll ce cl : Nat) (g : Geo.G) (es : List BE) (lv : List Int) (h : BmIs w p le ll ce cl g es lv) (he : es ≠ []) (hlv : lv ≠ []) (hn : es.length ≤ 100000) (hm : lv.length ≤ 100000) :
    Calls Try.prog 28 #[.pointer (some ⟨p, 0, none⟩)] w fun x w' => ∃ p' le' ll' ce' cl', x = .returned (.pointer (some ⟨p', 0, none⟩)) ∧ BmIs w' p' le' ll' ce' cl' g es lv ∧ w.heap.size ≤ p' ∧ w.heap.size ≤ le' ∧ w.heap.size ≤ ll' ∧ Below w.heap.size w w' := by
  have HBM := Lib.hid h; obtain ⟨N, hN⟩ : ∃ N, es.length = N := ⟨_, rfl⟩; obtain ⟨M, hM⟩ : ∃ M, lv.length = M := ⟨_, rfl⟩; obtain ⟨EL, hEL⟩ : ∃ EL, flatE es = EL := ⟨_, rfl⟩; obtain ⟨LL, hLL⟩ : ∃ LL, lv.map (Value.int .i64) = LL := ⟨_, rfl⟩
  have HE : Hid (∀ W, Below w.heap.size w W → Calls Try.prog 52 #[.slice (some ⟨le, 0, none⟩) N ce] W fun e w' => ∃ v, e = .returned v ∧ CSl w.heap.size 54 EL N v w' ∧ Below W.heap.size W w') := Lib.hid (fun W hB => by
    rw [← hN, ← hEL]; refine (eclone_any W ⟨le, 0, none⟩ es ce (h.below hB).rows hn).mono ?_; rintro x w' ⟨v, rfl, hv, hB2⟩; obtain ⟨b, c, e, hc⟩ := crow_of_own kinE (hv.mono hB.size) he; exact ⟨v, rfl, ⟨b, c, e, hc⟩, hB2⟩)
  have HL : Hid (∀ W, Below w.heap.size w W → Calls Try.prog 53 #[.slice (some ⟨ll, 0, none⟩) M cl] W fun e w' => ∃ v, e = .returned v ∧ CSl w.heap.size 3 LL M v w' ∧ Below W.heap.size W w') := Lib.hid (fun W hB => by
    rw [← hM, ← hLL]
    have hr : RowOf W 1 iC (fun _ => True) (some ⟨ll, 0, none⟩) lv := .inr ⟨ll, 0, rfl, (h.below hB).lt.2.2, fun k x hk => ⟨fun j hj => by
      obtain rfl : j = 0 := by omega
      rw [Nat.mul_one, Nat.zero_add]; exact ((h.below hB).live hk).1, trivial⟩⟩
    refine (iclone_any W ⟨ll, 0, none⟩ lv cl hr hm).mono ?_; rintro x w' ⟨v, rfl, hv, hB2⟩; obtain ⟨b, c, e, hc⟩ := crow_of_own kinI (hv.mono hB.size) hlv; rw [flat_iC] at hc; exact ⟨v, rfl, ⟨b, c, e, hc⟩, hB2⟩)
  have HCL : Hid (∀ W, Below w.heap.size w W → W.cell? ⟨p, 0, none⟩ = some (.int .i64 g.d) ∧ W.cell? ⟨p, 1, none⟩ = some (.int .i64 g.z) ∧ W.cell? ⟨p, 2, none⟩ = some (.int .i64 g.s) ∧ W.cell? ⟨p, 3, none⟩ = some (.int .i64 g.b) ∧ W.cell? ⟨p, 4, none⟩ = some (.int .i64 g.p) ∧ W.cell? ⟨p, 5, none⟩ = some (.int .i64 g.o) ∧ W.cell? ⟨p, 6, none⟩ = some (.slice (some ⟨le, 0, none⟩) N ce) ∧ W.cell? ⟨p, 7, none⟩ = some (.slice (some ⟨ll, 0, none⟩) M cl)) := Lib.hid (fun W hB => by
    obtain ⟨a0, a1, a2, a3, a4, a5⟩ := (h.below hB).geo; obtain ⟨a6, a7⟩ := (h.below hB).cells; rw [hN] at a6; rw [hM] at a7; exact ⟨a0, a1, a2, a3, a4, a5, a6, a7⟩)
  have HNM := Lib.hid (show es.length = N ∧ lv.length = M ∧ flatE es = EL ∧ lv.map (Value.int .i64) = LL from ⟨hN, hM, hEL, hLL⟩); clear h hN hM hEL hLL he hlv hn hm; go_enter Try.func28, Try.ntmps28; go_wp2; refine wp_region_conf2 16 [Fact.eq ?rax0, Fact.eq ?rax1, Fact.eq ?rax2, Fact.eq (.agg (GC g)), Fact.eq ?rax4, Fact.eq ?rax5, Fact.eq ?rax6, Fact.eq ?rax7, Fact.of (CSl w.heap.size 54 EL N) (CSl.st w.heap.size 54 EL N), Fact.eq ?rax9, Fact.eq ?rax10, Fact.eq ?rax11, Fact.eq ?rax12, Fact.of (CSl w.heap.size 3 LL M) (CSl.st w.heap.size 3 LL M), Fact.of (CMap w.heap.size g EL LL N M) (CMap.st w.heap.size g EL LL N M), Fact.of (CPtr w.heap.size g EL LL N M) (CPtr.st w.heap.size g EL LL N M)] ?raA (by kernel_rfl) (by kernel_rfl) ?rahA ?raho ?rahend
  case rahA =>
    intro vv; simp only [putRules, Nat.reduceAdd]; rfl
  case raho =>
    refine ⟨?_, ?_, ?_, ?_, ?_, ?_, ?_, ?_, ?_, ?_, ?_, ?_, ?_, ?_, ?_, ?_, trivial⟩
    · intro vv W K hB hd HK; simp only [confRules] at HK; clear hd; go_wp2; refine HK.out _ _ (Below.refl _ _) ?_; rfl
    · intro vv W K hB hd HK; simp only [confRules] at hd HK; have h0 := hd; clear hd; simp only [h0] at HK ⊢; clear h0; go_wp2; refine HK.out _ _ (Below.refl _ _) ?_; rfl
    · intro vv W K hB hd HK; simp only [confRules] at hd HK; have h1 := hd; clear hd; simp only [h1] at HK ⊢; clear h1; go_wp2; refine HK.out _ _ (Below.refl _ _) ?_; rfl
    · intro vv W K hB hd HK; simp only [confRules] at hd HK; have h2 := hd; clear hd; simp only [h2] at HK ⊢; clear h2; have hcl := HCL.out _ hB; obtain ⟨a0, a1, a2, a3, a4, a5, a6, a7⟩ := hcl; go_wp2; refine HK.out _ _ (Below.refl _ _) ?_; rfl
    · intro vv W K hB hd HK; simp only [confRules] at HK; clear hd; go_wp2; refine HK.out _ _ (Below.refl _ _) ?_; rfl
    · intro vv W K hB hd HK; simp only [confRules] at hd HK; have h4 := hd; clear hd; simp only [h4] at HK ⊢; clear h4; go_wp2; refine HK.out _ _ (Below.refl _ _) ?_; rfl
    · intro vv W K hB hd HK; simp only [confRules] at hd HK; have h5 := hd; clear hd; simp only [h5] at HK ⊢; clear h5; go_wp2; refine HK.out _ _ (Below.refl _ _) ?_; rfl
    · intro vv W K hB hd HK; simp only [confRules] at hd HK; have h6 := hd; clear hd; simp only [h6] at HK ⊢; clear h6; have hcl := HCL.out _ hB; obtain ⟨a0, a1, a2, a3, a4, a5, a6, a7⟩ := hcl; go_wp2; refine HK.out _ _ (Below.refl _ _) ?_; rfl
    · intro vv W K hB hd HK; simp only [confRules, copyRules] at hd HK; have h7 := hd; clear hd; simp only [h7] at HK ⊢; clear h7; go_wp2_with (refine (HE.out _ hB).mono ?_; rintro e w9 ⟨v, rfl, hv, hB9⟩); exact HK.out _ _ hB9 hv
    · intro vv W K hB hd HK; simp only [confRules] at HK; clear hd; go_wp2; refine HK.out _ _ (Below.refl _ _) ?_; rfl
    · intro vv W K hB hd HK; simp only [confRules] at hd HK; have h9 := hd; clear hd; simp only [h9] at HK ⊢; clear h9; go_wp2; refine HK.out _ _ (Below.refl _ _) ?_; rfl
    · intro vv W K hB hd HK; simp only [confRules] at hd HK; have h10 := hd; clear hd; simp only [h10] at HK ⊢; clear h10; go_wp2; refine HK.out _ _ (Below.refl _ _) ?_; rfl
    · intro vv W K hB hd HK; simp only [confRules] at hd HK; have h11 := hd; clear hd; simp only [h11] at HK ⊢; clear h11; have hcl := HCL.out _ hB; obtain ⟨a0, a1, a2, a3, a4, a5, a6, a7⟩ := hcl; go_wp2; refine HK.out _ _ (Below.refl _ _) ?_; rfl
    · intro vv W K hB hd HK; simp only [confRules, copyRules] at hd HK; obtain ⟨h12, ⟨b8, c8, h8, r8⟩⟩ := hd; simp only [h12, h8] at HK ⊢; clear h12 h8; go_wp2_with (refine (HL.out _ hB).mono ?_; rintro e w9 ⟨v, rfl, hv, hB9⟩); exact HK.out _ _ hB9 hv
    · intro vv W K hB hd HK; simp only [confRules, copyRules] at hd HK; obtain ⟨h3, ⟨b8, c8, h8, r8⟩, ⟨b13, c13, h13, r13⟩⟩ := hd; simp only [h3, h8, h13] at HK ⊢; clear h3 h8 h13; unfold GC; go_wp2; refine HK.out _ _ (Below.refl _ _) ?_; exact ⟨_, _, _, _, rfl, r8, r13⟩
    · intro vv W K hB hd HK; simp only [confRules, copyRules] at hd HK; obtain ⟨q1, q2, q3, q4, h14, r1, r2⟩ := hd; simp only [h14] at HK ⊢; clear h14; go_wp2; refine HK.out _ _ ((Below.refl _ _).alloc (Nat.le_refl _) _) ?_; have hbb := (Below.refl W.heap.size W).alloc (Nat.le_refl _) (.cells (mapC g q1 N q2 q3 M q4) 117); exact ⟨_, _, _, _, _, rfl, hB.size, heap_alloc_new _ _, r1.below hbb, r2.below hbb⟩
  case rahend =>
    intro vv W hB hf; have hp := hf 15 (by decide); simp only [endRules, copyRules] at hp; obtain ⟨p', b, c1, c, c2, hv, h0, hp, ⟨k1, k2, k3, cur1, k4, k5⟩, ⟨l1, l2, l3, cur2, l4, l5⟩⟩ := hp; simp only [dropRules, hv]; clear hf; obtain ⟨n1, n2, n3, n4⟩ := HNM.out; have HR : Hid (BmIs W p' b c c1 c2 g es lv) := Lib.hid ⟨by rw [n1, n2]; exact hp, ⟨cur1, k4, by rw [n3, ← k5, ← n3, flatE_length]⟩, ⟨cur2, l4, by rw [n4, ← l5, ← n4, List.length_map]⟩, ⟨by omega, by omega⟩, ⟨by omega, by omega⟩⟩; clear hp k2 k3 k4 k5 l2 l3 l4 l5 n1 n2 n3 n4 HNM HE HL HCL; go_wp2; go_ret; exact ⟨p', b, c, c1, c2, rfl, HR.out, h0, k1, l1, hB⟩
end Go.Proofs.Ytoiephmngdecaaa
namespace Go.Rv
open Go.RowKit Go.Maps
theorem MapI.only {S : List Nat} {w w' : World} {P : Program} {k : TypeId} {z : Value} {b n : Nat} {V : Int → Value} (h : MapI w P k z b n V) (hO : Only S w w') (hb : b ∉ S) : MapI w' P k z b n V :=
  let ⟨D, ⟨es, clock, h1, h2⟩, h3⟩ := h
  ⟨D, ⟨es, clock, (hO.block b (Array.getElem?_eq_some_iff.1 h1).1 hb).trans h1, h2⟩, h3⟩
end Go.Rv
namespace Go.Proofs.Ytoiephmngdecaaa
open Go.RowKit Go.Rv Rl Frm
set_option linter.unusedVariables false
/-- the records R by their numbers, in the map mb; V k is the slice of those of number k -/
structure ByIs (w : World) (B mb : Nat) (R : List (Int × Rec)) (V : Int → Value) : Prop where
  hm : MapI w Try.prog 3 (.slice none 0 0) mb R.length V
  hB : B ≤ mb ∧ B ≤ w.heap.size
  hv : ∀ i, OwnM w 102 40 recC RecQ B (V i) (atSeq R i)
  hd : ∀ i j b, i ≠ j → (V i).ownBlock = some b → (V j).ownBlock ≠ some b
theorem ByIs.start (w : World) {B : Nat} (hB : B ≤ w.heap.size) : ByIs (w.alloc (.map #[] 0)) B w.heap.size [] (fun _ => .slice none 0 0) :=
  ⟨MapI.made _ _ _ _, ⟨hB, by simp; omega⟩, fun i => OwnM.nil _ _ _ _ _ _, fun i j b _ h => by simp [Value.ownBlock] at h⟩
theorem map_ne_cells {w : World} {b k : Nat} {es clock} {C : Array Value} {t : TypeId} {fr : Nat × Nat} (h : w.heap[b]? = some (.map es clock)) (h' : w.heap[k]? = some (.cells C t fr)) : b ≠ k := by
  rintro rfl; rw [h] at h'; cases h'
theorem cells_ty_ne {w : World} {b k : Nat} {C C' : Array Value} {t t' : TypeId} {fr fr' : Nat × Nat} (h : w.heap[b]? = some (.cells C t fr)) (h' : w.heap[k]? = some (.cells C' t' fr')) (hne : t ≠ t') : b ≠ k := by
  rintro rfl; rw [h] at h'; cases h'; exact hne rfl
theorem ByIs.kept {w w' : World} {B mb : Nat} {R : List (Int × Rec)} {V : Int → Value} (h : ByIs w B mb R V) {row : Option Nat} (hg : w.grownBy w' row) (hr : ∀ k, row = some k → ∃ C, w.heap[k]? = some (.cells C 3 (0, 0))) : ByIs w' B mb R V := by
  refine ⟨h.hm.kept hg (fun e => ?_), ⟨h.hB.1, Nat.le_trans h.hB.2 hg.size⟩, fun i => (h.hv i).kept hg ?_, h.hd⟩
  · obtain ⟨C, hC⟩ := hr mb e.symm; obtain ⟨es, clock, hm⟩ := h.hm.obj; exact map_ne_cells hm hC rfl
  · cases hb : (V i).ownBlock with
    | none => exact .inl rfl
    | some k =>
      refine .inr (fun e => ?_); obtain ⟨C, hC⟩ := hr k e.symm; obtain ⟨-, C', hC'⟩ := (h.hv i).base_le hb; exact cells_ty_ne hC hC' (by decide) rfl
theorem ByIs.below {w w' : World} {B mb : Nat} {R : List (Int × Rec)} {V : Int → Value} (h : ByIs w B mb R V) (hb : Below w.heap.size w w') : ByIs w' B mb R V :=
  h.kept (grownBy_of_below hb none) (fun k e => by cases e)
theorem ByIs.at {w : World} {B mb : Nat} {R : List (Int × Rec)} {V : Int → Value} (h : ByIs w B mb R V) (s : Int) : ∃ a cap, V s = .slice a (atSeq R s).length cap ∧ RowOf w 40 recC RecQ a (atSeq R s) ∧ (atSeq R s).length ≤ cap ∧ cap ≤ 9223372036854775807 ∧ (∀ x, a = some x → x.block < w.heap.size) ∧ (atSeq R s ≠ [] → ∃ b, a = some ⟨b, 0, none⟩) := by
  have hs := h.hv s; obtain ⟨a, cap, he, hr, -, h1, h2, h3⟩ := hs.shape kinRec; refine ⟨a, cap, he, hr, h1, h2, fun x hx => (h3 x hx).2.1, fun hne => ?_⟩
  rcases hs.1.2 with ⟨hv, hn⟩ | ⟨g, cap', cur, hv, -⟩
  · exact absurd (List.eq_nil_of_length_eq_zero hn) hne
  · rw [he] at hv; cases hv; exact ⟨g, rfl⟩
/-- one record more -/
theorem ByIs.put {W4 W w' : World} {B mb : Nat} {R : List (Int × Rec)} {V : Int → Value} (h : ByIs W4 B mb R V) {SB : List Nat} {s : Int} {r : Rec} {u : Value} (hO : Only SB W4 W) (hSB : ∀ x ∈ SB, (V s).ownBlock = some x)
    (hG : OwnM W 102 40 recC RecQ B u (atSeq R s ++ [r])) (hub : u.ownBlock = (V s).ownBlock ∨ ∃ b, u.ownBlock = some b ∧ W4.heap.size ≤ b)
    (hM : MapI w' Try.prog 3 (.slice none 0 0) mb (R.length + 1) (putV V s u)) (hg : W.grownBy w' (some mb)) : ByIs w' B mb (R ++ [(s, r)]) (putV V s u) := by
  obtain ⟨es, clock, hmap⟩ := h.hm.obj
  have hmS : mb ∉ SB := fun hm => by
    obtain ⟨-, C, hC⟩ := (h.hv s).base_le (hSB _ hm); exact map_ne_cells hmap hC rfl
  have hmW := hO.get hmap hmS; refine ⟨by rw [List.length_append]; exact hM, ⟨h.hB.1, Nat.le_trans h.hB.2 (Nat.le_trans hO.size hg.size)⟩, fun i => ?_, fun i j b hij hi hj => ?_⟩
  · rw [atSeq_snoc]; unfold putV; by_cases hi : i = s
    · rw [if_pos hi, if_pos hi.symm, hi]; refine hG.kept hg ?_
      cases hb : u.ownBlock with
      | none => exact .inl rfl
      | some k =>
        refine .inr (fun e => ?_); obtain ⟨-, C, hC⟩ := hG.base_le hb; simp only [Option.some.injEq] at e; exact map_ne_cells hmW hC e.symm
    · rw [if_neg hi, if_neg (Ne.symm hi)]; have h1 := (h.hv i).only hO (fun k hk hkm => h.hd i s k hi hk (hSB k hkm)); refine h1.kept hg ?_
      cases hb : (V i).ownBlock with
      | none => exact .inl rfl
      | some k =>
        refine .inr (fun e => ?_); obtain ⟨-, C, hC⟩ := h1.base_le hb; simp only [Option.some.injEq] at e; exact map_ne_cells hmW hC e.symm
  · have key : ∀ j b, j ≠ s → u.ownBlock = some b → (V j).ownBlock ≠ some b := fun j b hj hu hv => by
      rcases hub with e | ⟨b', e, hb'⟩
      · rw [e] at hu; exact h.hd s j b (Ne.symm hj) hu hv
      · rw [e, Option.some.injEq] at hu; subst hu; obtain ⟨-, C, hC⟩ := (h.hv j).base_le hv; have := (Array.getElem?_eq_some_iff.1 hC).1; omega
    unfold putV at hi hj; by_cases h1 : i = s
    · rw [if_pos h1] at hi; rw [if_neg (fun e => hij (h1.trans e.symm))] at hj; exact key j b (fun e => hij (h1.trans e.symm)) hi hj
    · rw [if_neg h1] at hi; by_cases h2 : j = s
      · rw [if_pos h2] at hj; exact key i b h1 hj hi
      · rw [if_neg h2] at hj; exact h.hd i j b hij hi hj
end Go.Proofs.Ytoiephmngdecaaa
namespace Go.Proofs.Ytoiephmngdecaaa
open Go.RowKit Go.Rv Rl Frm
set_option linter.unusedVariables false
attribute [local go_sem] Oper.semAt_some
theorem Try.infoInt3 : (Try.prog.info? 3).map (fun i => (i.zero, i.size, i.bytes)) = some (some (.int .i64 0), 1, 8) := by kernel_rfl
theorem add_one_int (W : World) (t : TypeId) (z : Int) : RowOf (W.alloc (.cells #[.int .i64 z] t)) 1 iC (fun _ => True) (some ⟨W.heap.size, 0, none⟩) [z] := one_rowOf (fr := (0, 0)) (heap_alloc_new W _) trivial
namespace Rl
theorem singles_snoc : ∀ (l : List Int) (b : Nat) (x : Int), singles (l ++ [x]) b = singles l b ++ (if 0 < x then [((b + l.length : Nat) : Int)] else [])
  | [], b, x => by
    show (if 0 < x then _ else _) = _; by_cases h : 0 < x
    · simp [h, singles]
    · simp [h, singles]
  | y :: r, b, x => by
    have ih := singles_snoc r (b + 1) x; rw [List.cons_append]; unfold singles; rw [ih, show b + 1 + r.length = b + (y :: r).length by simp; omega]; split <;> simp
theorem singles_len : ∀ (l : List Int) (b : Nat), (singles l b).length ≤ l.length
  | [], _ => by simp [singles]
  | y :: r, b => by
    have ih := singles_len r (b + 1); show (if 0 < y then _ else _ : List Int).length ≤ _; split
    · simp; omega
    · simp; omega
end Rl
set_option maxRecDepth 100000 in
set_option maxHeartbeats 4000000 in
theorem rsingles_any (w : World) (B q p le ll ce cl sb : Nat) (g : Geo.G) (v : Value) (st : St) (h : RolIs w B q p le ll ce cl sb g v st) (hl : st.single.length ≤ 1000) :
    Calls Try.prog 33 #[.pointer (some ⟨q, 0, none⟩)] w fun e w' => ∃ u, e = .returned u ∧ OwnM w' 3 1 iC (fun _ => True) w.heap.size u (Rl.singles st.single 0) ∧ Below w.heap.size w w' := by
  have HH := Lib.hid h; obtain ⟨-, -, -, -, c4, -⟩ := h.own; obtain ⟨n, hn⟩ : ∃ n, st.single.length = n := ⟨_, rfl⟩; have HN := Lib.hid hn; rw [hn] at c4 hl; clear h hn; go_enter Try.func33, Try.ntmps33; go_wp2; clear c4; go_loopw [3, 11] (fun x u wr => ∃ (k : Nat) (v : Value), k ≤ n ∧ u = .int .i64 k ∧ v = x ∧ OwnM wr 3 1 iC (fun _ => True) w.heap.size v (Rl.singles (st.single.take k) 0) ∧ Below w.heap.size w wr) (fun _ u _ => n - (intOf u).toNat)
  case atStart => exact ⟨0, _, Nat.zero_le _, rfl, rfl, OwnM.nil _ _ _ _ _ _, Below.refl _ _⟩
  case round =>
    obtain ⟨k, v, hk, rfl, rfl, hown, hBr⟩ := hrel; have zr := hBr.size; have HBR := Lib.hid hBr; have HOW := Lib.hid hown; clear hBr hown; by_cases hlt : k < n
    · obtain ⟨x, hx⟩ : ∃ x, st.single[k]? = some x := ⟨_, List.getElem?_eq_getElem (by rw [HN.out]; exact hlt)⟩
      have hcell : wr.cell? ⟨sb, k, none⟩ = some (.int .i64 x) := by
        have := ((HH.out.below HBR.out).one (j := k) (by rw [HN.out]; exact hlt)).1; rw [this, List.getD_eq_getElem?_getD, hx]; rfl
      have hst : Rl.singles (st.single.take (k + 1)) 0 = Rl.singles (st.single.take k) 0 ++ (if 0 < x then [(k : Int)] else []) := by
        rw [List.take_add_one, hx]; simp only [Option.toList_some]; rw [Rl.singles_snoc, List.length_take, HN.out, Nat.min_eq_left hk, Nat.zero_add]
      have HLK : Hid ((Rl.singles (st.single.take k) 0).length ≤ 1000) := Lib.hid (by have := Rl.singles_len (st.single.take k) 0; rw [List.length_take] at this; omega); clear hx
      have hcase : (decide (0 < x) = true ∧ Rl.singles (st.single.take (k + 1)) 0 = Rl.singles (st.single.take k) 0 ++ [(k : Int)]) ∨ (decide (0 < x) = false ∧ Rl.singles (st.single.take (k + 1)) 0 = Rl.singles (st.single.take k) 0) := by
        by_cases h0 : 0 < x
        · exact .inl ⟨decide_eq_true h0, by rw [hst, if_pos h0]⟩
        · exact .inr ⟨decide_eq_false h0, by rw [hst, if_neg h0, List.append_nil]⟩
      clear hst; rcases hcase with ⟨t1, hst⟩ | ⟨t1, hst⟩
      · have HST := Lib.hid hst; have HB10 := Lib.hid ((Below.refl wr.heap.size wr).alloc (Nat.le_refl _) (.cells #[.int .i64 (k : Int)] 3)); have HOW10 := Lib.hid (HOW.out.below HB10.out); have HR10 := Lib.hid (add_one_int wr 3 (k : Int)); clear hst; go_wp2_with (at_builtin; refine wpList_appendM rfl (.tmp 18) (.tmp 20) 33 rfl 3 1 iC (fun _ => True) kinI (by decide) (.int .i64 0) 8 Try.underlying33 Try.infoInt3 rfl w.heap.size _ (Rl.singles (st.single.take k) 0) rfl HOW10.out (some ⟨wr.heap.size, 0, none⟩) 1 [(k : Int)] (by rfl) HR10.out (by simp) (by have := HLK.out; unfold maxLen; simp; omega) (by have := HLK.out; simp; omega) (by simp; omega) ?_; intro v11 w11 hv11 hg11 _; have hB11 := (HBR.out.trans (HB10.out.mono HBR.out.size)).trans (HOW10.out.grown hg11 (by simp; omega))); rw [← HST.out] at hv11
        first | exact ⟨⟨k + 1, _, by omega, by go_num, rfl, hv11, hB11⟩, by simp [intOf]; omega⟩ | (go_roundw; exact ⟨k + 1, _, by omega, by go_num, rfl, hv11, hB11⟩; simp [intOf]; omega)
      · have HST := Lib.hid hst; clear hst; go_wp2
        first | exact ⟨⟨k + 1, _, by omega, by go_num, rfl, by rw [HST.out]; exact HOW.out, HBR.out⟩, by simp [intOf]; omega⟩ | (go_roundw; exact ⟨k + 1, _, by omega, by go_num, rfl, by rw [HST.out]; exact HOW.out, HBR.out⟩; simp [intOf]; omega)
    · obtain rfl : k = n := by omega
      have hown := HOW.out; rw [List.take_of_length_le (by rw [HN.out]; exact Nat.le_refl _)] at hown; have HOF := Lib.hid hown; clear hown; go_wp2; go_ret; exact ⟨_, rfl, HOF.out, HBR.out⟩
end Go.Proofs.Ytoiephmngdecaaa
namespace Sn
end Sn
namespace Go.Proofs.Ytoiephmngdecaaa
open Go.RowKit Go.Rv
set_option linter.unusedVariables false
attribute [local go_sem] Oper.semAt_some
end Go.Proofs.Ytoiephmngdecaaa
namespace Sn
open Go.Proofs.Ytoiephmngdecaaa
end Sn
namespace Go.Proofs.Ytoiephmngdecaaa
open Go.RowKit Go.Rv
set_option linter.unusedVariables false
attribute [local go_sem] Oper.semAt_some
/-- what a pen's writing leaves as it was -/
theorem PenPost.keep {w0 w w' : World} {g : Nat} {f0 f f' : Option Nat} (hf : f = f0 ∨ ∃ k, f = some k ∧ w0.heap.size ≤ k) (hO : Only (g :: f0.toList) w0 w) (hO' : Only (g :: f.toList) w w') (hf' : f' = f ∨ ∃ k, f' = some k ∧ w.heap.size ≤ k) :
    Only (g :: f0.toList) w0 w' ∧ (f' = f0 ∨ ∃ k, f' = some k ∧ w0.heap.size ≤ k) := by
  have hz := hO.size; refine ⟨hO.trans' hO' (fun k hk => ?_), fresh_trans hf hf' hz⟩; rcases List.mem_cons.1 hk with e | hk
  · exact .inl (by simp [e])
  · rcases hf with rfl | ⟨j, rfl, hj⟩
    · exact .inl (by simp at hk; simp [hk])
    · exact .inr (by simp at hk; omega)
end Go.Proofs.Ytoiephmngdecaaa
namespace Sn
open Go.Proofs.Ytoiephmngdecaaa
end Sn
namespace Go.Proofs.Ytoiephmngdecaaa
open Go.RowKit Go.Rv
set_option linter.unusedVariables false
attribute [local go_sem] Oper.semAt_some
/-- a snapshot's cells -/
def SnC (gen epoch next : Int) (p : Nat) : Array Value := #[.int .i64 gen, .int .i64 epoch, .int .i64 next, .pointer (some ⟨p, 0, none⟩)]
theorem Try.infoSnap : (Try.prog.info? 29).map (fun i => (i.zero, i.size)) = some (some (.agg #[.int .i64 0, .int .i64 0, .int .i64 0, .pointer none]), 4) := by kernel_rfl
theorem snsize (gen epoch next : Int) (p : Nat) : (Try.prog.info? 29).map (·.size) = some (SnC gen epoch next p).size := (zero_of_info Try.infoSnap).2
theorem sn_cells {w : World} {b : Nat} {gen epoch next : Int} {p : Nat} {t : TypeId} (h : w.heap[b]? = some (.cells (SnC gen epoch next p) t (0, 0))) : w.cell? ⟨b, 0, none⟩ = some (.int .i64 gen) ∧ w.cell? ⟨b, 1, none⟩ = some (.int .i64 epoch) ∧ w.cell? ⟨b, 2, none⟩ = some (.int .i64 next) ∧ w.cell? ⟨b, 3, none⟩ = some (.pointer (some ⟨p, 0, none⟩)) :=
  ⟨(cell_of_row _ _ _ _ _ _ h).trans rfl, (cell_of_row _ _ _ _ _ _ h).trans rfl, (cell_of_row _ _ _ _ _ _ h).trans rfl, (cell_of_row _ _ _ _ _ _ h).trans rfl⟩
end Go.Proofs.Ytoiephmngdecaaa
