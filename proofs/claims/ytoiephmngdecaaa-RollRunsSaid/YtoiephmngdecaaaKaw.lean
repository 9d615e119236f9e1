/- Proved here: a snapshot that is made of a geometry and a list of entries, and its entries as the document has them (law 17's 'made'). -/
import Derived.LoopTactic
import Derived.WalkLawsBesides
import Derived.Test.YtoiephmngdecaaaKai
import Derived.Test.YtoiephmngdecaaaKal
import Derived.Test.YtoiephmngdecaaaKao
import Derived.Test.YtoiephmngdecaaaKap
import Derived.Test.YtoiephmngdecaaaKar
import Derived.Test.YtoiephmngdecaaaKas
import Derived.Test.YtoiephmngdecaaaKav
namespace Go.Rv
open Go.RowKit
theorem Keeps.grown {R : List Nat} {a w w' : World} {row : Option Nat} (h : Keeps R a w) (hg : w.grownBy w' row) (hR : ∀ k ∈ R, k < w.heap.size) (hr : ∀ k, row = some k → k ∉ R ∧ ∀ o, w.heap[k]? = some o → o.isCells = true) : Keeps R a w' :=
  ⟨Nat.le_trans h.size hg.size, fun k hk => (hg.block k (hR k hk) (fun e => (hr k e.symm).1 hk)).trans (h.rows k hk), fun k o hk ho => by
    have h1 := h.others k o hk ho; refine (hg.block k (Array.getElem?_eq_some_iff.1 h1).1 (fun e => ?_)).trans h1; have h2 := (hr k e.symm).2 o h1; rw [ho] at h2; cases h2⟩
theorem Keeps.setCell {R : List Nat} {a w : World} (h : Keeps R a w) {p : Addr} (hp : p.block ∉ R) (u : Value) : Keeps R a (w.setCell p u) :=
  h.trans ⟨by simp [World.setCell], fun k hk => Below.heap_setCell w p u k (fun e => hp (by rw [← e]; exact hk)), fun k o hk ho => (KeepsOthers.setCell w p u).same k o hk ho⟩
theorem Keeps.of_below {R : List Nat} {a w : World} (h : Below a.heap.size a w) (hR : ∀ k ∈ R, k < a.heap.size) : Keeps R a w :=
  ⟨h.size, fun k hk => h.block k (hR k hk), fun k _ hk _ => (h.block k (Array.getElem?_eq_some_iff.1 hk).1).trans hk⟩
end Go.Rv
namespace Go.Rv
open Go.RowKit
theorem rres_ct17 {P : Program} {fn : Func} {p q0 q1 : Tmp} {ty : TypeId} (h : fn.results = #[.cell p ty, .tmp q0, .tmp q1]) (tmps : Array Value) (w : World) (g : Nat) (t : TypeId) (cs : Array Value) (fr : Nat × Nat) (d : TypeDesc)
    (hp : tmps.getD p undef = .pointer (some ⟨g, 0, none⟩)) (hg : w.heap[g]? = some (.cells cs t fr)) (hu : P.underlying ty = some d) (hd : (match d with | .struct _ | .array _ _ => true | _ => false) = true) (hi : (P.info? ty).map (·.size) = some cs.size) :
    (results fn tmps).run P w = .ok (.tuple #[.agg cs, tmps.getD q0 undef, tmps.getD q1 undef]) w := by
  have hp' : tmps[p]?.getD undef = .pointer (some ⟨g, 0, none⟩) := by simpa using hp
  simp [results, h, hp', asAddr, run_loadVar_row w g t ty cs fr d hg hu hd hi]
end Go.Rv
namespace Go.Proofs.Ytoiephmngdecaaa
namespace Rl
/-- entries that are set, one behind the other -/
def setAll (g : Geo.G) (es : List BE) (l : List (Int × BE)) : List BE := l.foldl (fun es x => setEs g es x.1 x.2) es
/-- the entries of the map that is made -/
def madeEs (g : Geo.G) (l : List (Int × BE)) : List BE := setAll g (List.replicate g.b.toNat BE.zero) l
theorem setAll_take {g : Geo.G} {es : List BE} {l : List (Int × BE)} {k : Nat} {x : Int × BE} (h : l[k]? = some x) : setAll g es (l.take (k + 1)) = setEs g (setAll g es (l.take k)) x.1 x.2 := by
  unfold setAll; rw [List.take_add_one, h, List.foldl_append]; rfl
end Rl
open Go.RowKit Go.Rv Go.Shelf
set_option linter.unusedVariables false
attribute [local go_sem] Oper.semAt_some
theorem built_snm (a b c : Int) (p : Nat) : Try.prog.built 29 [(0, .int .i64 a), (1, .int .i64 b), (2, .int .i64 c), (3, .pointer (some ⟨p, 0, none⟩))] = some (SnC a b c p) := by kernel_rfl
def SZ : Array Value := #[.int .i64 0, .int .i64 0, .int .i64 0, .pointer none]
theorem Try.infoSnz : (Try.prog.info? 29).map (fun i => (i.zero, i.size)) = some (some (.agg SZ), 4) := by kernel_rfl
theorem built_snz : Try.prog.built 29 [] = some SZ := by kernel_rfl
theorem only_setRow (w : World) (g : Nat) (X : Array Value) : Only [g] w (w.setRow g X) := only_set1 w g X
theorem kinR : Kin 6 BEC (fun _ => True) := ⟨fun e _ => BEC_size e, fun e _ => BEC_one e⟩
theorem Try.infoIt17 : (Try.prog.info? 87).map (fun i => (i.zero, i.size)) = some (some (.agg (opC (0, BE.zero))), 7) := by kernel_rfl
theorem filled_re (x : BE) (ie : Array Value) (h0 : ie = BEC BE.zero) : Instr.fill (fun i => some (i * 6, 6)) ((Array.range (1 * 6)).map (ie[· % 6]!)) [(0, .agg (BEC x))] = some (BEC x) := by
  subst h0; obtain ⟨a, b, c, d, e, f⟩ := x; kernel_rfl
theorem Try.infoReZ : (Try.prog.info? 55).map (fun i => (i.zero, i.size)) = some (some (.agg (BEC BE.zero)), 6) := by kernel_rfl
/-- a slice of one of the document's entries is made -/
theorem wpListIn_slice1e {F : Fence} {m : Nat} {w : World} {ops : Array Oper} {rest : List Oper} {o : Oper} {a : Act} {Q : Exit → Act → World → Prop} (hg : o.guard = none) (x : Operand) (ho : o.op = .buildSlice 30 1 #[(0, x)]) (f : BE) (hx : a.eval x = .agg (BEC f))
    (h : wpListIn F m Try.prog ops Q rest (a.put o.dst (.slice (some ⟨w.heap.size, 0, none⟩) 1 1)) (w.alloc (.cells (BEC f) 55))) : wpListIn F m Try.prog ops Q (o :: rest) a w := by
  have hi := Try.infoReZ
  cases hie : Try.prog.info? 55 with
  | none => rw [hie] at hi; cases hi
  | some ie =>
    rw [hie, Option.map_some, Option.some.injEq, Prod.mk.injEq] at hi; obtain ⟨hz, hs⟩ := hi; refine wpListIn_buildSlice hg 30 55 1 #[(0, x)] ho (BEC f) ie (.agg (BEC BE.zero)) Try.underlying30 hie hz (by rw [hs]; decide) (by rw [hs]; decide) ?_ h; rw [hs]; have h1 := filled_re f _ rfl; simp only [List.map_toArray, List.map_cons, List.map_nil, hx]; exact h1
theorem BmIs.turn {B : Nat} {w w' : World} {p le ll ce cl : Nat} {g : Geo.G} {es : List BE} {lv : List Int} (h : BmIs w p le ll ce cl g es lv) (ht : Turn B [] w w') : BmIs w' p le ll ce cl g es lv := by
  obtain ⟨hp, ⟨L, h1, h2⟩, ⟨V, h3, h4⟩, h5, h6⟩ := h; exact ⟨ht.block p _ hp (by simp) (.inr rfl), ⟨L, ht.block le _ h1 (by simp) (.inr rfl), h2⟩, ⟨V, ht.block ll _ h3 (by simp) (.inr rfl), h4⟩, h5, h6⟩
theorem zip_fst' (es : List BE) : es.zipIdx.map (·.1) = es := by simp
theorem Try.infoSlE : (Try.prog.info? 30).map (fun i => (i.zero, i.size)) = some (some (.slice none 0 0), 1) := by kernel_rfl
set_option maxRecDepth 100000 in
set_option maxHeartbeats 16000000 in
theorem made17_core (g : Geo.G) (n : Nat) (hbn : g.b = n) (hr : Geo.right g = true) (a : Option Addr) (l : List (Int × BE)) (cp : Nat) (epoch next : Int) (w : World) (hI : RowOf w 7 opC Op64 a l) (hl : l.length ≤ 60) :
    Calls Try.prog 10 #[.agg (GC g), .slice a l.length cp, .int .i64 epoch, .int .i64 next] w fun e w' => ∃ p le ll v, e = .returned (.tuple #[.agg (SnC 1 epoch next p), v, .bool (Sn.right 1 epoch next (Rl.madeEs g l))]) ∧ BmIs w' p le ll n (nz g) g (Rl.madeEs g l) (liveL (nz g) (Rl.madeEs g l)) ∧ MapOk g (Rl.madeEs g l) ∧ OwnM w' 55 6 BEC (fun _ => True) w.heap.size v (Rl.madeEs g l) ∧ (w.heap.size ≤ p ∧ w.heap.size ≤ le ∧ w.heap.size ≤ ll) ∧ Below w.heap.size w w' := by
  obtain ⟨RB, hRB⟩ : ∃ b, Sn.right 1 epoch next (Rl.madeEs g l) = b := ⟨_, rfl⟩; rw [hRB]; have HRB := Lib.hid hRB; clear hRB; have hgt : g.b.toNat = n := by rw [hbn]; rfl
  have hs := ((Geo.right_iff g).1 hr).1; have hn2 : n ≤ 256 := by have := hs.2.2.2.1.2; omega
  have HRT := Lib.hid hr; have HN : Hid (∀ W, Calls Try.prog 22 #[.agg (GC g)] W fun x w' => ∃ p le ll, x = .returned (.tuple #[.pointer (some ⟨p, 0, none⟩), .int .i64 0]) ∧ BmIs w' p le ll n (nz g) g (List.replicate n BE.zero) (liveL (nz g) (List.replicate n BE.zero)) ∧ W.heap.size ≤ p ∧ W.heap.size ≤ le ∧ W.heap.size ≤ ll ∧ Below W.heap.size W w') := Lib.hid (fun W => by have := bnew_any g hr W; rwa [hgt] at this); have HM0 : Hid (MapOk g (List.replicate n BE.zero)) := Lib.hid (by have := mapOk_new g hr; rwa [hgt] at this); have HMD : Hid (Rl.madeEs g l = Rl.setAll g (List.replicate n BE.zero) l) := Lib.hid (by unfold Rl.madeEs; rw [hgt]); have HI := Lib.hid hI; have HGI := Lib.hid (gsize (g := g)); have HSI : Hid ((Try.prog.info? 29).map (·.size) = some SZ.size) := Lib.hid (zero_of_info Try.infoSnz).2; have HII : Hid (∀ x : Int × BE, (Try.prog.info? 87).map (·.size) = some (opC x).size) := Lib.hid (fun x => (zero_of_info Try.infoIt17).2); have HIL : Hid (∀ x : Int × BE, (Try.prog.info? 87).map (·.size) = some (opC x).toList.length) := Lib.hid (fun x => (zero_of_info Try.infoIt17).2); have HIE := Lib.hid (fun e => esize e); have HIEL : Hid (∀ e : BE, (Try.prog.info? 54).map (·.size) = some (BEC e).toList.length) := Lib.hid (fun e => by rw [Array.length_toList]; exact esize e); have HON := Lib.hid (fun e => BEC_one e); have HOO := Lib.hid (fun x => opC_one x); have HZO : Hid (∀ x : Int × BE, (opC (0, BE.zero)).size = (opC x).size) := Lib.hid (fun x => rfl); have HSZ : Hid (∀ e : BE, (BEC BE.zero).size = (BEC e).size) := Lib.hid (fun e => by rw [BEC_size, BEC_size]); have hzo := (zero_of_info Try.infoIt17).1; have hzs := (zero_of_info Try.infoSnz).1; have hzr := (zero_of_info Try.infoSlE).1; have hz := (zero_of_info Try.infoEnt).1; have HIR : Hid ((Try.prog.info? 55).map (fun i => (i.zero, i.size, i.bytes)) = some (some (.agg (BEC BE.zero)), 6, 48)) := Lib.hid (by kernel_rfl); have HST := Lib.hid (fun (W : World) (p le ll : Nat) (es : List BE) hM hW (k : Int) e hn => bset_any W p le ll n (nz g) g es hr hM hW k e hn); have t1 : decide (60 < (l.length : Int)) = false := decide_eq_false (by omega); obtain ⟨XZ, hXZ⟩ : ∃ XZ, SZ = XZ := ⟨_, rfl⟩; have HZS : Hid (∀ p, XZ.size = (SnC 1 epoch next p).size) := Lib.hid (fun p => by rw [← hXZ]; rfl); rw [hXZ] at HSI hzs; have hB0 : Below w.heap.size w ((w.alloc (.cells (GC g) 23)).alloc (.cells XZ 29)) := ((Below.refl _ _).alloc (Nat.le_refl _) _).alloc (by simp) _; obtain ⟨W0, hW0⟩ : ∃ W0, (w.alloc (.cells (GC g) 23)).alloc (.cells XZ 29) = W0 := ⟨_, rfl⟩; have hG0 : W0.heap[w.heap.size]? = some (.cells (GC g) 23 (0, 0)) := by rw [← hW0, alloc_old _ _ (by simp)]; exact alloc_new _ _ rfl
  have hZ0 : W0.heap[w.heap.size + 1]? = some (.cells XZ 29 (0, 0)) := by rw [← hW0]; exact alloc_new _ _ (by simp)
  rw [hW0] at hB0; have HW0 := Lib.hid hW0; have z0 : w.heap.size + 1 < W0.heap.size := (Array.getElem?_eq_some_iff.1 hZ0).1; have HZ0 := Lib.hid hZ0; have HG0 := Lib.hid hG0; clear hI hs hr hgt hW0 hZ0 hXZ hbn; obtain ⟨GX, hGX⟩ : ∃ GX, GC g = GX := ⟨_, rfl⟩; rw [hGX] at HN HGI hG0 HG0 HW0 ⊢; clear hGX; refine calls_of_marks Try.func10 rfl ?_; simp only [Try.ntmps10, List.size_toArray, List.length_cons, List.length_nil, Nat.reduceAdd, Nat.reduceSub, Array.replicate_succ, Array.replicate_zero, List.push_toArray, List.append_toArray, List.nil_append, List.cons_append]; go_upto_region 1 with (fail); rw [show (w.alloc (.cells GX 23)).alloc (.cells XZ 29) = W0 from HW0.out]; go_wp2_with (refine wpList_row_on (by rfl) 23 _ rfl w.heap.size rfl 23 _ _ _ hG0 Try.underlying23 rfl HGI.out ?_); refine (HN.out _).mono ?_; rintro e1 w1 ⟨p, le, ll, rfl, hbm1, q1, q2, q3, hB1⟩; have HBM1 := Lib.hid hbm1; have hlt1 := hbm1.lt; have z1 := hB1.size; have HG1 := Lib.hid ((hB1.block w.heap.size (by omega)).trans HG0.out); have HZ1 := Lib.hid ((hB1.block (w.heap.size + 1) (by omega)).trans HZ0.out); have HB1 := Lib.hid (hB0.trans (hB1.mono hB0.size)); clear hG0 hB0 hbm1 hB1; go_wp2; clear t1; go_loopw [38] (fun u wr => ∃ (k : Nat) (es : List BE), k ≤ l.length ∧ u = .int .i64 k ∧ es = Rl.setAll g (List.replicate n BE.zero) (l.take k) ∧ MapOk g es ∧ BmIs wr p le ll n (nz g) g es (liveL (nz g) es) ∧ Only [le, ll] w1 wr) (fun u _ => l.length - (intOf u).toNat)
  case atStart => exact ⟨0, _, Nat.zero_le _, rfl, rfl, HM0.out, HBM1.out, Only.refl _ _⟩
  case round =>
    obtain ⟨k, es, hk, rfl, hes, hM, hbm, hO⟩ := hrel; have HES := Lib.hid hes; have HM := Lib.hid hM; have HBM := Lib.hid hbm; have HO := Lib.hid hO; have zr := hO.size; clear hes hM hbm hO; by_cases hlt : k < l.length
    · obtain ⟨x, hx⟩ : ∃ x, l[k]? = some x := ⟨_, List.getElem?_eq_getElem hlt⟩; obtain ⟨b, o, rfl, hbl, -, h64⟩ := HI.out.at hx; have hrow : RowOf wr 7 opC Op64 (some ⟨b, o, none⟩) l := (HI.out.below HB1.out).only HO.out (fun y hy => by cases hy; simp; omega); have hrg := Rl2.rowOf_range hrow (fun _ _ => rfl) hx; have HTK : Hid (setEs g es x.1 x.2 = Rl.setAll g (List.replicate n BE.zero) (l.take (k + 1))) := Lib.hid (by rw [Rl.setAll_take hx, ← HES.out]); have HMN := Lib.hid (setEs_ok HM.out h64.2 x.1); obtain ⟨blk, e⟩ := x; have HEW := Lib.hid h64.2; have hil := HIL.out (blk, e); have hic := HII.out (blk, e); have hoc := HOO.out (blk, e); have hzc := HZO.out (blk, e); obtain ⟨XL, hXL⟩ : ∃ XL, (opC (blk, e)).toList = XL := ⟨_, rfl⟩; have hXC : opC (blk, e) = XL.toArray := by rw [← hXL]
      rw [hXL] at hrg hil; rw [hXC] at hic hoc hzc; have HGX := Lib.hid hrg; have HIX := Lib.hid hil; have HIC := Lib.hid hic; have HOC := Lib.hid hoc; have HZC := Lib.hid hzc; obtain ⟨W2, hW2⟩ : ∃ W2, wr.alloc (.cells XL.toArray 87) = W2 := ⟨_, rfl⟩; have hb2 : Below wr.heap.size wr W2 := by rw [← hW2]; exact (Below.refl _ _).alloc (Nat.le_refl _) _
      have hX2 : W2.heap[wr.heap.size]? = some (.cells XL.toArray 87 (0, 0)) := by rw [← hW2]; exact heap_alloc_new wr _
      have c0 : W2.cell? ⟨wr.heap.size, 0, none⟩ = some (.int .i64 blk) := by rw [cell_of_row _ _ _ _ _ _ hX2, ← hXC]; rfl
      have hre : W2.rangeAt wr.heap.size 1 (BEC e).toList := by
        intro j v hv; have hj : j < 6 := by have := (List.getElem?_eq_some_iff.1 hv).1; rwa [Array.length_toList, BEC_size] at this
        rw [cell_of_row _ _ _ _ _ _ hX2, ← hXC, ← hv]
        match j, hj with
        | 0, _ => rfl
        | 1, _ => rfl
        | 2, _ => rfl
        | 3, _ => rfl
        | 4, _ => rfl
        | 5, _ => rfl
      have hiel := HIEL.out e; obtain ⟨EL, hEL⟩ : ∃ EL, (BEC e).toList = EL := ⟨_, rfl⟩; have hEC : BEC e = EL.toArray := by rw [← hEL]
      have HSE := Lib.hid (HST.out W2 p le ll es HM.out (HBM.out.below hb2) blk e HEW.out); rw [hEL] at hre hiel; rw [hEC] at HSE; have HRE := Lib.hid hre; have HIEL' := Lib.hid hiel; have HO2 := Lib.hid (HO.out.trans (Only.of_below (S := [le, ll]) hb2)); have HW2 := Lib.hid hW2; clear hx h64 hrow hrg hil hic hoc hzc hXL hXC hb2 hW2 hX2 hre hiel hEL hEC; go_upto_region 7 with (first | (refine wpList_load_mid rfl 87 _ rfl b (o + k * 7) rfl XL _ HGX.out Try.underlying87 rfl HIX.out ?_) | (refine wpList_store_row rfl 87 _ _ rfl wr.heap.size XL.toArray rfl rfl 87 (opC (0, BE.zero)) (heap_alloc_new wr _) HIC.out HZC.out HOC.out ?_; rw [World.setRow_alloc_new])); rw [HW2.out]; go_wp2_with (refine wpList_load_mid rfl 54 _ rfl wr.heap.size 1 rfl EL _ HRE.out Try.underlying54 rfl HIEL'.out ?_); refine HSE.out.mono ?_; rintro e3 w3 ⟨rfl, hbm3, hO3⟩; have HBM3 := Lib.hid hbm3; have HO3 := Lib.hid (HO2.out.trans hO3); clear hbm3 hO3 c0; go_wp2; go_roundw
      case rel => exact ⟨k + 1, _, by omega, by go_num, HTK.out, HMN.out, HBM3.out, HO3.out⟩
      case measure => simp [intOf]; omega
    · obtain rfl : k = l.length := by omega
      have HEF : Hid (es = Rl.setAll g (List.replicate n BE.zero) l) := Lib.hid (by have := HES.out; rwa [List.take_of_length_le (Nat.le_refl _)] at this); have hGr := HO.out.get HG1.out (by simp; omega); have HZr := Lib.hid (HO.out.get HZ1.out (by simp; omega)); have HBr := Lib.hid (HB1.out.trans (HO.out.below (B := w.heap.size) (by simp; omega) HB1.out.size)); have hel : es.length = n := by have h1 := HM.out.len; have h2 := HM0.out.len; rw [List.length_replicate] at h2; omega
      obtain ⟨sb, hsb⟩ : ∃ sb, wr.heap.size = sb := ⟨_, rfl⟩; obtain ⟨W2, hW2⟩ : ∃ W2, wr.alloc (.cells #[.slice none 0 0] 30) = W2 := ⟨_, rfl⟩; have hb2 : Below wr.heap.size wr W2 := by rw [← hW2]; exact (Below.refl _ _).alloc (Nat.le_refl _) _
      have hS2 : W2.heap[sb]? = some (.cells #[.slice none 0 0] 30 (0, 0)) := by rw [← hW2, ← hsb]; exact heap_alloc_new wr _
      have HS2 := Lib.hid hS2; have HZ2 := Lib.hid ((hb2.block (w.heap.size + 1) (by omega)).trans HZr.out); have HBM2 := Lib.hid (HBM.out.below hb2); have HB2 := Lib.hid (HBr.out.trans (hb2.mono HBr.out.size)); have z2 : sb < W2.heap.size := (Array.getElem?_eq_some_iff.1 hS2).1; have HW2 := Lib.hid hW2; have HSB := Lib.hid hsb; have zsb : w1.heap.size ≤ sb := by omega
      clear hb2 hW2 hS2 hsb; go_upto_region 10 with (fail); rw [HW2.out, HSB.out]; have HAL := Lib.hid (ball_any W2 p _ _ _ HBM2.out.cells.1); rw [hel] at HAL; obtain ⟨W3, hW3⟩ : ∃ W3, W2.alloc (.cells #[.slice (some ⟨le, 0, none⟩) n n] 115) = W3 := ⟨_, rfl⟩; have hb3 : Below W2.heap.size W2 W3 := by rw [← hW3]; exact (Below.refl _ _).alloc (Nat.le_refl _) _
      have hsl : W3.heap[W2.heap.size]? = some (.cells #[.slice (some ⟨le, 0, none⟩) n n] 115 (0, 0)) := by rw [← hW3]; exact heap_alloc_new W2 _
      have hbm3 := HBM2.out.below hb3; have hlt3 := hbm3.lt; have HSTP : Hid _ := Lib.hid (eallK_stops 7 (by omega) W2.heap.size le (some ⟨le, 0, none⟩) n es W3 (by rw [hel]; exact cell_of_one hsl) hbm3.rows (fun x e => by cases e; rfl) hlt3.2.1 (by omega)); have HBM3 := Lib.hid hbm3; have HS3 := Lib.hid ((hb3.block sb z2).trans HS2.out); have HZ3 := Lib.hid ((hb3.block (w.heap.size + 1) (by omega)).trans HZ2.out); have HB3 := Lib.hid (HB2.out.trans (hb3.mono HB2.out.size)); have z3 : W2.heap.size < W3.heap.size := (Array.getElem?_eq_some_iff.1 hsl).1; have HW3 := Lib.hid hW3; clear hb3 hsl hbm3 hW3 hGr; go_wp2_with fail; refine HAL.out.mono ?_; rintro e4 w4 ⟨rfl, rfl⟩; rw [HW3.out]; go_wp2; refine (wpIn_wide (n := 8)).1 (wpIn_rangeK2 (encs := ieV) rfl (by omega) (gf := 57) (lb := #[.pointer (some ⟨W2.heap.size, 0, none⟩)]) rfl trivial (enters_of Try.func57 (by kernel_rfl) rfl)
        HSTP.out (Below.refl _ _) (fun _ => rfl) (by simp; omega)
        (fun pre W => ∃ v, W.heap[sb]? = some (.cells #[v] 30 (0, 0)) ∧ OwnM W 55 6 BEC (fun _ => True) W3.heap.size v (pre.map (·.1)) ∧ Only [sb] W3 W)
        (fun cx pre W => False)
        (fun pre A W h ht => by obtain ⟨v, h1, h2, h3⟩ := h; exact ⟨v, ht.block sb _ h1 (by simp) (.inr rfl), h2.turn ht, (AbT.only (β := Unit) (C := []) (S := [sb]) (w₀ := W3) (Nat.le_refl _) (by simp)) () A W h3 ht⟩)
        (fun cx pre A W h _ => h) ⟨.slice none 0 0, HS3.out, OwnM.nil _ _ _ _ _ _, Only.refl _ _⟩
        ?fr (fun x Be W' => W'.heap[Be]? = some (.cells (BEC x.1) 54 (0, 0))) (fun x Be => AbT.row (fun _ => BEC x.1) (by simp)) ?assign ?body ?done ?stop)
      case assign =>
        intro rr pre x W4 K _ hI hK; have HK4 := Lib.hid hK; clear hK; unfold ieV; gi_wp2_with (refine wpListIn_store_row (by rfl) 54 _ _ rfl W4.heap.size (BEC x.1) rfl rfl 54 (BEC BE.zero) (heap_alloc_new W4 _) (HIE.out _) (HSZ.out _) (HON.out _) ?_; rw [World.setRow_alloc_new]); obtain ⟨Be, hBe⟩ : ∃ Be, W4.heap.size = Be := ⟨_, rfl⟩; have hn := heap_alloc_new W4 (.cells (BEC x.1) 54); rw [hBe] at hn ⊢; exact HK4.out Be _ ((Only.refl _ _).alloc _) hn
      case body =>
        rintro rr pre x Be W4 _ hrr ⟨v, hS, hown, hO⟩ hE hlen hsp; obtain ⟨av, cv, rfl, hrv, -, hc1, hc2, hxv⟩ := hown.shape kinR; have c9 : W4.cell? ⟨sb, 0, none⟩ = some (.slice av (pre.map (·.1)).length cv) := (cell_of_row _ _ _ _ _ _ hS).trans rfl; have f9 := frozen_of_row _ sb 0 _ _ hS; have zO := hO.size; have hle : le < W4.heap.size := by omega
        have hpl : pre.length + 1 ≤ 300 := by omega
        have HOWN := Lib.hid hown; have HS := Lib.hid hS; have HO := Lib.hid hO; have HE := Lib.hid hE; have HXV := Lib.hid hxv; obtain ⟨W5, hW5⟩ : ∃ W5, W4.alloc (.cells (BEC x.1) 55) = W5 := ⟨_, rfl⟩; have hb5 : Below W4.heap.size W4 W5 := by rw [← hW5]; exact (Below.refl _ _).alloc (Nat.le_refl _) _
        have hX5 : W5.heap[W4.heap.size]? = some (.cells (BEC x.1) 55 (0, 0)) := by rw [← hW5]; exact heap_alloc_new W4 _
        have HROW : Hid (RowOf W5 6 BEC (fun _ => True) (some ⟨W4.heap.size, 0, none⟩) [x.1]) := Lib.hid (one_rowOf hX5 trivial); have HOWN5 := Lib.hid (HOWN.out.below hb5); have hS5 := (hb5.block sb (by omega)).trans HS.out; have HS5 := Lib.hid hS5; have HB5 := Lib.hid hb5; have HW5 := Lib.hid hW5; have z5 := hb5.size; have hbase : W3.heap.size ≤ W5.heap.size := by omega
        obtain ⟨L0, hL0⟩ : ∃ L0, pre.map (·.1) = L0 := ⟨_, rfl⟩; have hl0 : L0.length + [x.1].length ≤ 300 := by rw [← hL0]; simpa using hpl
        have HL0 := Lib.hid hL0; rw [hL0] at HOWN HOWN5 HXV c9 HS5; have HLN := Lib.hid hl0; clear hS hO hE hxv hown hrv hc1 hlen hsp hrr hb5 hX5 hW5 hS5 hl0 hpl hL0; gi_wp2_with (first | (refine wpListIn_row_on (by rfl) 54 _ rfl Be rfl 54 _ _ _ HE.out Try.underlying54 rfl (HIE.out _) ?_) | (refine wpListIn_slice1e rfl (.tmp 54) rfl x.1 rfl ?_; rw [HW5.out]) | (refine wpListIn_appendM rfl (.tmp 53) (.tmp 55) 30 rfl 55 6 BEC (fun _ => True) kinR (by decide) (.agg (BEC BE.zero)) 48 Try.underlying30 HIR.out rfl W3.heap.size (.slice av L0.length cv) L0 rfl HOWN5.out ⟨W4.heap.size, 0, none⟩ 1 [x.1] rfl HROW.out (by have := HLN.out; unfold maxLen; omega) (by have := HLN.out; omega) hbase ?_; intro v6 w6 hv6 hg6 hat6; obtain ⟨a6, c6, rfl, hr6, -, hd1, hd2, hx6⟩ := hv6.shape kinR; have HV6 := Lib.hid hv6; have HG6 := Lib.hid hg6; have HAT6 := Lib.hid hat6; have hs6 := HOWN5.out.grown hg6 hbase; have hS6 := (hs6.block sb (by omega)).trans HS5.out; have HS6 := Lib.hid hS6; have HB6 := Lib.hid hs6; have c6' : w6.cell? ⟨sb, 0, none⟩ = some (.slice av L0.length cv) := (cell_of_row _ _ _ _ _ _ hS6).trans rfl; have f6' := frozen_of_row _ sb 0 _ _ hS6; clear hv6 hg6 hat6 hs6 hS6 hr6 hd1 hx6))
        have hown6 : (.slice av L0.length cv : Value).ownBlock = none ∨ ∃ k, (.slice av L0.length cv : Value).ownBlock = some k ∧ W3.heap.size ≤ k ∧ ∃ C, W5.heap[k]? = some (.cells C 55 (0, 0)) := by
          cases hk : (.slice av L0.length cv : Value).ownBlock with
          | none => exact .inl rfl
          | some k =>
            obtain ⟨k1, k2⟩ := HOWN5.out.base_le hk; exact .inr ⟨k, rfl, k1, k2⟩
        have hOx : Only [sb] W3 w6 := (HO.out.trans (Only.of_below (S := [sb]) HB5.out)).grown HG6.out (fun k hk => by
          rcases hown6 with h | ⟨j, h, h1, -⟩
          · rw [h] at hk; cases hk
          · rw [h] at hk; cases hk; exact .inr h1)
        have hKx : Keeps [le] W4 w6 := (Keeps.of_below HB5.out (by simp; omega)).grown HG6.out (by simp; omega) (fun k hk => by
          rcases hown6 with h | ⟨j, h, h1, C, h2⟩
          · rw [h] at hk; cases hk
          · rw [h] at hk; cases hk; refine ⟨by simp; omega, fun o ho => ?_⟩
            rw [h2] at ho; cases ho; rfl)
        have hsets : (w6.setCell ⟨sb, 0, none⟩ (.slice a6 (L0.length + 1) c6)).heap[sb]? = some (.cells #[.slice a6 (L0.length + 1) c6] 30 (0, 0)) := heap_setCell_same w6 sb 0 _ _ _ HS6.out; have hOs : Only [sb] w6 (w6.setCell ⟨sb, 0, none⟩ (.slice a6 (L0.length + 1) c6)) := (Only.refl _ _).setCell (.inl (by simp)) _; refine ⟨hKx.setCell (by simp; omega) _, .slice a6 (L0.length + 1) c6, hsets, ?_, hOx.setCell (.inl (by simp)) _⟩; have hv := HV6.out; rw [List.length_append] at hv; have h3 := hv.only hOs (fun k hk => by have := (hv.base_le hk).1; simp; omega); rw [List.map_append, HL0.out]; exact h3
      case done =>
        rintro D ys W4 hD rfl ⟨v, hS, hown, hO⟩ hKD; rw [zip_fst'] at hown; have HOWN := Lib.hid hown; have HS := Lib.hid hS; have HZ4 := Lib.hid (hO.get HZ3.out (by simp; omega)); have hlt := HBM3.out.lt; have HBM4 := Lib.hid (HBM3.out.only hO (by simp; omega) (by simp; omega) (by simp; omega)); have HB4 := Lib.hid (HB3.out.trans (hO.below (B := w.heap.size) (by simp; omega) HB3.out.size)); have HKD := Lib.hid hKD; have zO := hO.size; have zD : D < W4.heap.size := (Array.getElem?_eq_some_iff.1 hKD).1; obtain ⟨av, cv, rfl, -, -, -, -, -⟩ := hown.shape kinR; have HBS := Lib.hid (built_snm 1 epoch next p); have HIS : Hid ((Try.prog.info? 29).map (·.size) = some (SnC 1 epoch next p).size) := Lib.hid (snsize _ _ _ _); have HSO : Hid ((SnC 1 epoch next p).all (·.oneCell') = true) := Lib.hid (by simp [SnC, Value.oneCell']); have HZS2 := Lib.hid (HZS.out p)
        have HRRX : Hid (∀ W, Only [w.heap.size + 1] W4 W → Calls Try.prog 26 #[.agg (SnC 1 epoch next p)] W fun e w' => e = .returned (.bool RB) ∧ Below W.heap.size W w') := Lib.hid (fun W hW => by
          have := sright_any W p le ll n (nz g) g es _ (HBM4.out.only hW (by simp; omega) (by simp; omega) (by simp; omega)) (by omega) 1 epoch next; rw [← HRB.out, HMD.out, ← HEF.out]; exact this)
        have HFIN : Hid (∀ (W : World) (S1 : Array Value), Only [w.heap.size + 1, D] W4 W → S1 = SnC 1 epoch next p → ∃ p le ll v, (Value.tuple #[.agg S1, .slice av es.length cv, .bool RB]) = .tuple #[.agg (SnC 1 epoch next p), v, .bool RB] ∧ BmIs W p le ll n (nz g) g (Rl.madeEs g l) (liveL (nz g) (Rl.madeEs g l)) ∧ MapOk g (Rl.madeEs g l) ∧ OwnM W 55 6 BEC (fun _ => True) w.heap.size v (Rl.madeEs g l) ∧ (w.heap.size ≤ p ∧ w.heap.size ≤ le ∧ w.heap.size ≤ ll) ∧ Below w.heap.size w W) := Lib.hid (by
          rintro W S1 hOW rfl; have hx := HOWN.out.only hOW (fun k hk => by have := (HOWN.out.base_le hk); have h1 := this.1; obtain ⟨C, hC⟩ := this.2; simp; refine ⟨by omega, fun e => ?_⟩; subst e; rw [HKD.out] at hC; cases hC); refine ⟨p, le, ll, _, rfl, ?_, ?_, ?_, ⟨by omega, by omega, by omega⟩, ?_⟩
          · rw [HMD.out, ← HEF.out]; exact HBM4.out.only hOW (by simp; omega) (by simp; omega) (by simp; omega)
          · rw [HMD.out, ← HEF.out]; exact HM.out
          · rw [HMD.out, ← HEF.out]; exact hx.mono (by omega)
          · exact HB4.out.trans (hOW.below (B := w.heap.size) (by simp; omega) HB4.out.size))
        obtain ⟨XS, hXS⟩ : ∃ XS, SnC 1 epoch next p = XS := ⟨_, rfl⟩; rw [hXS] at HBS HIS HSO HZS2 HFIN HRRX; obtain ⟨W5, hW5⟩ : ∃ W, W4.alloc (.cells XS 29) = W := ⟨_, rfl⟩; have hb5 : Below W4.heap.size W4 W5 := by rw [← hW5]; exact (Below.refl _ _).alloc (Nat.le_refl _) _
        have hX5 : W5.heap[W4.heap.size]? = some (.cells XS 29 (0, 0)) := by rw [← hW5]; exact heap_alloc_new W4 _
        have HX5 := Lib.hid hX5; have HO5 : Hid (∀ W, Only [w.heap.size + 1] W5 W → Only [w.heap.size + 1] W4 W) := Lib.hid (fun W h => (Only.of_below (S := [w.heap.size + 1]) hb5).trans h); have HS5 := Lib.hid ((hb5.block sb (by omega)).trans HS.out); have HZ5 := Lib.hid ((hb5.block (w.heap.size + 1) (by omega)).trans HZ4.out); have HKD5 := Lib.hid ((hb5.block D zD).trans HKD.out); have zX5 : W4.heap.size < W5.heap.size := (Array.getElem?_eq_some_iff.1 hX5).1; have HW5 := Lib.hid hW5; clear hS hown hO hKD hXS hW5 hb5 hX5 hel; go_upto_region 14 with (first | (refine wpList_build_on (by rfl) 29 _ rfl #[(0, .int .i64 1), (1, .int .i64 epoch), (2, .int .i64 next), (3, .pointer (some ⟨p, 0, none⟩))] (by simp [Act.eval, Act.put]) XS HBS.out ?_) | (refine wpList_store_row rfl 29 _ _ rfl W4.heap.size XS rfl rfl 29 XZ (heap_alloc_new W4 _) HIS.out HZS2.out HSO.out ?_; rw [World.setRow_alloc_new])); rw [HW5.out, put_none]; obtain ⟨F, hF⟩ : ∃ F, W4.heap.size = F := ⟨_, rfl⟩; rw [hF] at HX5 zX5 zD zO ⊢; clear hF; refine wp_region_stage 6 [.agg XS, .slice av es.length cv, .agg XS, .bool RB, undef, .slice av es.length cv] [4] [0, 0, 0, 0, 1, 1] (fun s W => W.heap[w.heap.size + 1]? = some (.cells (if s = 0 then XZ else XS) 29 (0, 0)) ∧ Only [w.heap.size + 1] W5 W) ?rdA (by kernel_rfl) (by kernel_rfl) (by kernel_rfl) ?rdhA ?rdh0 ?rdhb ?rdho ?rdhend
        case rdhA =>
          intro vv; simp only [putRules, Nat.reduceAdd]; rfl
        case rdh0 =>
          exact ⟨by rw [if_pos rfl]; exact HZ5.out, (Only.refl _ _).drew⟩
        case rdhb =>
          intro s W W' hI hB; exact ⟨(hB.block _ (Array.getElem?_eq_some_iff.1 hI.1).1).trans hI.1, hI.2.trans (Only.of_below hB)⟩
        case rdho =>
          refine ⟨?_, ?_, ?_, ?_, ?_, ?_, trivial⟩
          · intro vv W K s hlo hI hd HK; simp only [conf5Rules] at HK; clear hd; have hT := hI.2.get HX5.out (by simp; omega); go_wp2_with (refine wpList_load_row rfl 29 _ rfl F rfl 29 _ _ _ hT Try.underlying29 rfl HIS.out ?_); refine HK.out _ _ (Below.refl _ _) ?_; rfl
          · intro vv W K s hlo hI hd HK; simp only [conf5Rules] at HK; clear hd; have hT := hI.2.get HS5.out (by simp; omega); have cT : W.cell? ⟨sb, 0, none⟩ = some (.slice av es.length cv) := (cell_of_row _ _ _ _ _ _ hT).trans rfl; go_wp2; refine HK.out _ _ (Below.refl _ _) ?_; rfl
          · intro vv W K s hlo hI hd HK; simp only [conf5Rules] at HK; clear hd; have hT := hI.2.get HX5.out (by simp; omega); go_wp2_with (refine wpList_load_row rfl 29 _ rfl F rfl 29 _ _ _ hT Try.underlying29 rfl HIS.out ?_); refine HK.out _ _ (Below.refl _ _) ?_; rfl
          · intro vv W K s hlo hI hd HK; simp only [confRules, conf5Rules] at hd HK; have h2 := hd; clear hd; simp only [h2] at HK ⊢; clear h2; go_wp2_with (refine (HRRX.out _ (HO5.out _ hI.2)).mono ?_; rintro e w9 ⟨rfl, hB9⟩); refine HK.out _ _ hB9 ?_; rfl
          · intro vv W K hI hd HK; simp only [confRules, conf5Rules, cond7] at hd HK; obtain ⟨h0, h3, _⟩ := hd; simp only [h0, h3] at HK ⊢; clear h0 h3; have hT := hI.1; simp only [if_true] at hT; go_wp2_with (refine wpList_store_row rfl 29 _ _ rfl (w.heap.size + 1) XS rfl rfl 29 XZ hT HIS.out HZS2.out HSO.out ?_); have hs := only_setRow W (w.heap.size + 1) XS; refine HK.out undef _ ⟨by simpa using setRow_heap W (w.heap.size + 1) XZ XS _ _ hT, hI.2.trans hs⟩ ?_; rfl
          · intro vv W K s hlo hI hd HK; simp only [confRules, conf5Rules, cond7] at hd HK; obtain ⟨h1, h4, h0, _, _⟩ := hd; simp only [h1, h4, h0] at HK ⊢; clear h1 h4 h0; go_wp2; refine HK.out _ _ (Below.refl _ _) ?_; rfl
        case rdhend =>
          intro vv W hI hf; have e3 := hf 3 (by decide); have e5 := hf 5 (by decide); simp only [conf5Rules] at e3 e5; simp only [e3, e5, dropRules]; clear hf e3 e5; have hz1 := hI.1; simp at hz1; have hOW := hI.2; have HR1' := Lib.hid hz1; have HKW := Lib.hid (hOW.get HKD5.out (by simp; omega)); have HOW := Lib.hid (HO5.out _ hOW); clear hI hz1 hOW; go_wp2; refine leave_marks (v := .tuple #[.agg XS, .slice av es.length cv, .bool RB]) [D] _ (by simp) (by simpa using HKW.out) ?_; intro W' hO'; have r1 := hO'.get HR1'.out (by simp; omega); refine ⟨rres_ct17 (fn := Try.f10) (p := 8) (q0 := 9) (q1 := 10) rfl _ _ (w.heap.size + 1) 29 XS _ _ rfl r1 Try.underlying29 rfl HIS.out, ?_⟩; obtain ⟨p', le', ll', v', h1, h2⟩ := HFIN.out W' XS ((HOW.out.mono (T := [w.heap.size + 1, D]) (by simp)).trans (hO'.mono (T := [w.heap.size + 1, D]) (by simp))) rfl; exact ⟨p', le', ll', v', by rw [h1], h2⟩
      case stop => exact fun D cx pre W4 hD hsp h => h.elim
set_option maxRecDepth 100000 in
set_option maxHeartbeats 4000000 in
theorem made17_no (g : Geo.G) (a : Option Addr) (l : List (Int × BE)) (cp : Nat) (epoch next : Int) (w : World) (hno : Geo.right g = false ∨ (Geo.right g = true ∧ 60 < l.length)) :
    Calls Try.prog 10 #[.agg (GC g), .slice a l.length cp, .int .i64 epoch, .int .i64 next] w fun e w' => e = .returned (.tuple #[.agg SZ, .slice none 0 0, .bool false]) ∧ Below w.heap.size w w' := by
  have HGI := Lib.hid (gsize (g := g)); have HSI : Hid ((Try.prog.info? 29).map (·.size) = some SZ.size) := Lib.hid (zero_of_info Try.infoSnz).2; have HBZ := Lib.hid built_snz; have HS1 : Hid (SZ.all (·.oneCell') = true) := Lib.hid (by simp [SZ, Value.oneCell']); have HNN := Lib.hid (fun W (h : Geo.right g = false) => bnew_no g h W); have HNY := Lib.hid (fun W (h : Geo.right g = true) => bnew_any g h W); have hzs := (zero_of_info Try.infoSnz).1; obtain ⟨XZ, hXZ⟩ : ∃ XZ, SZ = XZ := ⟨_, rfl⟩; rw [hXZ] at HSI HBZ HS1 hzs ⊢; clear hXZ; have hB0 : Below w.heap.size w ((w.alloc (.cells (GC g) 23)).alloc (.cells XZ 29)) := ((Below.refl _ _).alloc (Nat.le_refl _) _).alloc (by simp) _; obtain ⟨W0, hW0⟩ : ∃ W0, (w.alloc (.cells (GC g) 23)).alloc (.cells XZ 29) = W0 := ⟨_, rfl⟩; have hG0 : W0.heap[w.heap.size]? = some (.cells (GC g) 23 (0, 0)) := by rw [← hW0, alloc_old _ _ (by simp)]; exact alloc_new _ _ rfl
  have hZ0 : W0.heap[w.heap.size + 1]? = some (.cells XZ 29 (0, 0)) := by rw [← hW0]; exact alloc_new _ _ (by simp)
  rw [hW0] at hB0; have HW0 := Lib.hid hW0; have z0 : w.heap.size + 1 < W0.heap.size := (Array.getElem?_eq_some_iff.1 hZ0).1; have HZ0 := Lib.hid hZ0; have HB0 := Lib.hid hB0; clear hB0 hW0 hZ0; obtain ⟨GX, hGX⟩ : ∃ GX, GC g = GX := ⟨_, rfl⟩; rw [hGX] at HGI hG0 HW0 HNN HNY ⊢; clear hGX; go_enter Try.func10, Try.ntmps10; go_upto_region 1 with (fail); rw [show (w.alloc (.cells GX 23)).alloc (.cells XZ 29) = W0 from HW0.out]; rcases hno with hr | ⟨hr, hl⟩
  · have HN := Lib.hid (HNN.out W0 hr); clear hr; go_wp2_with (refine wpList_row_on (by rfl) 23 _ rfl w.heap.size rfl 23 _ _ _ hG0 Try.underlying23 rfl HGI.out ?_); refine HN.out.mono ?_; rintro e1 w1 ⟨rfl, hB1⟩; have hz := (hB1.block (w.heap.size + 1) z0).trans HZ0.out; have HB1 := Lib.hid (HB0.out.trans (hB1.mono HB0.out.size)); clear hG0 hB1; go_upto_region 3 with (fail); go_wp2_with (first | (refine wpList_build_on (by rfl) 29 _ rfl #[] (by simp) XZ HBZ.out ?_) | (refine wpList_store_row rfl 29 _ _ rfl (w.heap.size + 1) XZ rfl rfl 29 XZ hz HSI.out rfl HS1.out ?_)); have r1 := setRow_heap w1 (w.heap.size + 1) XZ XZ _ _ hz; refine bodyPost_ret (rres_ct17 (fn := Try.f10) (p := 8) (q0 := 9) (q1 := 10) rfl _ _ (w.heap.size + 1) 29 XZ _ _ rfl r1 Try.underlying29 rfl HSI.out) rfl ?_; exact ⟨rfl, below_setRow HB1.out (by omega) _⟩
  · have HN := Lib.hid (HNY.out W0 hr); have t1 : decide (60 < (l.length : Int)) = true := decide_eq_true (by omega); clear hr hl; go_wp2_with (refine wpList_row_on (by rfl) 23 _ rfl w.heap.size rfl 23 _ _ _ hG0 Try.underlying23 rfl HGI.out ?_); refine HN.out.mono ?_; rintro e1 w1 ⟨p, le, ll, rfl, -, -, -, -, hB1⟩; have hz := (hB1.block (w.heap.size + 1) z0).trans HZ0.out; have HB1 := Lib.hid (HB0.out.trans (hB1.mono HB0.out.size)); clear hG0 hB1; go_upto_region 3 with (fail); go_wp2_with (first | (refine wpList_build_on (by rfl) 29 _ rfl #[] (by simp) XZ HBZ.out ?_) | (refine wpList_store_row rfl 29 _ _ rfl (w.heap.size + 1) XZ rfl rfl 29 XZ hz HSI.out rfl HS1.out ?_)); have r1 := setRow_heap w1 (w.heap.size + 1) XZ XZ _ _ hz; refine bodyPost_ret (rres_ct17 (fn := Try.f10) (p := 8) (q0 := 9) (q1 := 10) rfl _ _ (w.heap.size + 1) 29 XZ _ _ rfl r1 Try.underlying29 rfl HSI.out) rfl ?_; exact ⟨rfl, below_setRow HB1.out (by omega) _⟩
/-- what 'made' tells, whatever its arguments -/
def MadePost17 (w : World) (g : Geo.G) (l : List (Int × BE)) (epoch next : Int) (e : Ending) (w' : World) : Prop :=
  ∃ (S1 : Array Value) (v : Value) (ok : Bool), e = .returned (.tuple #[.agg S1, v, .bool ok]) ∧ ((Try.prog.info? 29).map (·.size) = some S1.size ∧ S1.all (·.oneCell') = true ∧ SZ.size = S1.size) ∧ Below w.heap.size w w' ∧
    ((ok = false ∧ S1 = SZ ∧ v = .slice none 0 0) ∨ (ok = Sn.right 1 epoch next (Rl.madeEs g l) ∧ Geo.right g = true ∧ ∃ p le ll, S1 = SnC 1 epoch next p ∧ BmIs w' p le ll g.b.toNat (nz g) g (Rl.madeEs g l) (liveL (nz g) (Rl.madeEs g l)) ∧ MapOk g (Rl.madeEs g l) ∧ OwnM w' 55 6 BEC (fun _ => True) w.heap.size v (Rl.madeEs g l) ∧ (w.heap.size ≤ p ∧ w.heap.size ≤ le ∧ w.heap.size ≤ ll)))
theorem made17_any (g : Geo.G) (a : Option Addr) (l : List (Int × BE)) (cp : Nat) (epoch next : Int) (w : World) (hI : RowOf w 7 opC Op64 a l) :
    Calls Try.prog 10 #[.agg (GC g), .slice a l.length cp, .int .i64 epoch, .int .i64 next] w (MadePost17 w g l epoch next) := by
  have hno : (Geo.right g = false ∨ (Geo.right g = true ∧ 60 < l.length)) → Calls Try.prog 10 #[.agg (GC g), .slice a l.length cp, .int .i64 epoch, .int .i64 next] w (MadePost17 w g l epoch next) := fun h => by
    refine (made17_no g a l cp epoch next w h).mono ?_; rintro e w' ⟨rfl, hB⟩; exact ⟨SZ, _, false, rfl, ⟨(zero_of_info Try.infoSnz).2, by simp [SZ, Value.oneCell'], rfl⟩, hB, .inl ⟨rfl, rfl, rfl⟩⟩
  cases hr : Geo.right g
  · exact hno (.inl hr)
  · by_cases hl : l.length ≤ 60
    · have hb1 := ((Geo.right_iff g).1 hr).1.2.2.2.1.1; refine (made17_core g g.b.toNat (by omega) hr a l cp epoch next w hI hl).mono ?_; rintro e w' ⟨p, le, ll, v, rfl, hs, hm, ho, hb, hB⟩; exact ⟨_, _, _, rfl, ⟨snsize _ _ _ _, by simp [SnC, Value.oneCell'], rfl⟩, hB, .inr ⟨rfl, hr, p, le, ll, rfl, hs, hm, ho, hb⟩⟩
    · exact hno (.inr ⟨hr, by omega⟩)
end Go.Proofs.Ytoiephmngdecaaa
