/- Proved here: the walk of the law on plays of a map. -/
import Derived.Test.YteggijkcdlboeaaBmAnchor
import Derived.Test.YteggijkcdlboeaaBmSame
import Derived.Test.YteggijkcdlboeaaBmCopy
import Derived.Test.YteggijkcdlboeaaBmRef
import Derived.Test.YteggijkcdlboeaaGeoRefRight
import Derived.Test.YteggijkcdlboeaaBmOps2
import Derived.LoopTactic
import Derived.WalkLawsBesides
namespace Go.Proofs.Yteggijkcdlboeaa
open Go.RowKit Go.Rv
set_option linter.unusedVariables false
theorem Try.infoRG : (Try.prog.info? 26).map (fun i => (i.zero, i.size)) = some (some (.agg (GC ⟨0, 0, 0, 0, 0, 0⟩)), 6) := by kernel_rfl
theorem Try.infoOp : (Try.prog.info? 43).map (fun i => (i.zero, i.size)) = some (some (.agg (opC (0, BE.zero))), 7) := by kernel_rfl
theorem opsize (x : Int × BE) : (Try.prog.info? 43).map (·.size) = some (opC x).size := by rw [show (opC x).size = 7 from rfl]; exact (zero_of_info Try.infoOp).2
theorem op_cells {W : World} {b : Nat} {x : Int × BE} {t : TypeId} (h : W.heap[b]? = some (.cells (opC x) t (0, 0))) : W.cell? ⟨b, 0, none⟩ = some (.int .i64 x.1) ∧ W.cell? ⟨b, 1, none⟩ = some (.int .i64 x.2.st) ∧ W.cell? ⟨b, 2, none⟩ = some (.int .i64 x.2.z) ∧ W.cell? ⟨b, 3, none⟩ = some (.int .i64 x.2.m) ∧ W.cell? ⟨b, 4, none⟩ = some (.int .i64 x.2.o) ∧ W.cell? ⟨b, 5, none⟩ = some (.int .i64 x.2.q) ∧ W.cell? ⟨b, 6, none⟩ = some (.int .i64 x.2.s) :=
  ⟨(cell_of_row _ _ _ _ _ _ h).trans rfl, (cell_of_row _ _ _ _ _ _ h).trans rfl, (cell_of_row _ _ _ _ _ _ h).trans rfl, (cell_of_row _ _ _ _ _ _ h).trans rfl, (cell_of_row _ _ _ _ _ _ h).trans rfl, (cell_of_row _ _ _ _ _ _ h).trans rfl, (cell_of_row _ _ _ _ _ _ h).trans rfl⟩
/-- a row of the document's entries -/
def LRow (w : World) (lb : Nat) (es : List BE) : Prop := w.heap[lb]? = some (.cells (flatE es).toArray 53 (0, 0))
theorem LRow.only {S : List Nat} {w w' : World} {lb : Nat} {es : List BE} (h : LRow w lb es) (hO : Only S w w') (hl : lb ∉ S) : LRow w' lb es := hO.get h hl
theorem LRow.rows {w : World} {lb : Nat} {es : List BE} (h : LRow w lb es) : RowOf w 6 BEC (fun _ => True) (some ⟨lb, 0, none⟩) es :=
  .inr ⟨lb, 0, rfl, (Array.getElem?_eq_some_iff.1 h).1, fun k x hk => ⟨fun j hj => by
    rw [Nat.zero_add, cell_of_row _ _ _ _ _ _ h, List.getElem?_toArray]
    exact flatE_at es k j x hk hj, trivial⟩⟩
theorem LRow.putE {w : World} {lb : Nat} {es : List BE} (h : LRow w lb es) {k : Nat} (hk : k < es.length) (e : BE) : LRow (putE w lb k e) lb (es.set k e) := by
  have s1 := heap_setCell_same w lb (k * 6) _ _ (.int .i64 e.st) h
  have s2 := heap_setCell_same _ lb (k * 6 + 1) _ _ (.int .i64 e.z) s1
  have s3 := heap_setCell_same _ lb (k * 6 + 2) _ _ (.int .i64 e.m) s2
  have s4 := heap_setCell_same _ lb (k * 6 + 3) _ _ (.int .i64 e.o) s3
  have s5 := heap_setCell_same _ lb (k * 6 + 4) _ _ (.int .i64 e.q) s4
  have s6 := heap_setCell_same _ lb (k * 6 + 5) _ _ (.int .i64 e.s) s5
  unfold LRow
  refine s6.trans ?_
  rw [flatE_set es k e hk]
  simp only [List.setIfInBounds_toArray]
theorem eq_geo (g : Geo.G) (hs : Geo.Small g) (w : World) : (Op.equalIn 10000 23 (.agg (GC g)) (.agg (GC g))).run Try.prog w = .ok true w := by
  have k1 : Try.prog.cellsOf 3 = 1 := by kernel_rfl
  have k6 : Try.prog.cellsOf 23 = 6 := by kernel_rfl
  have i : ∀ n : Int, (Lit.int .i64 n).wf = true → Try.prog.keyLits 2 3 [.int .i64 n] = some [.int .i64 n] := by
    intro n hn
    simp only [Program.keyLits, Try.underlying3, hn, and_self, if_true]
  have hw : ∀ n : Int, 0 ≤ n ∧ n ≤ 1000 → (Lit.int .i64 n).wf = true := by
    intro n hn
    simp [Lit.wf, IntKind.min, IntKind.max, IntKind.signed, IntKind.bits]
    omega
  obtain ⟨h1, h2, h3, h4, h5, h6⟩ := hs
  have hl : Try.prog.keyLits 3 23 (GC g).toList = some [.int .i64 g.d, .int .i64 g.z, .int .i64 g.s, .int .i64 g.b, .int .i64 g.p, .int .i64 g.o] := by
    have hlen : (GC g).toList.length = 6 := rfl
    unfold Program.keyLits
    simp only [Try.underlying23, k6, hlen]
    rw [if_pos ⟨trivial, by decide +kernel⟩]
    simp only [List.mapM_cons, List.mapM_nil, k1, GC, List.drop, List.take, i _ (hw g.d (by omega)), i _ (hw g.z (by omega)), i _ (hw g.s (by omega)), i _ (hw g.b (by omega)), i _ (hw g.p (by omega)), i _ (hw g.o (by omega))]
    simp
  have hF : (Value.agg (GC g)).formed Try.prog 23 = true := by
    simp only [Value.formed, Try.underlying23, GC_size]
    kernel_rfl
  exact eq_deep (by kernel_rfl) hF hF hl hl _ (by simp) w
theorem nz_pos {g : Geo.G} (hs : Geo.Small g) : 1 ≤ nz g := by
  have h1 := hs.1.1
  have h2 := hs.2.1.1
  have h := Int.mul_pos (show 0 < g.d by omega) (show 0 < g.z by omega)
  unfold nz
  omega
theorem mk_refs0 (n : Nat) (hn : n ≤ 1000) (w : World) : (Instr.makeSlice 51 (.int .i64 (n : Nat)) (.int .i64 (n : Nat))).run Try.prog w = .ok (.slice (some ⟨w.heap.size, 0, none⟩) n n) (w.alloc (.cells (madeCells (BEC BE.zero) (n * 6)) 53)) := by
  have hinfo : (Try.prog.info? 53).map (fun i => (i.zero, i.size, i.bytes)) = some (some (.agg (BEC BE.zero)), 6, 48) := by kernel_rfl
  obtain ⟨i, hi, hz, hs, hb⟩ := info_parts hinfo
  have := run_make (P := Try.prog) w 51 53 i (.agg (BEC BE.zero)) Try.underlying51 hi hz .i64 .i64 (n : Nat) (n : Nat) (by omega) (by omega) (by rw [hb]; omega) (by omega)
  rw [hs] at this
  simpa [Value.cells] using this
theorem mk_refs (n : Nat) (hn : n ≤ 1000) (w : World) : (Instr.makeSlice 51 (.int .i64 (n : Nat)) (.int .i64 (n : Nat))).run Try.prog w = .ok (.slice (some ⟨w.heap.size, 0, none⟩) n n) (w.alloc (.cells (flatE (List.replicate n BE.zero)).toArray 53)) := by
  have h := mk_refs0 n hn w
  rwa [show madeCells (BEC BE.zero) (n * 6) = (flatE (List.replicate n BE.zero)).toArray by rw [← made_ents]] at h
set_option maxRecDepth 100000 in
set_option maxHeartbeats 8000000 in
theorem bm_plays_core (g : Geo.G) (n : Nat) (hbn : g.b = n) (hr : Geo.right g = true) (a : Option Addr) (l : List (Int × BE)) (cp : Nat) (block zone : Int) (w : World) (hI : RowOf w 7 opC Op64 a l) (hl : l.length ≤ 60) :
    Calls Try.prog 9 #[.agg (GC g), .slice a l.length cp, .int .i64 block, .int .i64 zone] w fun e w' => e = .returned (.bool true) ∧ Below w.heap.size w w' := by
  have hs := ((Geo.right_iff g).1 hr).1
  have HRT := Lib.hid hr
  have hgt : g.b.toNat = n := by rw [hbn]; rfl
  have HA := Lib.hid (fun W => bm_anchor W)
  have HN : Hid (∀ W, Calls Try.prog 25 #[.agg (GC g)] W fun x w' => ∃ p le ll, x = .returned (.tuple #[.pointer (some ⟨p, 0, none⟩), .int .i64 0]) ∧ BmIs w' p le ll n (nz g) g (List.replicate n BE.zero) (liveL (nz g) (List.replicate n BE.zero)) ∧ W.heap.size ≤ p ∧ W.heap.size ≤ le ∧ W.heap.size ≤ ll ∧ Below W.heap.size W w') := Lib.hid (fun W => by have := bnew_any g hr W; rwa [hgt] at this)
  have HM0 : Hid (MapOk g (List.replicate n BE.zero)) := Lib.hid (by have := mapOk_new g hr; rwa [hgt] at this)
  have HI := Lib.hid hI
  have HGI := Lib.hid (gsize (g := g))
  have HRGI := Lib.hid (rgsize (g := g))
  have HGR := Lib.hid (fun W => by have := grefright_any g W; rwa [hr] at this)
  have HCS : Hid (∀ (W : World) (b : Nat) (t : TypeId), W.heap[b]? = some (.cells (GC g) t (0, 0)) → W.cell? ⟨b, 3, none⟩ = some (.int .i64 (n : Nat))) := Lib.hid (fun W b t hh => by have := (geo_cells hh).2.2.2.1; rwa [hbn] at this)
  have HGE := Lib.hid (fun (W : World) => eq_geo g hs W)
  have hzo := (zero_of_info Try.infoOp).1
  have hzg := (zero_of_info Try.infoRG).1
  have hz := (zero_of_info Try.infoEnt).1
  have HOS := Lib.hid (fun x => opsize x)
  have HOO := Lib.hid (fun x => opC_one x)
  have HIE := Lib.hid (fun e => esize e)
  have HON := Lib.hid (fun e => BEC_one e)
  have HSZ : Hid (∀ e : BE, (BEC BE.zero).size = (BEC e).size) := Lib.hid (fun e => by rw [BEC_size, BEC_size])
  have HG1 := Lib.hid (GC_one g)
  have HGZ : Hid ((GC ⟨0, 0, 0, 0, 0, 0⟩).size = (GC g).size) := Lib.hid rfl
  have hn2 : n ≤ 256 := by have := hs.2.2.2.1.2; omega
  have hn1 : 1 ≤ n := by have := hs.2.2.2.1.1; omega
  have hnz2 : nz g ≤ 512 := by have := (Geo.dz_bd hs).2; unfold nz; omega
  have hnz1 := nz_pos hs
  have HMK := Lib.hid (fun W => mk_refs n (by omega) W)
  have HGM := Lib.hid (fun (W : World) (p le ll : Nat) (es : List BE) (lv : List Int) (h : BmIs W p le ll n (nz g) g es lv) => bgeom_any W p le ll _ _ g es lv h)
  have HRE := Lib.hid (fun (e : BE) (W : World) => rE_any g e W hr)
  have HBR := Lib.hid (fun (e : BE) (W : World) (h : E64 e) => bright_any g e W hr h)
  have t1 : decide (60 < (l.length : Int)) = false := decide_eq_false (by omega)
  have hal := (Below.refl w.heap.size w).alloc (Nat.le_refl _) (.cells (GC g) 23)
  have hnew := heap_alloc_new w (.cells (GC g) 23)
  have hz0 := hal.size
  have hz1 : w.heap.size < (w.alloc (.cells (GC g) 23)).heap.size := by simp
  have HBN := Lib.hid hbn
  have HIR : Hid ((Try.prog.info? 53).map (fun i => (i.zero, i.size, i.bytes)) = some (some (.agg (BEC BE.zero)), 6, 48)) := Lib.hid (by kernel_rfl)
  clear hI hs hr hgt hbn
  generalize hC : GC g = C at *
  have HC := Lib.hid hC
  clear hC
  go_enter Try.func9, Try.ntmps9
  go_wp2_with fail
  refine (HA.out _).mono ?_
  rintro e w0 ⟨rfl, hB0⟩
  have hg0 := (hB0.block w.heap.size hz1).trans hnew
  have hBx := hal.trans (hB0.mono hal.size)
  have zz0 := hB0.size
  clear hal hnew hB0
  go_wp2_with (refine wpList_row_on (by rfl) 23 _ rfl w.heap.size rfl 23 _ _ _ hg0 Try.underlying23 rfl HGI.out ?_)
  refine (HN.out _).mono ?_
  rintro e w1 ⟨p, le, ll, rfl, hbm1, q1, q2, q3, hB1⟩
  have hg1 := (hB1.block w.heap.size (by omega)).trans hg0
  have hBW := hBx.trans (hB1.mono hBx.size)
  have zz1 := hB1.size
  have hlt1 := hbm1.lt
  obtain ⟨W2, hW2⟩ : ∃ W2, w1.alloc (.cells C 26) = W2 := ⟨_, rfl⟩
  have hb2 : Below w1.heap.size w1 W2 := by rw [← hW2]; exact (Below.refl _ _).alloc (Nat.le_refl _) _
  have hx2 : W2.heap[w1.heap.size]? = some (.cells C 26 (0, 0)) := by rw [← hW2]; exact heap_alloc_new w1 _
  have HW2 := Lib.hid hW2
  have z2 := hb2.size
  have hg2 := (hb2.block w.heap.size (by omega)).trans hg1
  have HG2 := Lib.hid hg2
  have HBM2 := Lib.hid (hbm1.below hb2)
  have hBW2 := hBW.trans (hb2.mono hBW.size)
  have HX2 := Lib.hid hx2
  clear hb2 hbm1 hW2 hB1 hBx hBW
  go_upto_region 7 with (first | (refine wpList_row_on (by rfl) 23 _ rfl w.heap.size rfl 23 _ _ _ hg1 Try.underlying23 rfl HGI.out ?_) | (refine wpList_store_row rfl 26 _ _ rfl w1.heap.size C rfl rfl 26 (GC ⟨0, 0, 0, 0, 0, 0⟩) (heap_alloc_new w1 _) HRGI.out HGZ.out HG1.out ?_; rw [World.setRow_alloc_new, HW2.out]))
  clear hg0 hg1
  go_wp2_with (refine wpList_row_on (by rfl) 26 _ rfl w1.heap.size rfl 26 _ _ _ hx2 Try.underlying26 rfl HRGI.out ?_)
  refine (HGR.out _).mono ?_
  rintro e w3 ⟨rfl, hB3⟩
  have z3 := hB3.size
  have zx : w1.heap.size < W2.heap.size := (Array.getElem?_eq_some_iff.1 hx2).1
  have hg3 := (hB3.block w.heap.size (by omega)).trans HG2.out
  have HX3 := Lib.hid ((hB3.block w1.heap.size zx).trans HX2.out)
  have HBM3 := Lib.hid (HBM2.out.below hB3)
  have hBW3 := hBW2.trans (hB3.mono hBW2.size)
  have HG3 := Lib.hid hg3
  clear hx2 hB3 hBW2 HG2 HX2 HBM2 hg2
  go_wp2
  refine wp_region_conf2 11 [Fact.eq ?rax0, Fact.eq (.bool false), Fact.eq ?rax2, Fact.eq ?rax3, Fact.eq (.bool false), Fact.eq ?rax5, Fact.eq ?rax6, Fact.eq ?rax7, Fact.eq ?rax8, Fact.eq ?rax9, Fact.eq (.bool false)] ?raA (by kernel_rfl) (by kernel_rfl) ?rahA ?raho ?rahend
  case rahA =>
    intro vv
    simp only [putRules, Nat.reduceAdd]
    rfl
  case raho =>
    refine ⟨?_, ?_, ?_, ?_, ?_, ?_, ?_, ?_, ?_, ?_, ?_, trivial⟩
    · intro vv W K hB hd HK
      simp only [confRules] at HK
      clear hd
      go_wp2
      refine HK.out _ _ (Below.refl _ _) ?_
      rfl
    · intro vv W K hB hd HK
      simp only [confRules] at hd HK
      have h0 := hd
      clear hd
      simp only [h0] at HK ⊢
      clear h0
      go_wp2
      refine HK.out _ _ (Below.refl _ _) ?_
      rfl
    · intro vv W K hB hd HK
      simp only [confRules] at hd HK
      have h1 := hd
      clear hd
      simp only [h1] at HK ⊢
      clear h1
      go_wp2
      refine HK.out _ _ (Below.refl _ _) ?_
      rfl
    · intro vv W K hB hd HK
      simp only [confRules] at hd HK
      have h2 := hd
      clear hd
      simp only [h2] at HK ⊢
      clear h2
      refine wpList_guard_yes (by rfl) ?_
      go_wp2
      refine HK.out _ _ (Below.refl _ _) ?_
      rfl
    · intro vv W K hB hd HK
      simp only [confRules] at hd HK
      obtain ⟨h3, h2⟩ := hd
      simp only [h3, h2] at HK ⊢
      clear h3 h2
      refine wpList_guard_yes (by rfl) ?_
      go_wp2
      refine HK.out _ _ (Below.refl _ _) ?_
      first | rfl | exact congrArg Value.bool (by simp)
    · intro vv W K hB hd HK
      simp only [confRules] at hd HK
      obtain ⟨h2, h4⟩ := hd
      simp only [h2, h4] at HK ⊢
      clear h2 h4
      go_wp2
      refine HK.out _ _ (Below.refl _ _) ?_
      rfl
    · intro vv W K hB hd HK
      simp only [confRules] at hd HK
      obtain ⟨h5, h2⟩ := hd
      simp only [h5, h2] at HK ⊢
      clear h5 h2
      go_wp2
      refine HK.out _ _ (Below.refl _ _) ?_
      rfl
    · intro vv W K hB hd HK
      simp only [confRules] at hd HK
      have h6 := hd
      clear hd
      simp only [h6] at HK ⊢
      clear h6
      refine wpList_guard_yes (by rfl) ?_
      go_wp2
      refine HK.out _ _ (Below.refl _ _) ?_
      rfl
    · intro vv W K hB hd HK
      simp only [confRules] at hd HK
      obtain ⟨h7, h6, _⟩ := hd
      simp only [h7, h6] at HK ⊢
      clear h7 h6
      refine wpList_guard_yes (by rfl) ?_
      have hbA := HBM3.out.below hB
      go_wp2_with (refine (HGM.out _ p le ll _ _ hbA).mono ?_; rintro e w9 ⟨rfl, hB9⟩)
      refine HK.out _ _ hB9 ?_
      rfl
    · intro vv W K hB hd HK
      simp only [confRules] at hd HK
      have h6 := hd
      clear hd
      simp only [h6] at HK ⊢
      clear h6
      refine wpList_guard_yes (by rfl) ?_
      have hT := (hB.block w.heap.size (by omega)).trans HG3.out
      go_wp2_with (refine wpList_row_on (by rfl) 23 _ rfl w.heap.size rfl 23 _ _ _ hT Try.underlying23 rfl HGI.out ?_)
      refine HK.out _ _ (Below.refl _ _) ?_
      rfl
    · intro vv W K hB hd HK
      simp only [confRules] at hd HK
      obtain ⟨h8, h9, h6⟩ := hd
      simp only [h8, h9, h6] at HK ⊢
      clear h8 h9 h6
      refine wpList_guard_yes (by rfl) ?_
      go_wp2_with (refine wpList_neq_on (by rfl) 23 23 _ _ rfl C C rfl rfl (by kernel_rfl) true HGE.out ?_)
      refine HK.out _ _ (Below.refl _ _) ?_
      rfl
  case rahend =>
    intro vv W hB hf
    have e6 := hf 6 (by decide)
    have e10 := hf 10 (by decide)
    simp only [endRules] at e6 e10
    simp only [e6, e10, dropRules]
    clear hf e6 e10
    have zW := hB.size
    have hgW := (hB.block w.heap.size (by omega)).trans HG3.out
    have HGW := Lib.hid hgW
    have HXW := Lib.hid ((hB.block w1.heap.size (by omega)).trans HX3.out)
    have HBMW := Lib.hid (HBM3.out.below hB)
    have HBWW := Lib.hid (hBW3.trans (hB.mono hBW3.size))
    have c3 := HCS.out _ _ _ hgW
    have hmk := HMK.out W
    obtain ⟨W4, hW4⟩ : ∃ W4, W.alloc (.cells (flatE (List.replicate n BE.zero)).toArray 53) = W4 := ⟨_, rfl⟩
    have HW4 := Lib.hid hW4
    have hb4 : Below W.heap.size W W4 := by rw [← hW4]; exact (Below.refl _ _).alloc (Nat.le_refl _) _
    have z4 : W.heap.size < W4.heap.size := by rw [← hW4]; simp
    have HL4 : Hid (LRow W4 W.heap.size (List.replicate n BE.zero)) := Lib.hid (by rw [← hW4]; exact heap_alloc_new W _)
    have HG4 := Lib.hid ((hb4.block w.heap.size (by omega)).trans hgW)
    have HX4 := Lib.hid ((hb4.block w1.heap.size (by omega)).trans HXW.out)
    have HBM4 := Lib.hid (HBMW.out.below hb4)
    have hBW4 := HBWW.out.trans (hb4.mono HBWW.out.size)
    have HBW4 := Lib.hid hBW4
    have zB4 := hBW4.size
    obtain ⟨lb, hlb⟩ : ∃ lb, W.heap.size = lb := ⟨_, rfl⟩
    have zlb : w1.heap.size < W.heap.size := by omega
    rw [hlb] at zlb HL4 z4 hmk
    clear hgW hW4 hb4 hlb hB hBW3 HG3 HX3 HBM3 hg3 HBWW HBMW HXW HGW
    go_upto_region 12 with (fail)
    rw [HW4.out]
    clear hmk c3
    go_wp2
    go_loopw [59] (fun i wr => ∃ (k : Nat) (es : List BE), k ≤ l.length ∧ i = .int .i64 k ∧ MapOk g es ∧ BmIs wr p le ll n (nz g) g es (liveL (nz g) es) ∧ LRow wr lb es ∧ Only [le, ll, lb] W4 wr) (fun i _ => l.length - (intOf i).toNat)
    case atStart => exact ⟨0, _, Nat.zero_le _, rfl, HM0.out, HBM4.out, HL4.out, Only.refl _ _⟩
    case round =>
      obtain ⟨k, es, hk, rfl, hM, hbm, hL, hO⟩ := hrel
      have zO := hO.size
      have hel : es.length = n := by have h1 := hM.len; rw [HBN.out] at h1; omega
      by_cases hlt : k < l.length
      · obtain ⟨x, hx⟩ : ∃ x, l[k]? = some x := ⟨_, List.getElem?_eq_getElem hlt⟩
        obtain ⟨b, o, rfl, hbl, hcx, -, he64⟩ := HI.out.at hx
        obtain ⟨blk, e⟩ := x
        have key : ∀ j, j < 7 → wr.cell? ⟨b, o + k * 7 + j, none⟩ = (opC (blk, e))[j]? := fun j hj => by
          rw [← hcx j hj]
          exact (World.cell?_of_block (a := ⟨b, o + k * 7 + j, none⟩) (hO.block b (by omega) (by simp; omega))).trans (HBW4.out.cell (p := ⟨b, o + k * 7 + j, none⟩) hbl)
        have d0 : wr.cell? ⟨b, o + k * 7, none⟩ = some (.int .i64 blk) := key 0 (by omega)
        have d1 : wr.cell? ⟨b, o + k * 7 + 1, none⟩ = some (.int .i64 e.st) := key 1 (by omega)
        have d2 : wr.cell? ⟨b, o + k * 7 + 2, none⟩ = some (.int .i64 e.z) := key 2 (by omega)
        have d3 : wr.cell? ⟨b, o + k * 7 + 3, none⟩ = some (.int .i64 e.m) := key 3 (by omega)
        have d4 : wr.cell? ⟨b, o + k * 7 + 4, none⟩ = some (.int .i64 e.o) := key 4 (by omega)
        have d5 : wr.cell? ⟨b, o + k * 7 + 5, none⟩ = some (.int .i64 e.q) := key 5 (by omega)
        have d6 : wr.cell? ⟨b, o + k * 7 + 6, none⟩ = some (.int .i64 e.s) := key 6 (by omega)
        obtain ⟨WA, hWA⟩ : ∃ WA, wr.alloc (.cells (opC (blk, e)) 43) = WA := ⟨_, rfl⟩
        obtain ⟨ob, hob⟩ : ∃ ob, wr.heap.size = ob := ⟨_, rfl⟩
        have hba : Below wr.heap.size wr WA := by rw [← hWA]; exact (Below.refl wr.heap.size wr).alloc (Nat.le_refl _) _
        have hopA : WA.heap[ob]? = some (.cells (opC (blk, e)) 43 (0, 0)) := by rw [← hWA, ← hob]; exact heap_alloc_new wr _
        have zA : ob < WA.heap.size := (Array.getElem?_eq_some_iff.1 hopA).1
        have zob : W4.heap.size ≤ ob := by omega
        have hlt4 := HBM4.out.lt
        have HWA := Lib.hid hWA
        have HOB := Lib.hid hob
        have HOPA := Lib.hid hopA
        have HBMA := Lib.hid (hbm.below hba)
        have HLA := Lib.hid (hL.only (Only.of_below (S := []) hba) (by simp))
        have HOA := Lib.hid (hO.trans (Only.of_below (S := [le, ll, lb]) hba))
        have hne : es ≠ [] := fun h => by rw [h] at hel; simp at hel; omega
        have hlne : liveL (nz g) es ≠ [] := fun h => by have := congrArg List.length h; rw [liveL_length] at this; simp at this; omega
        have HCP := Lib.hid (bcopy_any WA p le ll _ _ g es _ HBMA.out hne hlne (by omega) (by rw [liveL_length]; omega))
        have HEL := Lib.hid hel
        have HM := Lib.hid hM
        have HE64 := Lib.hid he64
        clear key hcx hx hWA hba hopA hbm hL hO hne hlne hel hM he64 hob
        go_upto_region 15 with (refine wpList_store_row rfl 43 _ _ rfl wr.heap.size (opC (blk, e)) rfl rfl 43 (opC (0, BE.zero)) (heap_alloc_new wr _) (HOS.out _) rfl (HOO.out _) ?_; rw [World.setRow_alloc_new])
        rw [HWA.out, HOB.out]
        clear d0 d1 d2 d3 d4 d5 d6
        go_wp2_with fail
        refine HCP.out.mono ?_
        rintro y w5 ⟨p', le', ll', ce', cl', rfl, hbc, r1, r2, r3, hB5⟩
        have z5 := hB5.size
        have hB56 : Below w5.heap.size w5 (w5.alloc (.cells #[] 53)) := (Below.refl _ _).alloc (Nat.le_refl _) _
        have HL6 := Lib.hid ((HLA.out.only (Only.of_below (S := []) hB5) (by simp)).rows.below hB56)
        have hown6 : OwnM (w5.alloc (.cells #[] 53)) 53 6 BEC (fun _ => True) w5.heap.size (.slice (some ⟨w5.heap.size, 0, none⟩) 0 0) [] := OwnM.empty (heap_alloc_new _ _) (Nat.le_refl _)
        have HOG := Lib.hid (fun w' (hg : (w5.alloc (.cells #[] 53)).grownBy w' (some w5.heap.size)) => hB56.trans (hown6.grown hg (by simp)))
        have HOWN := Lib.hid hown6
        have HSLC : Hid (Value.slice (some ⟨lb, 0, none⟩) n n = Value.slice (some ⟨lb, 0, none⟩) es.length n) := Lib.hid (by rw [HEL.out])
        have HLN : Hid (es.length ≤ 256) := Lib.hid (by rw [HEL.out]; exact hn2)
        have HBC := Lib.hid hbc
        have HB5 := Lib.hid hB5
        clear hB56 hown6 HCP hbc hB5
        go_upto_region 17 with (at_builtin; refine wpList_appendM rfl (.tmp 65) (.tmp 66) 51 rfl 53 6 BEC (fun _ => True) kinE (by decide) (.agg (BEC BE.zero)) 48 Try.underlying51 HIR.out rfl w5.heap.size _ [] rfl HOWN.out (some ⟨lb, 0, none⟩) n es HSLC.out HL6.out (by simp) (by have := HLN.out; unfold maxLen; simp; omega) (by have := HLN.out; simp; omega) (by simp) ?_; intro v7 W7 hv7 hg7 _)
        have hB57 := HOG.out W7 hg7
        rw [List.nil_append] at hv7
        obtain ⟨aw, cw, rfl, hRw, -, -, -, hwb⟩ := hv7.shape kinE
        rw [HEL.out]
        have hBA7 : Below WA.heap.size WA W7 := HB5.out.trans (hB57.mono z5)
        have z7 := hBA7.size
        have z57 := hB57.size
        have hop7 := (hBA7.block ob zA).trans HOPA.out
        have HOP7 := Lib.hid hop7
        have HL7 := Lib.hid (HLA.out.only (Only.of_below (S := []) hBA7) (by simp))
        have HO7 := Lib.hid (HOA.out.trans (Only.of_below (S := [le, ll, lb]) hBA7))
        have HBC7 := Lib.hid (HBC.out.below hB57)
        have hcl := HBC.out.lt
        have HRW := Lib.hid hRw
        have HWB : Hid (∀ x, aw = some x → WA.heap.size ≤ x.block) := Lib.hid (fun x hx => by have := (hwb x hx).1; omega)
        have HST := Lib.hid (bset_any W7 p le ll n (nz g) g es HRT.out HM.out (HBMA.out.below hBA7) blk e HE64.out)
        obtain ⟨f0, f1, f2, f3, f4, f5, f6⟩ := op_cells hop7
        clear hv7 hg7 hB57 hRw hwb hBA7 hop7 HOG HOWN HSLC HL6 HBC HB5 HBMA HLA HOA
        obtain ⟨er, her⟩ : ∃ er, setErr g es blk e = er := ⟨_, rfl⟩
        obtain ⟨es', hes'⟩ : ∃ es', setEs g es blk e = es' := ⟨_, rfl⟩
        obtain ⟨rb, hrb⟩ : ∃ rb, beRight g e = rb := ⟨_, rfl⟩
        have hM' : MapOk g es' := by rw [← hes']; exact setEs_ok HM.out HE64.out blk
        have hel' : es'.length = n := by rw [← hes', setEs_length]; exact HEL.out
        have hcs : ((0 ≤ blk ∧ blk < n) ∧ rb = true ∧ er = 0 ∧ ∃ j : Nat, blk = j ∧ j < n ∧ es' = es.set j e) ∨ ((0 ≤ blk ∧ blk < n) ∧ rb = false ∧ er = 10 ∧ es = es') ∨ (¬ (0 ≤ blk ∧ blk < n) ∧ er = 13 ∧ es = es') := by
          unfold setErr at her
          unfold setEs at hes'
          rw [HEL.out] at her hes'
          by_cases c : blk < 0 ∨ (n : Int) ≤ blk
          · rw [if_pos c] at her hes'
            exact .inr (.inr ⟨by omega, her.symm, hes'⟩)
          · rw [if_neg c, hrb] at her hes'
            cases rb
            · simp at her hes'
              exact .inr (.inl ⟨by omega, rfl, her.symm, hes'⟩)
            · simp at her hes'
              exact .inl ⟨by omega, rfl, her.symm, blk.toNat, by omega, by omega, hes'.symm⟩
        rw [her, hes'] at HST
        have HRE1 := Lib.hid (fun W => by have := HRE.out e W; rwa [hrb] at this)
        have HBR1 := Lib.hid (fun W => by have := HBR.out e W HE64.out; rwa [hrb] at this)
        have HM' := Lib.hid hM'
        have HEL' := Lib.hid hel'
        have HEW : Hid (es.length = n) := Lib.hid HEL.out
        have hnr : (rb != rb) = false := by simp
        clear her hes' hrb hM' hel' HEL
        rcases hcs with ⟨⟨b1, b2⟩, rfl, rfl, j, rfl, hjn, rfl⟩ | ⟨⟨b1, b2⟩, rfl, rfl, rfl⟩ | ⟨b0, rfl, rfl⟩
        · have tt1 : decide (0 ≤ ((j : Nat) : Int)) = true := decide_eq_true b1
          have tt2 : decide (((j : Nat) : Int) < (n : Int)) = true := decide_eq_true b2
          clear b1 b2
          go_wp2_with fail
          refine HST.out.mono ?_
          rintro y w8 ⟨rfl, hbm8, hO8⟩
          have z8 := hO8.size
          have hop8 := hO8.get HOP7.out (by simp; omega)
          have hL8 := HL7.out.only hO8 (by simp; omega)
          have HO8 := Lib.hid (HO7.out.trans (hO8.mono (T := [le, ll, lb]) (by simp)))
          have hg8 := HO8.out.get HG4.out (by simp; omega)
          have hx8 := HO8.out.get HX4.out (by simp; omega)
          have hc8 := HBC7.out.only hO8 (by simp; omega) (by simp; omega) (by simp; omega)
          have hw8 := HRW.out.only hO8 (fun x hx => by have := HWB.out x hx; simp; omega)
          have c38 := HCS.out _ _ _ hg8
          obtain ⟨f0, f1, f2, f3, f4, f5, f6⟩ := op_cells hop8
          have HOP8 := Lib.hid hop8
          have HL8 := Lib.hid hL8
          have HBM8 := Lib.hid hbm8
          have HC8 := Lib.hid hc8
          have HW8 := Lib.hid hw8
          have HG8 := Lib.hid hg8
          clear hop8 hL8 hbm8 hc8 hw8 hg8 hO8 HST
          go_wp2_with (refine wpList_row_on (by rfl) 26 _ rfl w1.heap.size rfl 26 _ _ _ hx8 Try.underlying26 rfl HRGI.out ?_)
          refine (HRE1.out _).mono ?_
          rintro y w9 ⟨rfl, hB9⟩
          have z9 := hB9.size
          have hop9 := (hB9.block ob (by omega)).trans HOP8.out
          have hg9 := (hB9.block w.heap.size (by omega)).trans HG8.out
          obtain ⟨f0, f1, f2, f3, f4, f5, f6⟩ := op_cells hop9
          have HOP9 := Lib.hid hop9
          clear c38 hx8 hop9
          go_wp2_with (refine wpList_row_on (by rfl) 23 _ rfl w.heap.size rfl 23 _ _ _ hg9 Try.underlying23 rfl HGI.out ?_)
          refine (HBR1.out _).mono ?_
          rintro y w10 ⟨rfl, hB10⟩
          have z10 := hB10.size
          have hB810 : Below w8.heap.size w8 w10 := hB9.trans (hB10.mono z9)
          have hop10 := (hB10.block ob (by omega)).trans HOP9.out
          have hL10 := HL8.out.only (Only.of_below (S := []) hB810) (by simp)
          have HBM10 := Lib.hid (HBM8.out.below hB810)
          have HC10 := Lib.hid (HC8.out.below hB810)
          have HW10 := Lib.hid (HW8.out.below hB810)
          have HO10 := Lib.hid (HO8.out.trans (Only.of_below (S := [le, ll, lb]) hB810))
          have HL10 := Lib.hid hL10
          obtain ⟨f0, f1, f2, f3, f4, f5, f6⟩ := op_cells hop10
          have HOP10 := Lib.hid hop10
          clear hg9 hop10 hL10 hB9 hB10 hB810 HOP8 HOP9 HL8 HBM8 HC8 HW8 HG8
          obtain ⟨old, hold⟩ : ∃ old, es[j]? = some old := ⟨_, List.getElem?_eq_getElem (by rw [HEW.out]; exact hjn)⟩
          obtain ⟨lb2, lo2, hl2, -, -, q0, q1, q2, q3, q4, q5⟩ := HL10.out.rows.ent6 hold
          cases hl2
          rw [Nat.zero_add] at q0 q1 q2 q3 q4 q5
          have e0 := frozen_of_row _ lb (j * 6) _ _ HL10.out
          have e1 := frozen_of_row _ lb (j * 6 + 1) _ _ HL10.out
          have e2 := frozen_of_row _ lb (j * 6 + 2) _ _ HL10.out
          have e3 := frozen_of_row _ lb (j * 6 + 3) _ _ HL10.out
          have e4 := frozen_of_row _ lb (j * 6 + 4) _ _ HL10.out
          have e5 := frozen_of_row _ lb (j * 6 + 5) _ _ HL10.out
          obtain ⟨W11, hW11⟩ : ∃ W11, putE w10 lb j e = W11 := ⟨_, rfl⟩
          have hO11 : Only [lb] w10 W11 := by rw [← hW11]; exact putE_only w10 lb j e
          have HL11 : Hid (LRow W11 lb (es.set j e)) := Lib.hid (by rw [← hW11]; exact HL10.out.putE (by rw [HEW.out]; exact hjn) e)
          have HBM11 := Lib.hid (HBM10.out.only hO11 (by simp; omega) (by simp; omega) (by simp; omega))
          have HC11 := Lib.hid (HC10.out.only hO11 (by simp; omega) (by simp; omega) (by simp; omega))
          have HW11 := Lib.hid (HW10.out.only hO11 (fun x hx => by have := HWB.out x hx; simp; omega))
          have HO11 := Lib.hid (HO10.out.trans (hO11.mono (T := [le, ll, lb]) (by simp)))
          have HOP11 := Lib.hid (hO11.get HOP10.out (by simp; omega))
          have z11 := hO11.size
          have HPW : Hid (putE w10 lb j e = W11) := Lib.hid hW11
          clear hW11 hO11 HBM10 HL10 HC10 HW10 HO10 HOP10
          go_upto_region 31 with (fail)
          rw [show ((((((w10.setCell ⟨lb, j * 6, none⟩ (.int .i64 e.st)).setCell ⟨lb, j * 6 + 1, none⟩ (.int .i64 e.z)).setCell ⟨lb, j * 6 + 2, none⟩ (.int .i64 e.m)).setCell ⟨lb, j * 6 + 3, none⟩ (.int .i64 e.o)).setCell ⟨lb, j * 6 + 4, none⟩ (.int .i64 e.q)).setCell ⟨lb, j * 6 + 5, none⟩ (.int .i64 e.s)) = W11 from HPW.out]
          clear f0 f1 f2 f3 f4 f5 f6 e0 e1 e2 e3 e4 e5 q0 q1 q2 q3 q4 q5 hold
          have SM1 := bm_same W11 p le ll n (nz g) g _ (some ⟨lb, 0, none⟩) n zone HRT.out HM'.out HBM11.out HL11.out.rows
          rw [HEL'.out] at SM1
          go_wp2_with fail
          refine SM1.mono ?_
          rintro y w12 ⟨rfl, hB12⟩
          have z12 := hB12.size
          have SM2 := bm_same w12 p le ll n (nz g) g _ (some ⟨lb, 0, none⟩) n e.z HRT.out HM'.out (HBM11.out.below hB12) (HL11.out.only (Only.of_below (S := []) hB12) (by simp)).rows
          rw [HEL'.out] at SM2
          obtain ⟨f0, f1, f2, f3, f4, f5, f6⟩ := op_cells ((hB12.block ob (by omega)).trans HOP11.out)
          clear SM1
          go_wp2_with fail
          refine SM2.mono ?_
          rintro y w13 ⟨rfl, hB13⟩
          have hB113 : Below W11.heap.size W11 w13 := hB12.trans (hB13.mono z12)
          have SM3 := bm_same w13 p' le' ll' _ _ g es aw cw zone HRT.out HM.out (HC11.out.below hB113) (HW11.out.below hB113)
          rw [HEW.out] at SM3
          clear SM2 f0 f1 f2 f3 f4 f5 f6
          go_wp2_with fail
          refine SM3.mono ?_
          rintro y w14 ⟨rfl, hB14⟩
          have HB114 := Lib.hid (hB113.trans (hB14.mono hB113.size))
          clear SM3 hB12 hB13 hB14 hB113
          go_wp2
          go_roundw
          case rel => exact ⟨k + 1, _, by omega, by go_num, HM'.out, HBM11.out.below HB114.out, HL11.out.only (Only.of_below (S := []) HB114.out) (by simp), HO11.out.trans (Only.of_below (S := [le, ll, lb]) HB114.out)⟩
          case measure => simp [intOf]; omega
        · have tt1 : decide (0 ≤ blk) = true := decide_eq_true b1
          have tt2 : decide (blk < (n : Int)) = true := decide_eq_true b2
          clear b1 b2
          go_wp2_with fail
          refine HST.out.mono ?_
          rintro y w8 ⟨rfl, hbm8, hO8⟩
          have z8 := hO8.size
          have hop8 := hO8.get HOP7.out (by simp; omega)
          have hL8 := HL7.out.only hO8 (by simp; omega)
          have HO8 := Lib.hid (HO7.out.trans (hO8.mono (T := [le, ll, lb]) (by simp)))
          have hg8 := HO8.out.get HG4.out (by simp; omega)
          have hx8 := HO8.out.get HX4.out (by simp; omega)
          have hc8 := HBC7.out.only hO8 (by simp; omega) (by simp; omega) (by simp; omega)
          have hw8 := HRW.out.only hO8 (fun x hx => by have := HWB.out x hx; simp; omega)
          have c38 := HCS.out _ _ _ hg8
          obtain ⟨f0, f1, f2, f3, f4, f5, f6⟩ := op_cells hop8
          have HOP8 := Lib.hid hop8
          have HL8 := Lib.hid hL8
          have HBM8 := Lib.hid hbm8
          have HC8 := Lib.hid hc8
          have HW8 := Lib.hid hw8
          have HG8 := Lib.hid hg8
          clear hop8 hL8 hbm8 hc8 hw8 hg8 hO8 HST
          go_wp2_with (refine wpList_row_on (by rfl) 26 _ rfl w1.heap.size rfl 26 _ _ _ hx8 Try.underlying26 rfl HRGI.out ?_)
          refine (HRE1.out _).mono ?_
          rintro y w9 ⟨rfl, hB9⟩
          have z9 := hB9.size
          have hop9 := (hB9.block ob (by omega)).trans HOP8.out
          have hg9 := (hB9.block w.heap.size (by omega)).trans HG8.out
          obtain ⟨f0, f1, f2, f3, f4, f5, f6⟩ := op_cells hop9
          have HOP9 := Lib.hid hop9
          clear c38 hx8 hop9
          go_wp2_with (refine wpList_row_on (by rfl) 23 _ rfl w.heap.size rfl 23 _ _ _ hg9 Try.underlying23 rfl HGI.out ?_)
          refine (HBR1.out _).mono ?_
          rintro y w10 ⟨rfl, hB10⟩
          have z10 := hB10.size
          have hB810 : Below w8.heap.size w8 w10 := hB9.trans (hB10.mono z9)
          have hop10 := (hB10.block ob (by omega)).trans HOP9.out
          have hL10 := HL8.out.only (Only.of_below (S := []) hB810) (by simp)
          have HBM10 := Lib.hid (HBM8.out.below hB810)
          have HC10 := Lib.hid (HC8.out.below hB810)
          have HW10 := Lib.hid (HW8.out.below hB810)
          have HO10 := Lib.hid (HO8.out.trans (Only.of_below (S := [le, ll, lb]) hB810))
          have HL10 := Lib.hid hL10
          obtain ⟨f0, f1, f2, f3, f4, f5, f6⟩ := op_cells hop10
          have HOP10 := Lib.hid hop10
          clear hg9 hop10 hL10 hB9 hB10 hB810 HOP8 HOP9 HL8 HBM8 HC8 HW8 HG8
          obtain ⟨W11, hW11⟩ : ∃ W11 : World, W11 = w10 := ⟨_, rfl⟩
          subst hW11
          have HL11 := HL10
          have HBM11 := HBM10
          have HC11 := HC10
          have HW11 := HW10
          have HO11 := HO10
          have HOP11 := HOP10
          clear f0 f1 f2 f3 f4 f5 f6
          have SM1 := bm_same W11 p le ll n (nz g) g _ (some ⟨lb, 0, none⟩) n zone HRT.out HM'.out HBM11.out HL11.out.rows
          rw [HEL'.out] at SM1
          go_wp2_with fail
          refine SM1.mono ?_
          rintro y w12 ⟨rfl, hB12⟩
          have z12 := hB12.size
          have SM2 := bm_same w12 p le ll n (nz g) g _ (some ⟨lb, 0, none⟩) n e.z HRT.out HM'.out (HBM11.out.below hB12) (HL11.out.only (Only.of_below (S := []) hB12) (by simp)).rows
          rw [HEL'.out] at SM2
          obtain ⟨f0, f1, f2, f3, f4, f5, f6⟩ := op_cells ((hB12.block ob (by omega)).trans HOP11.out)
          clear SM1
          go_wp2_with fail
          refine SM2.mono ?_
          rintro y w13 ⟨rfl, hB13⟩
          have hB113 : Below W11.heap.size W11 w13 := hB12.trans (hB13.mono z12)
          have SM3 := bm_same w13 p' le' ll' _ _ g es aw cw zone HRT.out HM.out (HC11.out.below hB113) (HW11.out.below hB113)
          rw [HEW.out] at SM3
          clear SM2 f0 f1 f2 f3 f4 f5 f6
          go_wp2_with fail
          refine SM3.mono ?_
          rintro y w14 ⟨rfl, hB14⟩
          have HB114 := Lib.hid (hB113.trans (hB14.mono hB113.size))
          clear SM3 hB12 hB13 hB14 hB113
          go_wp2
          go_roundw
          case rel => exact ⟨k + 1, _, by omega, by go_num, HM'.out, HBM11.out.below HB114.out, HL11.out.only (Only.of_below (S := []) HB114.out) (by simp), HO11.out.trans (Only.of_below (S := [le, ll, lb]) HB114.out)⟩
          case measure => simp [intOf]; omega
        · by_cases b1 : 0 ≤ blk
          · have tt1 : decide (0 ≤ blk) = true := decide_eq_true b1
            have tt2 : decide (blk < (n : Int)) = false := decide_eq_false (fun h => b0 ⟨b1, h⟩)
            clear b1 b0
            go_wp2_with fail
            refine HST.out.mono ?_
            rintro y w8 ⟨rfl, hbm8, hO8⟩
            have z8 := hO8.size
            have hop8 := hO8.get HOP7.out (by simp; omega)
            have hL8 := HL7.out.only hO8 (by simp; omega)
            have HO8 := Lib.hid (HO7.out.trans (hO8.mono (T := [le, ll, lb]) (by simp)))
            have hg8 := HO8.out.get HG4.out (by simp; omega)
            have hx8 := HO8.out.get HX4.out (by simp; omega)
            have hc8 := HBC7.out.only hO8 (by simp; omega) (by simp; omega) (by simp; omega)
            have hw8 := HRW.out.only hO8 (fun x hx => by have := HWB.out x hx; simp; omega)
            have c38 := HCS.out _ _ _ hg8
            obtain ⟨f0, f1, f2, f3, f4, f5, f6⟩ := op_cells hop8
            have HOP8 := Lib.hid hop8
            have HL8 := Lib.hid hL8
            have HBM8 := Lib.hid hbm8
            have HC8 := Lib.hid hc8
            have HW8 := Lib.hid hw8
            have HG8 := Lib.hid hg8
            clear hop8 hL8 hbm8 hc8 hw8 hg8 hO8 HST
            go_wp2_with (refine wpList_row_on (by rfl) 26 _ rfl w1.heap.size rfl 26 _ _ _ hx8 Try.underlying26 rfl HRGI.out ?_)
            refine (HRE1.out _).mono ?_
            rintro y w9 ⟨rfl, hB9⟩
            have z9 := hB9.size
            have hop9 := (hB9.block ob (by omega)).trans HOP8.out
            have hg9 := (hB9.block w.heap.size (by omega)).trans HG8.out
            obtain ⟨f0, f1, f2, f3, f4, f5, f6⟩ := op_cells hop9
            have HOP9 := Lib.hid hop9
            clear c38 hx8 hop9
            go_wp2_with (refine wpList_row_on (by rfl) 23 _ rfl w.heap.size rfl 23 _ _ _ hg9 Try.underlying23 rfl HGI.out ?_)
            refine (HBR1.out _).mono ?_
            rintro y w10 ⟨rfl, hB10⟩
            have z10 := hB10.size
            have hB810 : Below w8.heap.size w8 w10 := hB9.trans (hB10.mono z9)
            have hop10 := (hB10.block ob (by omega)).trans HOP9.out
            have hL10 := HL8.out.only (Only.of_below (S := []) hB810) (by simp)
            have HBM10 := Lib.hid (HBM8.out.below hB810)
            have HC10 := Lib.hid (HC8.out.below hB810)
            have HW10 := Lib.hid (HW8.out.below hB810)
            have HO10 := Lib.hid (HO8.out.trans (Only.of_below (S := [le, ll, lb]) hB810))
            have HL10 := Lib.hid hL10
            obtain ⟨f0, f1, f2, f3, f4, f5, f6⟩ := op_cells hop10
            have HOP10 := Lib.hid hop10
            clear hg9 hop10 hL10 hB9 hB10 hB810 HOP8 HOP9 HL8 HBM8 HC8 HW8 HG8
            obtain ⟨W11, hW11⟩ : ∃ W11 : World, W11 = w10 := ⟨_, rfl⟩
            subst hW11
            have HL11 := HL10
            have HBM11 := HBM10
            have HC11 := HC10
            have HW11 := HW10
            have HO11 := HO10
            have HOP11 := HOP10
            clear f0 f1 f2 f3 f4 f5 f6
            have SM1 := bm_same W11 p le ll n (nz g) g _ (some ⟨lb, 0, none⟩) n zone HRT.out HM'.out HBM11.out HL11.out.rows
            rw [HEL'.out] at SM1
            go_wp2_with fail
            refine SM1.mono ?_
            rintro y w12 ⟨rfl, hB12⟩
            have z12 := hB12.size
            have SM2 := bm_same w12 p le ll n (nz g) g _ (some ⟨lb, 0, none⟩) n e.z HRT.out HM'.out (HBM11.out.below hB12) (HL11.out.only (Only.of_below (S := []) hB12) (by simp)).rows
            rw [HEL'.out] at SM2
            obtain ⟨f0, f1, f2, f3, f4, f5, f6⟩ := op_cells ((hB12.block ob (by omega)).trans HOP11.out)
            clear SM1
            go_wp2_with fail
            refine SM2.mono ?_
            rintro y w13 ⟨rfl, hB13⟩
            have hB113 : Below W11.heap.size W11 w13 := hB12.trans (hB13.mono z12)
            have SM3 := bm_same w13 p' le' ll' _ _ g es aw cw zone HRT.out HM.out (HC11.out.below hB113) (HW11.out.below hB113)
            rw [HEW.out] at SM3
            clear SM2 f0 f1 f2 f3 f4 f5 f6
            go_wp2_with fail
            refine SM3.mono ?_
            rintro y w14 ⟨rfl, hB14⟩
            have HB114 := Lib.hid (hB113.trans (hB14.mono hB113.size))
            clear SM3 hB12 hB13 hB14 hB113
            go_wp2
            go_roundw
            case rel => exact ⟨k + 1, _, by omega, by go_num, HM'.out, HBM11.out.below HB114.out, HL11.out.only (Only.of_below (S := []) HB114.out) (by simp), HO11.out.trans (Only.of_below (S := [le, ll, lb]) HB114.out)⟩
            case measure => simp [intOf]; omega
          · have tt1 : decide (0 ≤ blk) = false := decide_eq_false b1
            clear b1 b0
            go_wp2_with fail
            refine HST.out.mono ?_
            rintro y w8 ⟨rfl, hbm8, hO8⟩
            have z8 := hO8.size
            have hop8 := hO8.get HOP7.out (by simp; omega)
            have hL8 := HL7.out.only hO8 (by simp; omega)
            have HO8 := Lib.hid (HO7.out.trans (hO8.mono (T := [le, ll, lb]) (by simp)))
            have hg8 := HO8.out.get HG4.out (by simp; omega)
            have hx8 := HO8.out.get HX4.out (by simp; omega)
            have hc8 := HBC7.out.only hO8 (by simp; omega) (by simp; omega) (by simp; omega)
            have hw8 := HRW.out.only hO8 (fun x hx => by have := HWB.out x hx; simp; omega)
            have c38 := HCS.out _ _ _ hg8
            obtain ⟨f0, f1, f2, f3, f4, f5, f6⟩ := op_cells hop8
            have HOP8 := Lib.hid hop8
            have HL8 := Lib.hid hL8
            have HBM8 := Lib.hid hbm8
            have HC8 := Lib.hid hc8
            have HW8 := Lib.hid hw8
            have HG8 := Lib.hid hg8
            clear hop8 hL8 hbm8 hc8 hw8 hg8 hO8 HST
            go_wp2_with (refine wpList_row_on (by rfl) 26 _ rfl w1.heap.size rfl 26 _ _ _ hx8 Try.underlying26 rfl HRGI.out ?_)
            refine (HRE1.out _).mono ?_
            rintro y w9 ⟨rfl, hB9⟩
            have z9 := hB9.size
            have hop9 := (hB9.block ob (by omega)).trans HOP8.out
            have hg9 := (hB9.block w.heap.size (by omega)).trans HG8.out
            obtain ⟨f0, f1, f2, f3, f4, f5, f6⟩ := op_cells hop9
            have HOP9 := Lib.hid hop9
            clear c38 hx8 hop9
            go_wp2_with (refine wpList_row_on (by rfl) 23 _ rfl w.heap.size rfl 23 _ _ _ hg9 Try.underlying23 rfl HGI.out ?_)
            refine (HBR1.out _).mono ?_
            rintro y w10 ⟨rfl, hB10⟩
            have z10 := hB10.size
            have hB810 : Below w8.heap.size w8 w10 := hB9.trans (hB10.mono z9)
            have hop10 := (hB10.block ob (by omega)).trans HOP9.out
            have hL10 := HL8.out.only (Only.of_below (S := []) hB810) (by simp)
            have HBM10 := Lib.hid (HBM8.out.below hB810)
            have HC10 := Lib.hid (HC8.out.below hB810)
            have HW10 := Lib.hid (HW8.out.below hB810)
            have HO10 := Lib.hid (HO8.out.trans (Only.of_below (S := [le, ll, lb]) hB810))
            have HL10 := Lib.hid hL10
            obtain ⟨f0, f1, f2, f3, f4, f5, f6⟩ := op_cells hop10
            have HOP10 := Lib.hid hop10
            clear hg9 hop10 hL10 hB9 hB10 hB810 HOP8 HOP9 HL8 HBM8 HC8 HW8 HG8
            obtain ⟨W11, hW11⟩ : ∃ W11 : World, W11 = w10 := ⟨_, rfl⟩
            subst hW11
            have HL11 := HL10
            have HBM11 := HBM10
            have HC11 := HC10
            have HW11 := HW10
            have HO11 := HO10
            have HOP11 := HOP10
            clear f0 f1 f2 f3 f4 f5 f6
            have SM1 := bm_same W11 p le ll n (nz g) g _ (some ⟨lb, 0, none⟩) n zone HRT.out HM'.out HBM11.out HL11.out.rows
            rw [HEL'.out] at SM1
            go_wp2_with fail
            refine SM1.mono ?_
            rintro y w12 ⟨rfl, hB12⟩
            have z12 := hB12.size
            have SM2 := bm_same w12 p le ll n (nz g) g _ (some ⟨lb, 0, none⟩) n e.z HRT.out HM'.out (HBM11.out.below hB12) (HL11.out.only (Only.of_below (S := []) hB12) (by simp)).rows
            rw [HEL'.out] at SM2
            obtain ⟨f0, f1, f2, f3, f4, f5, f6⟩ := op_cells ((hB12.block ob (by omega)).trans HOP11.out)
            clear SM1
            go_wp2_with fail
            refine SM2.mono ?_
            rintro y w13 ⟨rfl, hB13⟩
            have hB113 : Below W11.heap.size W11 w13 := hB12.trans (hB13.mono z12)
            have SM3 := bm_same w13 p' le' ll' _ _ g es aw cw zone HRT.out HM.out (HC11.out.below hB113) (HW11.out.below hB113)
            rw [HEW.out] at SM3
            clear SM2 f0 f1 f2 f3 f4 f5 f6
            go_wp2_with fail
            refine SM3.mono ?_
            rintro y w14 ⟨rfl, hB14⟩
            have HB114 := Lib.hid (hB113.trans (hB14.mono hB113.size))
            clear SM3 hB12 hB13 hB14 hB113
            go_wp2
            go_roundw
            case rel => exact ⟨k + 1, _, by omega, by go_num, HM'.out, HBM11.out.below HB114.out, HL11.out.only (Only.of_below (S := []) HB114.out) (by simp), HO11.out.trans (Only.of_below (S := [le, ll, lb]) HB114.out)⟩
            case measure => simp [intOf]; omega
      · obtain rfl : k = l.length := by omega
        have hgr := hO.get HG4.out (by have := HBM4.out.lt; simp; omega)
        have c3 := HCS.out _ _ _ hgr
        have hBE : Below w.heap.size w wr := HBW4.out.trans (hO.below (B := w.heap.size) (by simp; omega) HBW4.out.size)
        have HBE := Lib.hid hBE
        have HGR4 := Lib.hid hgr
        have zr := hBE.size
        have zw : w.heap.size < wr.heap.size := (Array.getElem?_eq_some_iff.1 hgr).1
        have HEQZ : Hid (∀ W, (Op.equalIn 10000 41 (.agg (BEC BE.zero)) (.agg (BEC BE.zero))).run Try.prog W = .ok true W) := Lib.hid (fun W => by have := eq_be BE.zero BE.zero ⟨rfl, rfl, rfl, rfl, rfl, rfl⟩ ⟨rfl, rfl, rfl, rfl, rfl, rfl⟩ W; rwa [decide_eq_true rfl] at this)
        obtain ⟨Z, hZ⟩ : ∃ Z, BEC BE.zero = Z := ⟨_, rfl⟩
        by_cases hb : 0 ≤ block ∧ block < (n : Int)
        · obtain ⟨j, rfl⟩ := Int.eq_ofNat_of_zero_le hb.1
          obtain ⟨e, he⟩ : ∃ e, es[j]? = some e := ⟨_, List.getElem?_eq_getElem (by omega)⟩
          have HGT := Lib.hid (bget_in wr p le ll _ _ g es _ hbm j e he (by omega))
          have tb3 : j < n := by have := hb.2; omega
          clear hb he hbm hL hM hO hgr hBE c3 hZ
          go_wp2_with fail
          refine HGT.out.mono ?_
          rintro y w3 ⟨rfl, hB3⟩
          obtain ⟨W5, hW5⟩ : ∃ W5, w3.alloc (.cells (BEC e) 41) = W5 := ⟨_, rfl⟩
          have hB5 : Below wr.heap.size wr W5 := by rw [← hW5]; exact hB3.alloc hB3.size _
          have c3 := HCS.out _ _ _ ((hB5.block w.heap.size zw).trans HGR4.out)
          have HBF := Lib.hid (HBE.out.trans (hB5.mono zr))
          have HW5 := Lib.hid hW5
          clear hW5 hB5 hB3 HGT
          go_upto_region 35 with (refine wpList_store_row rfl 41 _ _ rfl w3.heap.size (BEC e) rfl rfl 41 (BEC BE.zero) (heap_alloc_new w3 _) (HIE.out _) (HSZ.out _) (HON.out _) ?_; rw [World.setRow_alloc_new])
          rw [HW5.out]
          go_wp2
          go_ret
          exact ⟨rfl, HBF.out⟩
        · have HGT := Lib.hid (bget_out wr p le ll _ _ g es _ hbm block (by omega))
          have hcb : (decide (0 ≤ block) = false) ∨ (decide (0 ≤ block) = true ∧ decide (block < (n : Int)) = false) := by
            by_cases b1 : 0 ≤ block
            · exact .inr ⟨decide_eq_true b1, decide_eq_false (fun h => hb ⟨b1, h⟩)⟩
            · exact .inl (decide_eq_false b1)
          rw [hZ] at HGT HEQZ hz
          have HIZ : Hid ((Try.prog.info? 41).map (·.size) = some Z.size) := Lib.hid (by rw [← hZ]; exact HIE.out _)
          have HOZ : Hid (Z.all (·.oneCell') = true) := Lib.hid (by rw [← hZ]; exact HON.out _)
          clear hb hbm hL hM hO hgr hBE c3 hZ
          rcases hcb with tb1 | ⟨tb1, tb2⟩
          · go_wp2_with fail
            refine HGT.out.mono ?_
            rintro y w3 ⟨rfl, hB3⟩
            obtain ⟨W5, hW5⟩ : ∃ W5, w3.alloc (.cells Z 41) = W5 := ⟨_, rfl⟩
            have hB5 : Below wr.heap.size wr W5 := by rw [← hW5]; exact hB3.alloc hB3.size _
            have hz5 : W5.heap[w3.heap.size]? = some (.cells Z 41 (0, 0)) := by rw [← hW5]; exact heap_alloc_new w3 _
            have c3 := HCS.out _ _ _ ((hB5.block w.heap.size zw).trans HGR4.out)
            have HBF := Lib.hid (HBE.out.trans (hB5.mono zr))
            have HW5 := Lib.hid hW5
            clear hW5 hB5 hB3 HGT
            go_upto_region 35 with (refine wpList_store_row rfl 41 _ _ rfl w3.heap.size Z rfl rfl 41 Z (heap_alloc_new w3 _) HIZ.out rfl HOZ.out ?_; rw [World.setRow_alloc_new])
            rw [HW5.out]
            go_wp2_with (first | (refine wpList_row_on (by rfl) 41 _ rfl w3.heap.size rfl 41 _ _ _ hz5 Try.underlying41 rfl HIZ.out ?_) | (refine wpList_eql_on (by rfl) 41 41 _ _ rfl Z Z rfl rfl (by kernel_rfl) true HEQZ.out ?_))
            go_ret
            exact ⟨rfl, HBF.out⟩
          · go_wp2_with fail
            refine HGT.out.mono ?_
            rintro y w3 ⟨rfl, hB3⟩
            obtain ⟨W5, hW5⟩ : ∃ W5, w3.alloc (.cells Z 41) = W5 := ⟨_, rfl⟩
            have hB5 : Below wr.heap.size wr W5 := by rw [← hW5]; exact hB3.alloc hB3.size _
            have hz5 : W5.heap[w3.heap.size]? = some (.cells Z 41 (0, 0)) := by rw [← hW5]; exact heap_alloc_new w3 _
            have c3 := HCS.out _ _ _ ((hB5.block w.heap.size zw).trans HGR4.out)
            have HBF := Lib.hid (HBE.out.trans (hB5.mono zr))
            have HW5 := Lib.hid hW5
            clear hW5 hB5 hB3 HGT
            go_upto_region 35 with (refine wpList_store_row rfl 41 _ _ rfl w3.heap.size Z rfl rfl 41 Z (heap_alloc_new w3 _) HIZ.out rfl HOZ.out ?_; rw [World.setRow_alloc_new])
            rw [HW5.out]
            go_wp2_with (first | (refine wpList_row_on (by rfl) 41 _ rfl w3.heap.size rfl 41 _ _ _ hz5 Try.underlying41 rfl HIZ.out ?_) | (refine wpList_eql_on (by rfl) 41 41 _ _ rfl Z Z rfl rfl (by kernel_rfl) true HEQZ.out ?_))
            go_ret
            exact ⟨rfl, HBF.out⟩
set_option maxRecDepth 100000 in
set_option maxHeartbeats 2000000 in
theorem bm_plays_walk (g : Geo.G) (a : Option Addr) (l : List (Int × BE)) (cp : Nat) (block zone : Int) (w : World) (hI : RowOf w 7 opC Op64 a l) :
    Calls Try.prog 9 #[.agg (GC g), .slice a l.length cp, .int .i64 block, .int .i64 zone] w fun e w' => e = .returned (.bool true) ∧ Below w.heap.size w w' := by
  have HA := Lib.hid (fun W => bm_anchor W)
  have HGI := Lib.hid (gsize (g := g))
  have HRGI := Lib.hid (rgsize (g := g))
  have hal := (Below.refl w.heap.size w).alloc (Nat.le_refl _) (.cells (GC g) 23)
  have hnew := heap_alloc_new w (.cells (GC g) 23)
  by_cases hl : l.length ≤ 60
  · cases hr : Geo.right g
    · have HN := Lib.hid (fun W => bnew_no g hr W)
      have HGR := Lib.hid (fun W => by have := grefright_any g W; rwa [hr] at this)
      have t1 : decide (60 < (l.length : Int)) = false := decide_eq_false (by omega)
      have hzg := (zero_of_info Try.infoRG).1
      have HG1 := Lib.hid (GC_one g)
      have HGZ : Hid ((GC ⟨0, 0, 0, 0, 0, 0⟩).size = (GC g).size) := Lib.hid rfl
      clear hI hl hr
      generalize GC g = C at *
      go_enter Try.func9, Try.ntmps9
      go_wp2_with fail
      refine (HA.out _).mono ?_
      rintro e w0 ⟨rfl, hB0⟩
      have hg0 := (hB0.block w.heap.size (by simp)).trans hnew
      have hBx := hal.trans (hB0.mono hal.size)
      have zz : w.heap.size < w0.heap.size := (Array.getElem?_eq_some_iff.1 hg0).1
      clear hal hnew hB0
      go_wp2_with (refine wpList_row_on (by rfl) 23 _ rfl w.heap.size rfl 23 _ _ _ hg0 Try.underlying23 rfl HGI.out ?_)
      refine (HN.out _).mono ?_
      rintro e w1 ⟨rfl, hB1⟩
      have hg1 := (hB1.block w.heap.size zz).trans hg0
      have hBW := hBx.trans (hB1.mono hBx.size)
      have z1 := hB1.size
      obtain ⟨W2, hW2⟩ : ∃ W2, w1.alloc (.cells C 26) = W2 := ⟨_, rfl⟩
      have hb2 : Below w1.heap.size w1 W2 := by rw [← hW2]; exact (Below.refl _ _).alloc (Nat.le_refl _) _
      have hx2 : W2.heap[w1.heap.size]? = some (.cells C 26 (0, 0)) := by rw [← hW2]; exact heap_alloc_new w1 _
      have hBW2 := hBW.trans (hb2.mono hBW.size)
      have HW2 := Lib.hid hW2
      clear hW2 hb2 hB1
      go_upto_region 7 with (first | (refine wpList_row_on (by rfl) 23 _ rfl w.heap.size rfl 23 _ _ _ hg1 Try.underlying23 rfl HGI.out ?_) | (refine wpList_store_row rfl 26 _ _ rfl w1.heap.size C rfl rfl 26 (GC ⟨0, 0, 0, 0, 0, 0⟩) (heap_alloc_new w1 _) HRGI.out HGZ.out HG1.out ?_; rw [World.setRow_alloc_new, HW2.out]))
      go_wp2_with (refine wpList_row_on (by rfl) 26 _ rfl w1.heap.size rfl 26 _ _ _ hx2 Try.underlying26 rfl HRGI.out ?_)
      refine (HGR.out _).mono ?_
      rintro e w3 ⟨rfl, hB3⟩
      have hBF := hBW2.trans (hB3.mono hBW2.size)
      go_wp2
      go_ret
      exact ⟨rfl, hBF⟩
    · have hs := ((Geo.right_iff g).1 hr).1
      exact bm_plays_core g g.b.toNat (by have := hs.2.2.2.1.1; omega) hr a l cp block zone w hI hl
  · have t1 : decide (60 < (l.length : Int)) = true := decide_eq_true (by omega)
    clear hI hl
    generalize GC g = C at *
    go_enter Try.func9, Try.ntmps9
    go_wp2_with fail
    refine (HA.out _).mono ?_
    rintro e w0 ⟨rfl, hB0⟩
    have hBx := hal.trans (hB0.mono hal.size)
    go_wp2
    go_ret
    exact ⟨rfl, hBx⟩
end Go.Proofs.Yteggijkcdlboeaa
