/- Proved here: what Run gives is what the document's Run gives (the law's same); a snapshot that is none is not rolled on. -/
import Derived.WalkLawsBesides
import Derived.LoopTactic
import Derived.Test.YtoiephmngdecaaaKao
import Derived.Test.YtoiephmngdecaaaKar
import Derived.Test.YtoiephmngdecaaaKax
import Derived.Test.YtoiephmngdecaaaKbf
namespace Go.Proofs.Ytoiephmngdecaaa
open Go.RowKit Go.Rv Rl Frm
set_option linter.unusedVariables false
attribute [local go_sem] Oper.semAt_some
namespace Rl
theorem singles_app : ∀ (l m : List Int) (b : Nat), singles (l ++ m) b = singles l b ++ singles m (b + l.length)
  | [], m, b => by simp [singles]
  | x :: l, m, b => by
    have ih := singles_app l m (b + 1); simp only [List.cons_append, singles, List.length_cons]; rw [show b + (l.length + 1) = b + 1 + l.length by omega]; split
    · rw [ih, List.cons_append]
    · exact ih
theorem singles_here {sg : List Int} {j : Nat} {y : Int} (h : sg[j]? = some y) (hy : 0 < y) : (singles sg 0)[(singles (sg.take j) 0).length]? = some (j : Int) := by
  have hj := (List.getElem?_eq_some_iff.1 h).1; have h1 := singles_app (sg.take j) (sg.drop j) 0; rw [List.take_append_drop] at h1; rw [h1, List.getElem?_append_right (Nat.le_refl _), Nat.sub_self, drop_at h, List.length_take, Nat.min_eq_left (by omega), Nat.zero_add]; unfold singles; rw [if_pos hy]; rfl
theorem singles_take {sg : List Int} {j : Nat} {y : Int} (h : sg[j]? = some y) : (singles (sg.take (j + 1)) 0).length = (singles (sg.take j) 0).length + (if 0 < y then 1 else 0) := by
  have hj := (List.getElem?_eq_some_iff.1 h).1; rw [List.take_add_one, h]; simp only [Option.toList_some]; rw [singles_snoc]; split <;> simp
end Rl
theorem eq_re17 (a b : BE) (ha : E64 a) (hb : E64 b) (w : World) : (Op.equalIn 10000 55 (.agg (BEC a)) (.agg (BEC b))).run Try.prog w = .ok (decide (a = b)) w := by
  have k1 : Try.prog.cellsOf 3 = 1 := by kernel_rfl
  have k6 : Try.prog.cellsOf 55 = 6 := by kernel_rfl
  have i : ∀ n : Int, (Lit.int .i64 n).wf = true → Try.prog.keyLits 2 3 [.int .i64 n] = some [.int .i64 n] := by
    intro n hn; simp only [Program.keyLits, Try.underlying3, hn, and_self, if_true]
  have hl : ∀ e : BE, E64 e → Try.prog.keyLits 3 55 (BEC e).toList = some (beLits e) := by
    intro e hn; obtain ⟨n0, n1, n2, n3, n4, n5⟩ := hn; have hlen : (BEC e).toList.length = 6 := rfl; unfold Program.keyLits; simp only [Try.underlying55, k6, hlen]; rw [if_pos ⟨trivial, by decide +kernel⟩]; simp only [List.mapM_cons, List.mapM_nil, k1, BEC, List.drop, List.take, i _ n0, i _ n1, i _ n2, i _ n3, i _ n4, i _ n5]; simp [beLits]
  have hF : ∀ e : BE, (Value.agg (BEC e)).formed Try.prog 55 = true := by
    intro e; simp only [Value.formed, Try.underlying55, BEC_size]; kernel_rfl
  exact eq_deep (by kernel_rfl) (hF a) (hF b) (hl a ha) (hl b hb) _ (by rw [decide_eq_true_eq]; exact ⟨fun h => by rw [h], beLits_inj⟩) w
set_option maxRecDepth 100000 in
set_option maxHeartbeats 64000000 in
theorem same17_any (w : World) (p le ll ce cl : Nat) (g : Geo.G) (es : List BE) (lv : List Int) (sg : List Int) (nx ap : Int) (av : Option Addr) (cv : Nat) (au : Option Addr) (nu cu : Nat) (aL : Option Addr) (cL : Nat) (aS : Option Addr) (cS : Nat) (hm : BmIs w p le ll ce cl g es lv) (hn : es.length ≤ 256) (h64 : ∀ e ∈ es, E64 e)
    (hS : RowOf w 1 iC (fun _ => True) av (Rl.singles sg 0)) (hL : RowOf w 6 BEC (fun _ => True) aL es) (hX : RowOf w 1 iC (fun _ => True) aS sg) (hsl : sg.length = es.length) (hsg : ∀ x ∈ sg, x = 0 ∨ x = 1) :
    Calls Try.prog 13 #[.agg (resC p nx ap (.slice av (Rl.singles sg 0).length cv) (.slice au nu cu)), .agg (rrC (.slice aL es.length cL) nx ap (.slice aS es.length cS))] w fun e w' => e = .returned (.bool true) ∧ Below w.heap.size w w' := by
  obtain ⟨n, hnn⟩ : ∃ n, es.length = n := ⟨_, rfl⟩; obtain ⟨ns, hns⟩ : ∃ n, (Rl.singles sg 0).length = n := ⟨_, rfl⟩; rw [hnn, hns]; rw [hnn] at hsl hn; have HN := Lib.hid (And.intro hnn (And.intro hns hsl)); have hnsb : ns ≤ 256 := by have := singles_len sg 0; omega
  obtain ⟨CR, hCR⟩ : ∃ C, resC p nx ap (.slice av ns cv) (.slice au nu cu) = C := ⟨_, rfl⟩; have HCR := Lib.hid hCR; rw [hCR]; obtain ⟨CX, hCX⟩ : ∃ C, rrC (.slice aL n cL) nx ap (.slice aS n cS) = C := ⟨_, rfl⟩; have HCX := Lib.hid hCX; rw [hCX]; obtain ⟨W0, hW0⟩ : ∃ W, ((w.alloc (.cells CR 35)).alloc (.cells CX 45)).alloc (.cells #[.bool false] 4) = W := ⟨_, rfl⟩; have hb0 : Below w.heap.size w W0 := by rw [← hW0]; exact (((Below.refl _ _).alloc (Nat.le_refl _) _).alloc (by simp) _).alloc (by simp; omega) _
  obtain ⟨hr0, hx0, hc0⟩ : W0.heap[w.heap.size]? = some (.cells CR 35 (0, 0)) ∧ W0.heap[w.heap.size + 1]? = some (.cells CX 45 (0, 0)) ∧ W0.heap[w.heap.size + 1 + 1]? = some (.cells #[.bool false] 4 (0, 0)) := by
    rw [← hW0]; refine ⟨?_, ?_, ?_⟩
    · exact (alloc_old _ _ (by simp; omega)).trans ((alloc_old _ _ (by simp)).trans (alloc_new _ _ rfl))
    · exact (alloc_old _ _ (by simp)).trans (alloc_new _ _ (by simp))
    · exact alloc_new _ _ (by simp)
  have HW0 := Lib.hid hW0; have HB0 := Lib.hid hb0; have hm0 := hm.below hb0; have HS0 := Lib.hid (hS.below hb0); have HL0 := Lib.hid (hL.below hb0); have HX0 := Lib.hid (hX.below hb0); have H64 := Lib.hid h64; have HSG := Lib.hid hsg; have HAL := Lib.hid (fun W (hW : Below W0.heap.size W0 W) => ball_any W p _ _ _ (hm0.below hW).cells.1); have HM0 := Lib.hid hm0; clear hm hS hL hX h64 hsg hnn hns hsl hCR hCX hW0 hb0 hm0; refine calls_of_marks Try.func13 rfl ?_; simp only [Try.ntmps13, List.size_toArray, List.length_cons, List.length_nil, Nat.reduceAdd, Nat.reduceSub, Array.replicate_succ, Array.replicate_zero, List.push_toArray, List.append_toArray, List.nil_append, List.cons_append]; go_upto_region 1 with (fail); rw [HW0.out]; obtain ⟨b1, q1⟩ : ∃ b, w.heap.size + 1 = b := ⟨_, rfl⟩; obtain ⟨b2, q2⟩ : ∃ b, w.heap.size + 1 + 1 = b := ⟨_, rfl⟩; have zb : w.heap.size < b1 ∧ b1 < b2 ∧ b2 < W0.heap.size := by have := (Array.getElem?_eq_some_iff.1 hc0).1; omega
  rw [q2] at hc0 ⊢; rw [q1] at hx0 ⊢; have HC0 := Lib.hid hc0
  have HRES : Hid (∀ W, Below W0.heap.size W0 W → W.cell? ⟨w.heap.size, 0, none⟩ = some (.pointer (some ⟨p, 0, none⟩)) ∧ W.cell? ⟨w.heap.size, 1, none⟩ = some (.int .i64 nx) ∧ W.cell? ⟨w.heap.size, 2, none⟩ = some (.int .i64 ap) ∧ W.cell? ⟨w.heap.size, 3, none⟩ = some (.slice av ns cv)) := Lib.hid (fun W hW => by
    have h1 := (hW.block w.heap.size (by omega)).trans hr0; rw [← HCR.out] at h1; exact ⟨(cell_of_row _ _ _ _ _ _ h1).trans rfl, (cell_of_row _ _ _ _ _ _ h1).trans rfl, (cell_of_row _ _ _ _ _ _ h1).trans rfl, (cell_of_row _ _ _ _ _ _ h1).trans rfl⟩)
  have HXB : Hid (∀ W, Below W0.heap.size W0 W → W.heap[b1]? = some (.cells (rrC (.slice aL n cL) nx ap (.slice aS n cS)) 45 (0, 0))) := Lib.hid (fun W hW => by
    rw [HCX.out]; exact (hW.block b1 (by omega)).trans hx0)
  obtain ⟨y0, y1, y2, y3⟩ := HRES.out W0 (Below.refl _ _); obtain ⟨-, z1, z2, -⟩ := rr_cells (HXB.out W0 (Below.refl _ _)); have t1 : (nx != nx) = false := by simp
  have t2 : (ap != ap) = false := by simp
  clear hr0 hx0 hc0 q1 q2; go_upto_region 3 with (fail); clear y1 y2 y3 z1 z2 t1 t2; go_wp2_with fail; refine (HAL.out _ (Below.refl _ _)).mono ?_; rintro e7 w7' ⟨rfl, rfl⟩; have hm7 := HM0.out; obtain ⟨W1, hW1⟩ : ∃ W1, W0.alloc (.cells #[.slice (some ⟨le, 0, none⟩) es.length ce] 115) = W1 := ⟨_, rfl⟩; have hb1 : Below W0.heap.size W0 W1 := by rw [← hW1]; exact (Below.refl _ _).alloc (Nat.le_refl _) _
  have hsl : W1.heap[W0.heap.size]? = some (.cells #[.slice (some ⟨le, 0, none⟩) es.length ce] 115 (0, 0)) := by rw [← hW1]; exact heap_alloc_new W0 _
  have hm1 : BmIs W1 p le ll ce cl g es lv := hm7.below hb1; have hlt := hm1.lt; have HSTP := Lib.hid (eall1_stops 7 (by omega) W0.heap.size le (some ⟨le, 0, none⟩) ce es W1 (cell_of_one hsl) hm1.rows (fun x e => by cases e; rfl) hlt.2.1 (by have := HN.out.1; omega)); have z1 : W0.heap.size < W1.heap.size := (Array.getElem?_eq_some_iff.1 hsl).1; have HB1 := Lib.hid hb1; have HBW1 := Lib.hid (HB0.out.trans (hb1.mono HB0.out.size)); have HIE := Lib.hid (fun e => esize e); have HON := Lib.hid (fun e => BEC_one e); have hz := (zero_of_info Try.infoEnt).1; have HSZ : Hid (∀ e : BE, (BEC BE.zero).size = (BEC e).size) := Lib.hid (fun e => by rw [BEC_size, BEC_size]); rw [hW1]; clear y0 hW1 hb1 hsl hm1 hlt hm7; go_wp2; refine (wpIn_wide (n := 8)).1 (wpIn_rangeT2 (encs := ieV) rfl (by omega) (gf := 57) (lb := #[.pointer (some ⟨W0.heap.size, 0, none⟩)]) rfl trivial (enters_of Try.func57 (by kernel_rfl) rfl)
    HSTP.out (Below.refl _ _) (fun _ => rfl)
    [] (by simp) (by simp)
    (fun pre W => Only [] W1 W)
    (fun _ _ _ => False)
    (AbT.only (Nat.le_refl _) (by simp))
    (fun _ => AbT.pure _ _ _) (Only.refl _ _)
    ?fr (fun x Be W' => W'.heap[Be]? = some (.cells (BEC x.1) 54 (0, 0))) (fun x Be => AbT.row (fun _ => BEC x.1) (by simp)) ?assign ?body ?done ?stop)
  case assign =>
    intro rr pre x W2 K _ hI hK; have HK2 := Lib.hid hK; clear hK; unfold ieV; gi_wp2_with (refine wpListIn_store_row (by rfl) 54 _ _ rfl W2.heap.size (BEC x.1) rfl rfl 54 (BEC BE.zero) (heap_alloc_new W2 _) (HIE.out _) (HSZ.out _) (HON.out _) ?_; rw [World.setRow_alloc_new]); obtain ⟨Be, hBe⟩ : ∃ Be, W2.heap.size = Be := ⟨_, rfl⟩; have hn := heap_alloc_new W2 (.cells (BEC x.1) 54); rw [hBe] at hn ⊢; exact HK2.out Be _ ((Only.refl _ _).alloc _) hn
  case body =>
    rintro rr pre x Be W2 _ hrr hO2 hE hlen hsp; obtain ⟨e1, e2, e3, e4⟩ := zip_next hsp; have hmem := List.mem_of_getElem? e2; have h64e := H64.out _ hmem; obtain ⟨e, i⟩ := x; simp only at e1 e2 h64e hE; subst e1; have HNE : Hid (∀ W, (Op.equalIn 10000 55 (.agg (BEC e)) (.agg (BEC e))).run Try.prog W = .ok true W) := Lib.hid (fun W => by have := eq_re17 e e h64e h64e W; rwa [decide_eq_true rfl] at this); have zO := hO2.size; have zB : Be < W2.heap.size := (Array.getElem?_eq_some_iff.1 hE).1; have HE2 := Lib.hid hE; have HO2 := Lib.hid hO2; have hpl : pre.length < es.length := by assumption
    rw [HN.out.1] at hpl; have hbw2 : Below W0.heap.size W0 W2 := HB1.out.trans (hO2.below (by simp) HB1.out.size); have HX2 := Lib.hid (HXB.out W2 hbw2); obtain ⟨lb, lo, rfl, -, -, -⟩ := HL0.out.at e2
    have HSIX : Hid (∀ W, Below W2.heap.size W2 W → W.cell? ⟨lb, lo + pre.length * 6, none⟩ = some (.int .i64 e.st) ∧ W.cell? ⟨lb, lo + pre.length * 6 + 1, none⟩ = some (.int .i64 e.z) ∧ W.cell? ⟨lb, lo + pre.length * 6 + 2, none⟩ = some (.int .i64 e.m) ∧ W.cell? ⟨lb, lo + pre.length * 6 + 3, none⟩ = some (.int .i64 e.o) ∧ W.cell? ⟨lb, lo + pre.length * 6 + 4, none⟩ = some (.int .i64 e.q) ∧ W.cell? ⟨lb, lo + pre.length * 6 + 5, none⟩ = some (.int .i64 e.s)) := Lib.hid (fun W hW => by
      obtain ⟨b', o', e', -, hc', -⟩ := (HL0.out.below (hbw2.trans (hW.mono hbw2.size))).at e2; cases e'; exact ⟨hc' 0 (by omega), hc' 1 (by omega), hc' 2 (by omega), hc' 3 (by omega), hc' 4 (by omega), hc' 5 (by omega)⟩)
    have HBEC : Hid (BEC e = #[.int .i64 e.st, .int .i64 e.z, .int .i64 e.m, .int .i64 e.o, .int .i64 e.q, .int .i64 e.s]) := Lib.hid rfl; clear hE hO2 e2 h64e hsp hlen hmem e4 hbw2; gi_wp2_with fail; refine wpIn_region_conf2 6 [Fact.eq (.agg (BEC e)), Fact.eq (.pointer (some ⟨b1, 0, none⟩)), Fact.eq (.slice (some ⟨lb, lo, none⟩) n cL), Fact.eq (.int .i64 (pre.length : Nat)), Fact.eq (.pointer (some ⟨lb, lo + pre.length * 6, none⟩)), Fact.eq (.agg (BEC e))] ?raA (by kernel_rfl) (by kernel_rfl) ?rahA ?raho ?rahend
    case rahA =>
      intro vv; simp only [putRules, Nat.reduceAdd]; rfl
    case raho =>
      refine ⟨?_, ?_, ?_, ?_, ?_, ?_, trivial⟩
      · intro vv W K hB hd HK; simp only [confRules] at HK; clear hd; have hT := (hB.block Be zB).trans HE2.out; refine wpListIn_row_on (by rfl) 54 _ rfl Be rfl 54 _ _ _ hT Try.underlying54 rfl (HIE.out _) ?_; refine HK.out _ _ (Below.refl _ _) ?_; rfl
      · intro vv W K hB hd HK; simp only [confRules] at HK; clear hd; gi_wp2; refine HK.out _ _ (Below.refl _ _) ?_; rfl
      · intro vv W K hB hd HK; simp only [confRules] at hd HK; have h1 := hd; clear hd; simp only [h1] at HK ⊢; clear h1; have hT := (rr_cells ((hB.block b1 (by omega)).trans HX2.out)).1; gi_wp2; refine HK.out _ _ (Below.refl _ _) ?_; rfl
      · intro vv W K hB hd HK; simp only [confRules] at HK; clear hd; gi_wp2; refine HK.out _ _ (Below.refl _ _) ?_; rfl
      · intro vv W K hB hd HK; simp only [confRules] at hd HK; obtain ⟨h2, h3⟩ := hd; simp only [h2, h3] at HK ⊢; clear h2 h3; gi_wp2; refine HK.out _ _ (Below.refl _ _) ?_; rfl
      · intro vv W K hB hd HK; simp only [confRules] at hd HK; have h4 := hd; clear hd; simp only [h4] at HK ⊢; clear h4; obtain ⟨d0, d1, d2, d3, d4, d5⟩ := HSIX.out W hB; rw [HBEC.out] at HK; gi_wp2; refine HK.out _ _ (Below.refl _ _) ?_; rfl
    case rahend =>
    intro vv W hB hf; have e0 := hf 0 (by decide); have e5 := hf 5 (by decide); simp only [endRules] at e0 e5; simp only [e0, e5, dropRules]; clear hf e0 e5; gi_wp2_with (refine wpListIn_neq_on (by rfl) 55 55 _ _ rfl (BEC e) (BEC e) rfl rfl (by kernel_rfl) true HNE.out ?_); exact ⟨Only.of_below hB, HO2.out.trans (Only.of_below hB)⟩
  case done =>
    rintro D xs W2 hD rfl hO2 hK; have zO := hO2.size; have zD : D < W2.heap.size := (Array.getElem?_eq_some_iff.1 hK).1; have HKD := Lib.hid hK; have hb2 : Below W0.heap.size W0 W2 := HB1.out.trans (hO2.below (by simp) HB1.out.size); have HB2 := Lib.hid hb2; have HC2 := Lib.hid ((hb2.block b2 (by omega)).trans HC0.out); have HBF := Lib.hid (HB0.out.trans (hb2.mono HB0.out.size)); have c3 := (HRES.out W2 hb2).2.2.2; have x3 := (rr_cells (HXB.out W2 hb2)).2.2.2; have HX2 := Lib.hid (HX0.out.below hb2); have HS2 := Lib.hid (HS0.out.below hb2); have HDB : Hid (D ≠ b2) := Lib.hid (by have := zO; omega); clear hK hb2; go_upto_region 10 with (fail); clear x3; go_loopw [7, 42] (fun x u wr => ∃ j : Nat, j ≤ n ∧ u = .int .i64 j ∧ x = .int .i64 ((Rl.singles (sg.take j) 0).length : Nat) ∧ wr = W2) (fun _ u _ => n - (intOf u).toNat)
    case atStart => exact ⟨0, Nat.zero_le _, rfl, rfl, rfl⟩
    case round =>
      obtain ⟨j, hj, rfl, rfl, rfl⟩ := hrel; by_cases hlt : j < n
      · obtain ⟨y, hy⟩ : ∃ y, sg[j]? = some y := ⟨_, List.getElem?_eq_getElem (by rw [HN.out.2.2]; exact hlt)⟩; obtain ⟨sb, so, rfl, -, hyc, -⟩ := HX2.out.at hy
        have hcy : wr.cell? ⟨sb, so + j, none⟩ = some (.int .i64 y) := by
          have h1 := hyc 0 (by omega); rw [Nat.mul_one, Nat.add_zero] at h1; exact h1
        have hlen := singles_take hy; obtain ⟨k, hk⟩ : ∃ k, (Rl.singles (sg.take j) 0).length = k := ⟨_, rfl⟩; have hkb : k ≤ 256 := by rw [← hk]; have h1 := singles_len (sg.take j) 0; rw [List.length_take] at h1; omega
        rcases HSG.out y (List.mem_of_getElem? hy) with rfl | rfl
        · have HLN : Hid ((Rl.singles (sg.take (j + 1)) 0).length = k) := Lib.hid (by rw [hlen, hk]; simp); rw [hk]; clear hlen hk hyc hy; go_wp2; exact ⟨⟨j + 1, by omega, by go_num, by rw [HLN.out], trivial⟩, by simp [intOf]; omega⟩
        · have hat := singles_here hy (by omega); rw [hk] at hat; obtain ⟨vb, vo, rfl, -, hvc, -⟩ := HS2.out.at hat
          have hcv : wr.cell? ⟨vb, vo + k, none⟩ = some (.int .i64 (j : Nat)) := by
            have h1 := hvc 0 (by omega); rw [Nat.mul_one, Nat.add_zero] at h1; exact h1
          have hkn : k < ns := by have h1 := (List.getElem?_eq_some_iff.1 hat).1; have h2 := HN.out.2.1; omega
          have HLN : Hid ((Rl.singles (sg.take (j + 1)) 0).length = k + 1) := Lib.hid (by rw [hlen, hk]; simp); rw [hk]; have t1 : decide (ns ≤ k) = false := decide_eq_false (by omega); have t2 : decide ((ns : Int) ≤ (k : Int)) = false := decide_eq_false (by omega); have t3 : ((j : Int) != (j : Int)) = false := by simp
          clear hlen hk hyc hy hat hvc; go_wp2; exact ⟨⟨j + 1, by omega, by go_num, by rw [HLN.out]; go_num, trivial⟩, by simp [intOf]; omega⟩
      · have hjn : j = n := by omega
        have hkk : (Rl.singles (sg.take j) 0).length = ns := by rw [hjn, List.take_of_length_le (by rw [HN.out.2.2]; exact Nat.le_refl _)]; exact HN.out.2.1
        rw [hkk]; have t5 : ((ns : Int) == (ns : Int)) = true := by simp
        have hcr := cell_of_one HC2.out; have hfr := free_of_one HC2.out; clear hjn hkk; go_wp2; refine leave_marks (v := .bool true) [D] _ (by simp) (by intro E hE; rw [List.mem_singleton.1 hE]; exact ((Only.refl [b2] _).setCell (.inl (by simp)) _).get HKD.out (by simpa using HDB.out)) ?_; intro W' hO'; have hr' := hO'.get (one_setCell HC2.out) (by simpa using Ne.symm HDB.out); have hc' := cell_of_one hr'; refine ⟨by simp [results, Try.results13, go_sem, hc'], rfl, ?_⟩; have h2 : Only [b2] wr (wr.setCell ⟨b2, 0, none⟩ (.bool true)) := (Only.refl _ _).setCell (.inl (by simp)) _; have h3 : Below w.heap.size w (wr.setCell ⟨b2, 0, none⟩ (.bool true)) := HBF.out.trans (h2.below (by simp; omega) HBF.out.size); exact h3.trans (hO'.below (by simp; omega) h3.size)
  case stop =>
    rintro D c pre W _ _ h _; exact h.elim
end Go.Proofs.Ytoiephmngdecaaa
namespace Go.Proofs.Ytoiephmngdecaaa
open Go.RowKit Go.Rv Rl Frm
set_option linter.unusedVariables false
attribute [local go_sem] Oper.semAt_some
set_option maxRecDepth 100000 in
set_option maxHeartbeats 8000000 in
theorem rrun_bad (w : World) (SX : Array Value) (hSI : (Try.prog.info? 29).map (·.size) = some SX.size) (hSR : ∀ W, Below w.heap.size w W → Calls Try.prog 26 #[.agg SX] W fun e w' => e = .returned (.bool false) ∧ Below W.heap.size W w') (a : Option Addr) (n cap : Nat) :
    Calls Try.prog 11 #[.agg Tb.tabV, .agg SX, .slice a n cap] w fun e w' => e = .returned (.tuple #[.agg ResZ, .int .i64 10]) ∧ Below w.heap.size w w' := by
  have hzr := (zero_of_info Try.infoRes).1; have HSI := Lib.hid hSI; have HRI := Lib.hid (zero_of_info Try.infoRes).2; have hBR := built_resz; have HBZ := Lib.hid hBR; have HRIT := Lib.hid hSR; obtain ⟨TV, hTV⟩ : ∃ T, Tb.tabV = T := ⟨_, rfl⟩; rw [hTV]; obtain ⟨W1, hW1⟩ : ∃ W, w.alloc (.cells TV 41) = W := ⟨_, rfl⟩; have hb1 : Below w.heap.size w W1 := by rw [← hW1]; exact (Below.refl _ _).alloc (Nat.le_refl _) _
  have zs1 : W1.heap.size = w.heap.size + 1 := by rw [← hW1]; simp
  obtain ⟨W2, hW2⟩ : ∃ W, W1.alloc (.cells SX 29) = W := ⟨_, rfl⟩; have hb2 : Below W1.heap.size W1 W2 := by rw [← hW2]; exact (Below.refl _ _).alloc (Nat.le_refl _) _
  have hs2 : W2.heap[W1.heap.size]? = some (.cells SX 29 (0, 0)) := by rw [← hW2]; exact heap_alloc_new W1 _
  have zs2 : W1.heap.size < W2.heap.size := (Array.getElem?_eq_some_iff.1 hs2).1; have ze2 : W2.heap.size = w.heap.size + 1 + 1 := by rw [← hW2, ← hW1]; simp
  obtain ⟨W3, hW3⟩ : ∃ W, W2.alloc (.cells ResZ 35) = W := ⟨_, rfl⟩; have hb3 : Below W2.heap.size W2 W3 := by rw [← hW3]; exact (Below.refl _ _).alloc (Nat.le_refl _) _
  have hr3 : W3.heap[W2.heap.size]? = some (.cells ResZ 35 (0, 0)) := by rw [← hW3]; exact heap_alloc_new W2 _
  have hs3 := (hb3.block _ zs2).trans hs2; have hB3 : Below w.heap.size w W3 := (hb1.trans (hb2.mono (by omega))).trans (hb3.mono (by omega)); have zr3 : W2.heap.size < W3.heap.size := (Array.getElem?_eq_some_iff.1 hr3).1; have HW1 := Lib.hid hW1; have HW2 := Lib.hid hW2; have HW3 := Lib.hid hW3; have HS3 := Lib.hid hs3; have HR3 := Lib.hid hr3; have HB3 := Lib.hid hB3; clear hSI hSR hTV hW1 hb1 hW2 hb2 hs2 hW3 hb3 hr3 hs3 hB3; go_enter Try.func11, Try.ntmps11; go_upto_region 1 with (fail); rw [HW1.out, HW2.out, HW3.out]; rw [ze2] at HR3 zr3 zs2; rw [zs1] at HS3 zs2; clear ze2 zs1; obtain ⟨b6, hb6⟩ : ∃ b, w.heap.size + 1 + 1 = b := ⟨_, rfl⟩; obtain ⟨b4, hb4⟩ : ∃ b, w.heap.size + 1 = b := ⟨_, rfl⟩; have hw4 : w.heap.size < b4 := by omega
  rw [hb6] at HR3 zr3 zs2 ⊢; rw [hb4] at HS3 zs2 ⊢; clear hb4 hb6; go_wp2_with (refine wpList_load_row rfl 29 _ rfl b4 rfl 29 _ _ _ HS3.out Try.underlying29 rfl HSI.out ?_); refine (HRIT.out _ HB3.out).mono ?_; rintro e1 w1 ⟨rfl, hB1⟩; have z1 := hB1.size; have HR1 := Lib.hid ((hB1.block _ zr3).trans HR3.out); have HB1 := Lib.hid (HB3.out.trans (hB1.mono HB3.out.size)); clear hB1; go_upto_region 2 with (fail); go_wp2_with (first | (refine wpList_build_on (by rfl) 35 _ rfl #[] (by simp) _ HBZ.out ?_) | (refine wpList_store_row rfl 35 _ _ rfl b6 ResZ rfl rfl 35 ResZ HR1.out HRI.out rfl (by simp [ResZ, Value.oneCell']) ?_)); have hf := setRow_heap _ _ _ ResZ _ _ HR1.out; refine bodyPost_ret (res_row_tmp rfl _ _ b6 35 ResZ _ _ rfl hf Try.underlying35 rfl HRI.out) rfl ?_; exact ⟨rfl, below_setRow HB1.out (by omega) _⟩
set_option maxRecDepth 100000 in
set_option maxHeartbeats 4000000 in
theorem sright_nil (w : World) : Calls Try.prog 26 #[.agg SZ] w fun e w' => e = .returned (.bool false) ∧ Below w.heap.size w w' := by
  have HSC : Hid (∀ (W : World) (b : Nat), W.heap[b]? = some (.cells SZ 29 (0, 0)) → W.cell? ⟨b, 3, none⟩ = some (.pointer none)) := Lib.hid (fun W b h => (cell_of_row _ _ _ _ _ _ h).trans rfl); generalize hC : SZ = C at *; clear hC; have hB0 : Below w.heap.size w ((w.alloc (.cells C 29)).alloc (.cells #[.bool false] 4)) := ((Below.refl _ _).alloc (Nat.le_refl _) _).alloc (by simp) _; obtain ⟨W0, hW0⟩ : ∃ W0, (w.alloc (.cells C 29)).alloc (.cells #[.bool false] 4) = W0 := ⟨_, rfl⟩; have hS0 : W0.heap[w.heap.size]? = some (.cells C 29 (0, 0)) := by rw [← hW0]; exact heap_alloc2_old w _ _
  have hO0 : W0.heap[w.heap.size + 1]? = some (.cells #[.bool false] 4 (0, 0)) := by rw [← hW0]; exact heap_alloc2_new w _ _
  rw [hW0] at hB0; have HW0 := Lib.hid hW0; have HB0 := Lib.hid hB0; have HO0 := Lib.hid hO0; have c3 := HSC.out _ _ hS0; have hc1 := cell_of_one hO0; have hf1 := free_of_one hO0; clear hW0 hB0 hO0 hS0; go_enter Try.func26, Try.ntmps26; go_upto_region 1 with (fail); rw [HW0.out]
  have hfin : ∀ W', W' = W0.setCell ⟨w.heap.size + 1, 0, none⟩ (.bool false) → W'.cell? ⟨w.heap.size + 1, 0, none⟩ = some (.bool false) ∧ Below w.heap.size w W' := by
    rintro W' rfl; have h2 : Only [w.heap.size + 1] W0 (W0.setCell ⟨w.heap.size + 1, 0, none⟩ (.bool false)) := (Only.refl _ _).setCell (.inl (by simp)) _; exact ⟨cell_of_one (one_setCell HO0.out), HB0.out.trans (h2.below (by simp) HB0.out.size)⟩
  have HFIN := Lib.hid hfin; clear hfin; go_wp2; obtain ⟨hc', hB'⟩ := HFIN.out _ rfl; refine bodyPost_ret (v := .bool false) (by simp [results, Try.results26, go_sem, hc']) rfl ?_; exact ⟨rfl, hB'⟩
end Go.Proofs.Ytoiephmngdecaaa
