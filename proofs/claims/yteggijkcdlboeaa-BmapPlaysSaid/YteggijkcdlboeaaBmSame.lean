/- Proved here: a map that holds a list is told to be that list (the law's 'same'). -/
import Derived.Test.YteggijkcdlboeaaBmRefIn
import Derived.Test.YteggijkcdlboeaaBmSetAny
import Derived.Test.YteggijkcdlboeaaBmSum
namespace Go.Proofs.Yteggijkcdlboeaa
open Go.RowKit Go.Rv Go.Shelf
set_option linter.unusedVariables false
attribute [local go_sem] Oper.semAt_some
theorem eq_re (a b : BE) (ha : E64 a) (hb : E64 b) (w : World) : (Op.equalIn 10000 53 (.agg (BEC a)) (.agg (BEC b))).run Try.prog w = .ok (decide (a = b)) w := by
  have k1 : Try.prog.cellsOf 3 = 1 := by kernel_rfl
  have k6 : Try.prog.cellsOf 53 = 6 := by kernel_rfl
  have i : ∀ n : Int, (Lit.int .i64 n).wf = true → Try.prog.keyLits 2 3 [.int .i64 n] = some [.int .i64 n] := by
    intro n hn
    simp only [Program.keyLits, Try.underlying3, hn, and_self, if_true]
  have hl : ∀ e : BE, E64 e → Try.prog.keyLits 3 53 (BEC e).toList = some (beLits e) := by
    intro e hn
    obtain ⟨n0, n1, n2, n3, n4, n5⟩ := hn
    have hlen : (BEC e).toList.length = 6 := rfl
    unfold Program.keyLits
    simp only [Try.underlying53, k6, hlen]
    rw [if_pos ⟨trivial, by decide +kernel⟩]
    simp only [List.mapM_cons, List.mapM_nil, k1, BEC, List.drop, List.take, i _ n0, i _ n1, i _ n2, i _ n3, i _ n4, i _ n5]
    simp [beLits]
  have hF : ∀ e : BE, (Value.agg (BEC e)).formed Try.prog 53 = true := by
    intro e
    simp only [Value.formed, Try.underlying53, BEC_size]
    kernel_rfl
  exact eq_deep (by kernel_rfl) (hF a) (hF b) (hl a ha) (hl b hb) _ (by rw [decide_eq_true_eq]; exact ⟨fun h => by rw [h], beLits_inj⟩) w
theorem inL_len_aux (zone : Int) : ∀ (es : List BE) (k : Nat), (inP zone (es.zipIdx k)).length = liveN es zone
  | [], k => rfl
  | e :: es, k => by
    have ih := inL_len_aux zone es (k + 1)
    unfold inP pickP liveN at ih ⊢
    simp only [List.zipIdx_cons, List.filter_cons]
    cases hits e zone <;> simp at ih ⊢ <;> omega
theorem inL_len (es : List BE) (zone : Int) : (inL es zone).length = liveN es zone := inL_len_aux zone es 0
theorem liveN_out {n : Nat} {es : List BE} (h : ∀ e ∈ es, ZOk n e) {z : Int} (hz : z < 0 ∨ (n : Int) ≤ z) : liveN es z = 0 := by
  unfold liveN
  rw [List.length_eq_zero_iff, List.filter_eq_nil_iff]
  intro e he hh
  unfold hits at hh
  simp only [Bool.and_eq_true, Bool.or_eq_true, beq_iff_eq] at hh
  have := h e he hh.1
  omega
/-- how many lie in a zone, whatever the zone -/
theorem blive_any (w : World) (p le ll ce cl : Nat) (g : Geo.G) (es : List BE) (hr : Geo.right g = true) (hM : MapOk g es) (h : BmIs w p le ll ce cl g es (liveL (nz g) es)) (z : Int) :
    Calls Try.prog 27 #[.pointer (some ⟨p, 0, none⟩), .int .i64 z] w fun e w' => e = .returned (.int .i64 ((inL es z).length : Nat)) ∧ w = w' := by
  have hs := ((Geo.right_iff g).1 hr).1
  have hnz2 : nz g ≤ 512 := by have := (Geo.dz_bd hs).2; unfold nz; omega
  rw [inL_len]
  by_cases hz : 0 ≤ z ∧ z < (nz g : Int)
  · obtain ⟨j, rfl⟩ := Int.eq_ofNat_of_zero_le hz.1
    exact blive_in w p le ll ce cl g es _ h j _ (liveL_at (by omega)) (by rw [liveL_length]; omega)
  · rw [liveN_out (n := nz g) (fun e he => zok_of_right hs (hM.ok e he).1) (by omega)]
    exact blive_out w p le ll ce cl g es _ h z (by rw [liveL_length]; omega)
def stC (pre : List (BE × Nat)) : Array Value := #[.int .i64 (countB (pre.map (·.1)) 0 : Nat), .int .i64 (countB (pre.map (·.1)) 1 : Nat), .int .i64 (countB (pre.map (·.1)) 2 : Nat)]
theorem countB_app (l : List BE) (e : BE) (s : Int) : countB (l ++ [e]) s = countB l s + if e.st = s then 1 else 0 := by
  unfold countB
  rw [List.filter_append, List.length_append]
  by_cases h : e.st = s <;> simp [h]
theorem stC_step (pre : List (BE × Nat)) (e : BE) (j : Nat) (he : e.st = (j : Nat)) (hj : j < 3) : (stC pre).setIfInBounds j (.int .i64 ((countB (pre.map (·.1)) j : Nat) + 1)) = stC (pre ++ [(e, pre.length)]) := by
  unfold stC
  rw [List.map_append, List.map_cons, List.map_nil, countB_app, countB_app, countB_app, he]
  match j, hj with
  | 0, _ => simp
  | 1, _ => simp
  | 2, _ => simp
theorem _root_.Go.Rv.callsIn_round {P : Program} {rr n : Nat} {f : FuncId} {args : Array Value} {w : World} {R : Ending → World → Prop} (h : Calls P f args w R) : CallsIn (Fence.wide.inRound rr) n P f args w R := (callsIn_wide (n := n)).2 h
theorem pre_next {α : Type} {l pre : List α} {x : α} (h : pre ++ [x] <+: l) : l[pre.length]? = some x ∧ pre.length < l.length := by
  obtain ⟨t, rfl⟩ := h
  simp
theorem zip_fst (es : List BE) : es.zipIdx.map (·.1) = es := by simp
theorem count3 {es : List BE} (h : ∀ e ∈ es, e.st = 0 ∨ e.st = 1 ∨ e.st = 2) : countB es 3 = 0 := by
  unfold countB
  rw [List.length_eq_zero_iff, List.filter_eq_nil_iff]
  intro e he hh
  simp only [beq_iff_eq] at hh
  have := h e he
  omega
set_option maxRecDepth 100000 in
set_option maxHeartbeats 8000000 in
theorem bm_same (w : World) (p le ll ce cl : Nat) (g : Geo.G) (es : List BE) (a : Option Addr) (cp : Nat) (zone : Int) (hr : Geo.right g = true) (hM : MapOk g es) (hm : BmIs w p le ll ce cl g es (liveL (nz g) es)) (hR : RowOf w 6 BEC (fun _ => True) a es) :
    Calls Try.prog 34 #[.pointer (some ⟨p, 0, none⟩), .slice a es.length cp, .int .i64 zone] w fun e w' => e = .returned (.bool true) ∧ Below w.heap.size w w' := by
  have hs := ((Geo.right_iff g).1 hr).1
  have hes : es.length ≤ 256 := by have h1 := hM.len; have h2 := hs.2.2.2.1.2; omega
  have HM := Lib.hid hM
  have HBM := Lib.hid hm
  have HR := Lib.hid hR
  have HIE := Lib.hid (fun e => esize e)
  have HON := Lib.hid (fun e => BEC_one e)
  have hz := (zero_of_info Try.infoEnt).1
  have HSZ : Hid (∀ e : BE, (BEC BE.zero).size = (BEC e).size) := Lib.hid (fun e => by rw [BEC_size, BEC_size])
  have HRT := Lib.hid hr
  clear hm hR hM hs hr
  refine calls_of_marks Try.func34 rfl ?_
  simp only [Try.ntmps34, List.size_toArray, List.length_cons, List.length_nil, Nat.reduceAdd, Nat.reduceSub, Array.replicate_succ, Array.replicate_zero, List.push_toArray, List.append_toArray, List.nil_append, List.cons_append]
  go_wp2_with fail
  obtain ⟨W0, hW0⟩ : ∃ W0, ((((w.alloc (.cells #[.pointer (some ⟨p, 0, none⟩)] 36)).alloc (.cells #[.slice a es.length cp] 51)).alloc (.cells #[.bool false] 4)).alloc (.cells #[.int .i64 0] 3)).alloc (.cells #[.int .i64 0, .int .i64 0, .int .i64 0] 67) = W0 := ⟨_, rfl⟩
  have hb0 : Below w.heap.size w W0 := by rw [← hW0]; exact (((((Below.refl _ w).alloc (Nat.le_refl _) _).alloc (by simp) _).alloc (by simp; omega) _).alloc (by simp; omega) _).alloc (by simp; omega) _
  have z0 : W0.heap.size = w.heap.size + 1 + 1 + 1 + 1 + 1 := by rw [← hW0]; simp
  have h0 : W0.heap[w.heap.size]? = some (.cells #[.pointer (some ⟨p, 0, none⟩)] 36 (0, 0)) := by rw [← hW0]; (repeat (first | exact alloc_new _ _ (by simp) | refine (alloc_old _ _ (by (try simp only [World.size_alloc]); omega)).trans ?_))
  have h1 : W0.heap[w.heap.size + 1]? = some (.cells #[.slice a es.length cp] 51 (0, 0)) := by rw [← hW0]; (repeat (first | exact alloc_new _ _ (by simp) | refine (alloc_old _ _ (by (try simp only [World.size_alloc]); omega)).trans ?_))
  have h2 : W0.heap[w.heap.size + 1 + 1]? = some (.cells #[.bool false] 4 (0, 0)) := by rw [← hW0]; (repeat (first | exact alloc_new _ _ (by simp) | refine (alloc_old _ _ (by (try simp only [World.size_alloc]); omega)).trans ?_))
  have h3 : W0.heap[w.heap.size + 1 + 1 + 1]? = some (.cells #[.int .i64 0] 3 (0, 0)) := by rw [← hW0]; (repeat (first | exact alloc_new _ _ (by simp) | refine (alloc_old _ _ (by (try simp only [World.size_alloc]); omega)).trans ?_))
  have h4 : W0.heap[w.heap.size + 1 + 1 + 1 + 1]? = some (.cells #[.int .i64 0, .int .i64 0, .int .i64 0] 67 (0, 0)) := by rw [← hW0]; (repeat (first | exact alloc_new _ _ (by simp) | refine (alloc_old _ _ (by (try simp only [World.size_alloc]); omega)).trans ?_))
  rw [hW0]
  clear hW0
  have hm0 := HBM.out.below hb0
  refine (ball_any W0 p _ _ _ hm0.cells.1).mono ?_
  rintro e w1 ⟨rfl, rfl⟩
  obtain ⟨W1, hW1⟩ : ∃ W1, W0.alloc (.cells #[.slice (some ⟨le, 0, none⟩) es.length ce] 46) = W1 := ⟨_, rfl⟩
  have hb1 : Below W0.heap.size W0 W1 := by rw [← hW1]; exact (Below.refl _ _).alloc (Nat.le_refl _) _
  have hsl : W1.heap[W0.heap.size]? = some (.cells #[.slice (some ⟨le, 0, none⟩) es.length ce] 46 (0, 0)) := by rw [← hW1]; exact heap_alloc_new W0 _
  have z1 : W1.heap.size = w.heap.size + 1 + 1 + 1 + 1 + 1 + 1 := by rw [← hW1]; simp [z0]
  rw [hW1]
  clear hW1
  have hB1 : Below w.heap.size w W1 := hb0.trans (hb1.mono (by omega))
  have c0 := (hb1.block w.heap.size (by omega)).trans h0
  have c1 := (hb1.block (w.heap.size + 1) (by omega)).trans h1
  have c2 := (hb1.block (w.heap.size + 1 + 1) (by omega)).trans h2
  have c3 := (hb1.block (w.heap.size + 1 + 1 + 1) (by omega)).trans h3
  have c4 := (hb1.block (w.heap.size + 1 + 1 + 1 + 1) (by omega)).trans h4
  have hm1 := HBM.out.below hB1
  have hlt := hm1.lt
  have hlw := HBM.out.lt
  have HS := Lib.hid (eall1_stops 7 (by omega) W0.heap.size le (some ⟨le, 0, none⟩) ce es W1 (cell_of_one hsl) hm1.rows (fun x e => by cases e; rfl) hlt.2.1 (by omega))
  have HC0 := Lib.hid c0
  have HC1 := Lib.hid c1
  have HC2 := Lib.hid c2
  have HB1 := Lib.hid hB1
  have z0a : w.heap.size + 1 + 1 + 1 + 1 + 1 ≤ W0.heap.size := by omega
  have z1a : w.heap.size + 1 + 1 + 1 + 1 + 1 + 1 ≤ W1.heap.size := by omega
  have z1b : W0.heap.size < W1.heap.size := by omega
  clear h0 h1 h2 h3 h4 hb0 hm0 hb1 hsl hm1 hlt c0 c1 c2 hB1 z0 z1
  go_wp2
  refine (wpIn_wide (n := 8)).1 (wpIn_rangeT2 (encs := ieV) rfl (by omega) (gf := 48) (lb := #[.pointer (some ⟨W0.heap.size, 0, none⟩)]) rfl trivial (enters_of Try.func48 (by kernel_rfl) rfl)
    HS.out (Below.refl _ _) (fun _ => rfl)
    [w.heap.size + 1 + 1 + 1, w.heap.size + 1 + 1 + 1 + 1] (by simp; omega) (by simp)
    (fun pre W => W.heap[w.heap.size + 1 + 1 + 1]? = some (.cells #[.int .i64 (pre.length : Nat)] 3 (0, 0)) ∧ W.heap[w.heap.size + 1 + 1 + 1 + 1]? = some (.cells (stC pre) 67 (0, 0)) ∧ Only [w.heap.size + 1 + 1 + 1, w.heap.size + 1 + 1 + 1 + 1] W1 W)
    (fun _ _ _ => False)
    (AbT.and (AbT.row (fun (pre : List (BE × Nat)) => #[.int .i64 (pre.length : Nat)]) (by simp)) (AbT.and (AbT.row (fun pre => stC pre) (by simp)) (AbT.only (Nat.le_refl _) (by simp))))
    (fun _ => AbT.pure _ _ _) ⟨c3, c4, Only.refl _ _⟩
    ?fr (fun x Be W' => W'.heap[Be]? = some (.cells (BEC x.1) 41 (0, 0))) (fun x Be => AbT.row (fun _ => BEC x.1) (by simp)) ?assign ?body ?done ?stop)
  case assign =>
    intro rr pre x W2 K _ hI hK
    have HK2 := Lib.hid hK
    clear hK
    unfold ieV
    gi_wp2_with (refine wpListIn_store_row (by rfl) 41 _ _ rfl W2.heap.size (BEC x.1) rfl rfl 41 (BEC BE.zero) (heap_alloc_new W2 _) (HIE.out _) (HSZ.out _) (HON.out _) ?_; rw [World.setRow_alloc_new])
    obtain ⟨Be, hBe⟩ : ∃ Be, W2.heap.size = Be := ⟨_, rfl⟩
    have hn := heap_alloc_new W2 (.cells (BEC x.1) 41)
    rw [hBe] at hn ⊢
    exact HK2.out Be _ ((Only.refl _ _).alloc _) hn
  case body =>
    rintro rr pre x Be W2 _ hr ⟨hn2, hs2, hO2⟩ hE hlen hsp
    obtain ⟨e1, e2, e3, e4⟩ := zip_next hsp
    have hmem := List.mem_of_getElem? e2
    have h64 := (HM.out.ok _ hmem).2
    have hst := st_of_right (HM.out.ok _ hmem).1
    obtain ⟨e, i⟩ := x
    simp only at e1 e2 h64 hst hE
    subst e1
    obtain ⟨jn, hj, hj3⟩ : ∃ j : Nat, e.st = j ∧ j < 3 := ⟨e.st.toNat, by omega, by omega⟩
    obtain ⟨st, z, m, o, q, sm⟩ := e
    simp only at hj
    subst hj
    obtain ⟨e, he⟩ : ∃ e : BE, (⟨(jn : Nat), z, m, o, q, sm⟩ : BE) = e := ⟨_, rfl⟩
    have hest : e.st = (jn : Nat) := by rw [← he]
    have HEE := Lib.hid he
    rw [he] at e2 h64 hE
    have HST : Hid (e.st = (jn : Nat)) := Lib.hid hest
    have k0 : W2.cell? ⟨Be, 0, none⟩ = some (.int .i64 (jn : Nat)) := (cell_of_row _ _ _ _ _ _ hE).trans (by rw [← he]; rfl)
    have hcl : countB (pre.map (·.1)) jn ≤ 256 := by
      have h1 := countB_le (pre.map (·.1)) jn
      rw [List.length_map] at h1
      omega
    have ks : W2.cell? ⟨w.heap.size + 1 + 1 + 1 + 1, jn, none⟩ = some (.int .i64 (countB (pre.map (·.1)) jn : Nat)) := by
      rw [cell_of_row _ _ _ _ _ _ hs2]
      match jn, hj3 with
      | 0, _ => rfl
      | 1, _ => rfl
      | 2, _ => rfl
    have kf : W2.frozen? ⟨w.heap.size + 1 + 1 + 1 + 1, jn, none⟩ = false := frozen_of_row _ _ _ _ _ hs2
    have hg : e = e := rfl
    have HSTC : Hid ((stC pre).setIfInBounds jn (.int .i64 ((countB (pre.map (·.1)) jn : Nat) + 1)) = stC (pre ++ [(e, pre.length)])) := Lib.hid (stC_step pre e jn hest hj3)
    have HE2 := Lib.hid e2
    have HNX := Lib.hid hn2
    have HSX := Lib.hid hs2
    have HOX := Lib.hid hO2
    have HER := Lib.hid hE
    have H64 := Lib.hid h64
    have hpl : pre.length < es.length := by assumption
    have zX := hO2.size
    have T20 : Hid (decide (((jn : Nat) : Int) < 0) = false) := Lib.hid (decide_eq_false (by omega))
    have T25 : Hid (decide ((2 : Int) < ((jn : Nat) : Int)) = false) := Lib.hid (decide_eq_false (by omega))
    have HB2 : Hid (Below w.heap.size w W2) := Lib.hid (HB1.out.trans (hO2.below (B := w.heap.size) (by simp; omega) HB1.out.size))
    have HNE : Hid (∀ W, (Op.equalIn 10000 53 (.agg (BEC e)) (.agg (BEC e))).run Try.prog W = .ok true W) := Lib.hid (fun W => by have := eq_re e e h64 h64 W; rwa [decide_eq_true rfl] at this)
    have HNB : Hid (∀ W, (Op.equalIn 10000 41 (.agg (BEC e)) (.agg (BEC e))).run Try.prog W = .ok true W) := Lib.hid (fun W => by have := eq_be e e h64 h64 W; rwa [decide_eq_true rfl] at this)
    have HBEC : Hid (BEC e = #[.int .i64 e.st, .int .i64 e.z, .int .i64 e.m, .int .i64 e.o, .int .i64 e.q, .int .i64 e.s]) := Lib.hid rfl
    obtain ⟨rb, ro, hra, hrl, -, -⟩ := HR.out.ent6 e2
    have HRA := Lib.hid hra
    obtain ⟨cn, hcn⟩ : ∃ cn, countB (pre.map (·.1)) jn = cn := ⟨_, rfl⟩
    rw [hcn] at hcl ks HSTC
    clear hn2 hs2 hO2 hE e2 h64 hsp hlen hmem e4 hst he hest hg hra hcn
    have zB : Be < W2.heap.size := (Array.getElem?_eq_some_iff.1 HER.out).1
    gi_wp2_with fail
    refine wpIn_region_conf2 26 [Fact.eq ?rax0, Fact.eq ?rax1, Fact.eq (.bool false), Fact.eq ?rax3, Fact.eq ?rax4, Fact.eq (.slice a es.length cp), Fact.eq ?rax6, Fact.eq (.bool false), Fact.eq ?rax8, Fact.eq ?rax9, Fact.eq ?rax10, Fact.eq (.slice a es.length cp), Fact.eq ?rax12, Fact.eq (.pointer (some ⟨rb, ro + pre.length * 6, none⟩)), Fact.eq (.agg (BEC e)), Fact.eq (.bool false), Fact.eq ?rax16, Fact.eq ?rax17, Fact.eq ?rax18, Fact.eq ?rax19, Fact.eq (.bool false), Fact.eq ?rax21, Fact.eq ?rax22, Fact.eq ?rax23, Fact.eq ?rax24, Fact.eq (.bool false)] ?raA (by kernel_rfl) (by kernel_rfl) ?rahA ?raho ?rahend
    case rahA =>
      intro vv
      simp only [putRules, Nat.reduceAdd]
      rfl
    case raho =>
      refine ⟨?_, ?_, ?_, ?_, ?_, ?_, ?_, ?_, ?_, ?_, ?_, ?_, ?_, ?_, ?_, ?_, ?_, ?_, ?_, ?_, ?_, ?_, ?_, ?_, ?_, ?_, trivial⟩
      · intro vv W K hB hd HK
        simp only [confRules] at HK
        clear hd
        gi_wp2
        refine HK.out _ _ (Below.refl _ _) ?_
        rfl
      · intro vv W K hB hd HK
        simp only [confRules] at HK
        clear hd
        have hT := cell_of_one ((hB.block (w.heap.size + 1 + 1 + 1) (by omega)).trans HNX.out)
        gi_wp2
        refine HK.out _ _ (Below.refl _ _) ?_
        rfl
      · intro vv W K hB hd HK
        simp only [confRules] at hd HK
        obtain ⟨h0, h1⟩ := hd
        simp only [h0, h1] at HK ⊢
        clear h0 h1
        gi_wp2
        refine HK.out _ _ (Below.refl _ _) ?_
        first | rfl | exact congrArg Value.bool (by simp)
      · intro vv W K hB hd HK
        simp only [confRules] at hd HK
        have h2 := hd
        clear hd
        simp only [h2] at HK ⊢
        clear h2
        gi_wp2
        refine HK.out _ _ (Below.refl _ _) ?_
        rfl
      · intro vv W K hB hd HK
        simp only [confRules] at hd HK
        have h3 := hd
        clear hd
        simp only [h3] at HK ⊢
        clear h3
        refine wpListIn_guard_yes (by rfl) ?_
        gi_wp2
        refine HK.out _ _ (Below.refl _ _) ?_
        rfl
      · intro vv W K hB hd HK
        simp only [confRules] at hd HK
        have h3 := hd
        clear hd
        simp only [h3] at HK ⊢
        clear h3
        refine wpListIn_guard_yes (by rfl) ?_
        have hT := cell_of_one ((hB.block (w.heap.size + 1) (by omega)).trans (HOX.out.get HC1.out (by simp)))
        gi_wp2
        refine HK.out _ _ (Below.refl _ _) ?_
        rfl
      · intro vv W K hB hd HK
        simp only [confRules] at hd HK
        obtain ⟨h5, h3⟩ := hd
        simp only [h5, h3] at HK ⊢
        clear h5 h3
        refine wpListIn_guard_yes (by rfl) ?_
        gi_wp2
        refine HK.out _ _ (Below.refl _ _) ?_
        rfl
      · intro vv W K hB hd HK
        simp only [confRules] at hd HK
        obtain ⟨h4, h6, h3⟩ := hd
        simp only [h4, h6, h3] at HK ⊢
        clear h4 h6 h3
        refine wpListIn_guard_yes (by rfl) ?_
        gi_wp2
        refine HK.out _ _ (Below.refl _ _) ?_
        first | rfl | exact congrArg Value.bool (by simp; omega)
      · intro vv W K hB hd HK
        simp only [confRules] at hd HK
        obtain ⟨h3, h7⟩ := hd
        simp only [h3, h7] at HK ⊢
        clear h3 h7
        gi_wp2
        refine HK.out _ _ (Below.refl _ _) ?_
        rfl
      · intro vv W K hB hd HK
        simp only [confRules] at hd HK
        obtain ⟨h8, h3⟩ := hd
        simp only [h8, h3] at HK ⊢
        clear h8 h3
        gi_wp2
        refine HK.out _ _ (Below.refl _ _) ?_
        rfl
      · intro vv W K hB hd HK
        simp only [confRules] at hd HK
        have h9 := hd
        clear hd
        simp only [h9] at HK ⊢
        clear h9
        refine wpListIn_guard_yes (by rfl) ?_
        have hT := (hB.block Be zB).trans HER.out
        refine wpListIn_row_on (by rfl) 41 _ rfl Be rfl 41 _ _ _ hT Try.underlying41 rfl (HIE.out _) ?_
        refine HK.out _ _ (Below.refl _ _) ?_
        rfl
      · intro vv W K hB hd HK
        simp only [confRules] at hd HK
        have h9 := hd
        clear hd
        simp only [h9] at HK ⊢
        clear h9
        refine wpListIn_guard_yes (by rfl) ?_
        have hT := cell_of_one ((hB.block (w.heap.size + 1) (by omega)).trans (HOX.out.get HC1.out (by simp)))
        gi_wp2
        refine HK.out _ _ (Below.refl _ _) ?_
        rfl
      · intro vv W K hB hd HK
        simp only [confRules] at hd HK
        have h9 := hd
        clear hd
        simp only [h9] at HK ⊢
        clear h9
        refine wpListIn_guard_yes (by rfl) ?_
        gi_wp2
        refine HK.out _ _ (Below.refl _ _) ?_
        rfl
      · intro vv W K hB hd HK
        simp only [confRules] at hd HK
        obtain ⟨h11, h12, h9⟩ := hd
        simp only [h11, h12, h9] at HK ⊢
        clear h11 h12 h9
        refine wpListIn_guard_yes (by rfl) ?_
        have hra := HRA.out
        subst hra
        gi_wp2
        refine HK.out _ _ (Below.refl _ _) ?_
        rfl
      · intro vv W K hB hd HK
        simp only [confRules] at hd HK
        obtain ⟨h13, h9⟩ := hd
        simp only [h13, h9] at HK ⊢
        clear h13 h9
        refine wpListIn_guard_yes (by rfl) ?_
        obtain ⟨b, o, e', hbl, -, d0, d1, d2, d3, d4, d5⟩ := ((HR.out.below HB2.out).below hB).ent6 HE2.out
        rw [HRA.out] at e'
        cases e'
        rw [HBEC.out] at HK
        gi_wp2
        refine HK.out _ _ (Below.refl _ _) ?_
        rfl
      · intro vv W K hB hd HK
        simp only [confRules] at hd HK
        obtain ⟨h10, h14, h9⟩ := hd
        simp only [h10, h14, h9] at HK ⊢
        clear h10 h14 h9
        refine wpListIn_guard_yes (by rfl) ?_
        gi_wp2_with (refine wpListIn_neq_on (by rfl) 53 53 _ _ rfl (BEC e) (BEC e) rfl rfl (by kernel_rfl) true HNE.out ?_)
        refine HK.out _ _ (Below.refl _ _) ?_
        rfl
      · intro vv W K hB hd HK
        simp only [confRules] at hd HK
        obtain ⟨h9, h15⟩ := hd
        simp only [h9, h15] at HK ⊢
        clear h9 h15
        gi_wp2
        refine HK.out _ _ (Below.refl _ _) ?_
        rfl
      · intro vv W K hB hd HK
        simp only [confRules] at hd HK
        obtain ⟨h16, h9⟩ := hd
        simp only [h16, h9] at HK ⊢
        clear h16 h9
        gi_wp2
        refine HK.out _ _ (Below.refl _ _) ?_
        rfl
      · intro vv W K hB hd HK
        simp only [confRules] at hd HK
        have h17 := hd
        clear hd
        simp only [h17] at HK ⊢
        clear h17
        refine wpListIn_guard_yes (by rfl) ?_
        gi_wp2
        refine HK.out _ _ (Below.refl _ _) ?_
        rfl
      · intro vv W K hB hd HK
        simp only [confRules] at hd HK
        obtain ⟨h18, h17⟩ := hd
        simp only [h18, h17] at HK ⊢
        clear h18 h17
        refine wpListIn_guard_yes (by rfl) ?_
        have hT := (hB.block Be zB).trans HER.out
        have hU := (cell_of_row _ _ 0 _ _ _ hT).trans (congrArg some (congrArg (Value.int .i64) HST.out))
        gi_wp2
        refine HK.out _ _ (Below.refl _ _) ?_
        rfl
      · intro vv W K hB hd HK
        simp only [confRules] at hd HK
        obtain ⟨h19, h17⟩ := hd
        simp only [h19, h17] at HK ⊢
        clear h19 h17
        refine wpListIn_guard_yes (by rfl) ?_
        gi_wp2
        refine HK.out _ _ (Below.refl _ _) ?_
        first | rfl | exact congrArg Value.bool (by exact T20.out)
      · intro vv W K hB hd HK
        simp only [confRules] at hd HK
        obtain ⟨h17, h20⟩ := hd
        simp only [h17, h20] at HK ⊢
        clear h17 h20
        gi_wp2
        refine HK.out _ _ (Below.refl _ _) ?_
        rfl
      · intro vv W K hB hd HK
        simp only [confRules] at hd HK
        obtain ⟨h21, h17⟩ := hd
        simp only [h21, h17] at HK ⊢
        clear h21 h17
        gi_wp2
        refine HK.out _ _ (Below.refl _ _) ?_
        rfl
      · intro vv W K hB hd HK
        simp only [confRules] at hd HK
        have h22 := hd
        clear hd
        simp only [h22] at HK ⊢
        clear h22
        refine wpListIn_guard_yes (by rfl) ?_
        gi_wp2
        refine HK.out _ _ (Below.refl _ _) ?_
        rfl
      · intro vv W K hB hd HK
        simp only [confRules] at hd HK
        obtain ⟨h23, h22⟩ := hd
        simp only [h23, h22] at HK ⊢
        clear h23 h22
        refine wpListIn_guard_yes (by rfl) ?_
        have hT := (hB.block Be zB).trans HER.out
        have hU := (cell_of_row _ _ 0 _ _ _ hT).trans (congrArg some (congrArg (Value.int .i64) HST.out))
        gi_wp2
        refine HK.out _ _ (Below.refl _ _) ?_
        rfl
      · intro vv W K hB hd HK
        simp only [confRules] at hd HK
        obtain ⟨h24, h22⟩ := hd
        simp only [h24, h22] at HK ⊢
        clear h24 h22
        refine wpListIn_guard_yes (by rfl) ?_
        gi_wp2
        refine HK.out _ _ (Below.refl _ _) ?_
        first | rfl | exact congrArg Value.bool (by exact T25.out)
    case rahend =>
      intro vv W hB hf
      have e22 := hf 22 (by decide)
      have e25 := hf 25 (by decide)
      simp only [endRules] at e22 e25
      simp only [e22, e25, dropRules]
      clear hf e22 e25
      have hWE := (hB.block Be zB).trans HER.out
      have hWS := (hB.block (w.heap.size + 1 + 1 + 1 + 1) (by omega)).trans HSX.out
      have k0' : W.cell? ⟨Be, 0, none⟩ = some (.int .i64 (jn : Nat)) := (World.cell?_of_block (a := ⟨Be, 0, none⟩) (hB.block Be zB)).trans k0
      have ks' : W.cell? ⟨w.heap.size + 1 + 1 + 1 + 1, jn, none⟩ = some (.int .i64 (cn : Nat)) := (World.cell?_of_block (a := ⟨w.heap.size + 1 + 1 + 1 + 1, jn, none⟩) (hB.block (w.heap.size + 1 + 1 + 1 + 1) (by omega))).trans ks
      have kf' : W.frozen? ⟨w.heap.size + 1 + 1 + 1 + 1, jn, none⟩ = false := frozen_of_row _ _ _ _ _ hWS
      obtain ⟨W3, hW3⟩ : ∃ W3, W.setCell ⟨w.heap.size + 1 + 1 + 1 + 1, jn, none⟩ (.int .i64 ((cn : Nat) + 1)) = W3 := ⟨_, rfl⟩
      have hO3 : Only [w.heap.size + 1 + 1 + 1 + 1] W W3 := by rw [← hW3]; exact (Only.refl _ _).setCell (.inl (by simp)) _
      have HS3 : Hid (W3.heap[w.heap.size + 1 + 1 + 1 + 1]? = some (.cells (stC (pre ++ [(e, pre.length)])) 67 (0, 0))) := Lib.hid (by rw [← hW3, heap_setCell_same _ _ _ _ _ _ hWS, HSTC.out])
      have hO23 : Only [w.heap.size + 1 + 1 + 1, w.heap.size + 1 + 1 + 1 + 1] W2 W3 := (Only.of_below hB).trans (hO3.mono (by simp))
      have zW := hB.size
      have HN3 := Lib.hid (hO3.get ((hB.block (w.heap.size + 1 + 1 + 1) (by omega)).trans HNX.out) (by simp))
      have hne : Be ≠ w.heap.size + 1 + 1 + 1 + 1 := fun h => by
        have h1 := HER.out
        rw [h, HSX.out] at h1
        simp [stC, BEC] at h1
      have HE3 := Lib.hid (hO3.get hWE (by simpa using hne))
      have HO13 := Lib.hid (HOX.out.trans hO23)
      have HB3 : Hid (Below w.heap.size w W3) := Lib.hid (HB2.out.trans (hO23.below (B := w.heap.size) (by simp; omega) HB2.out.size))
      have HGET := Lib.hid (callsIn_round (rr := rr) (n := 6 - 1) (bget_in W3 p le ll ce cl g es _ (HBM.out.below HB3.out) pre.length e HE2.out (by omega)))
      have hM3 : (W.setCell ⟨w.heap.size + 1 + 1 + 1 + 1, jn, none⟩ (.int .i64 ((cn : Nat) + 1))).cell? ⟨w.heap.size, 0, none⟩ = some (.pointer (some ⟨p, 0, none⟩)) := by rw [hW3]; exact cell_of_one (HO13.out.get HC0.out (by simp; omega))
      have HW3 := Lib.hid hW3
      have z3 := hO3.size
      have HO23 := Lib.hid hO23
      clear hWE hWS hO3 hO23 hW3 hB
      gi_wp2_with fail
      rw [HW3.out]
      refine ⟨trivial, ?_⟩
      refine HGET.out.mono ?_
      rintro y w4 ⟨rfl, hB4⟩
      have z4 := hB4.size
      obtain ⟨W5, hW5⟩ : ∃ W5, w4.alloc (.cells (BEC e) 41) = W5 := ⟨_, rfl⟩
      have hB5 : Below W3.heap.size W3 W5 := by rw [← hW5]; exact hB4.alloc z4 _
      have H5 : Hid (W5.heap[w4.heap.size]? = some (.cells (BEC e) 41 (0, 0))) := Lib.hid (by rw [← hW5]; exact heap_alloc_new w4 _)
      have HE5 := Lib.hid ((hB5.block Be (by omega)).trans HE3.out)
      have hn5 := (hB5.block (w.heap.size + 1 + 1 + 1) (by omega)).trans HN3.out
      have HN5 := Lib.hid hn5
      have HS5 := Lib.hid ((hB5.block (w.heap.size + 1 + 1 + 1 + 1) (by omega)).trans HS3.out)
      have HO25 := Lib.hid (HO23.out.trans (Only.of_below (S := [w.heap.size + 1 + 1 + 1, w.heap.size + 1 + 1 + 1 + 1]) hB5))
      have HO15 := Lib.hid (HO13.out.trans (Only.of_below (S := [w.heap.size + 1 + 1 + 1, w.heap.size + 1 + 1 + 1 + 1]) hB5))
      have cn5 := cell_of_one hn5
      have fn5 := free_of_one hn5
      have HW5 := Lib.hid hW5
      clear hB4 hB5 hn5 hW5 HGET hM3 k0' ks' kf' k0 ks kf
      gi_wp2_with (first | (refine wpListIn_store_row (by rfl) 41 _ _ rfl w4.heap.size (BEC e) rfl rfl 41 (BEC BE.zero) (heap_alloc_new w4 _) (HIE.out _) (HSZ.out _) (HON.out _) ?_; rw [World.setRow_alloc_new, HW5.out]) | (refine wpListIn_row_on (by rfl) 41 _ rfl w4.heap.size rfl 41 _ _ _ H5.out Try.underlying41 rfl (HIE.out _) ?_) | (refine wpListIn_row_on (by rfl) 41 _ rfl Be rfl 41 _ _ _ HE5.out Try.underlying41 rfl (HIE.out _) ?_) | (refine wpListIn_neq_on (by rfl) 41 41 _ _ rfl (BEC e) (BEC e) rfl rfl (by kernel_rfl) true HNB.out ?_))
      exact ⟨HO25.out.setCell (.inl (by simp)) _, by rw [List.length_append, List.length_singleton]; exact one_setCell HN5.out, by rw [HEE.out]; exact (Below.heap_setCell _ _ _ _ (by simp)).trans HS5.out, HO15.out.setCell (.inl (by simp)) _⟩
  case done =>
    rintro D xs W2 hD rfl ⟨hn2, hs2, hO2⟩ hK
    rw [show es.zipIdx.length = es.length by simp] at hn2
    have zX := hO2.size
    have hB2 : Below w.heap.size w W2 := HB1.out.trans (hO2.below (B := w.heap.size) (by simp; omega) HB1.out.size)
    have HNX := Lib.hid hn2
    have HSX := Lib.hid hs2
    have HKD := Lib.hid hK
    have hDl : D < W2.heap.size := (Array.getElem?_eq_some_iff.1 hK).1
    have HM2 := Lib.hid (hO2.get HC0.out (by simp; omega))
    have hl2 := hO2.get HC1.out (by simp)
    have HL2 := Lib.hid hl2
    have HR2 := Lib.hid (hO2.get HC2.out (by simp))
    have c1 := cell_of_one hl2
    have HBW2 := Lib.hid hB2
    have HRI := Lib.hid (rIn_any W2 a es cp zone (HR.out.below hB2) (by omega))
    clear hn2 hs2 hO2 hK hl2 hB2 c3 c4 HC0 HC1 HC2 HS
    go_wp2_with fail
    refine HRI.out.mono ?_
    rintro e w3 ⟨v, rfl, hown, hB3⟩
    obtain ⟨aw, cw, rfl, -, -⟩ := hown.shape
    rw [nV_length] at *
    have HWC : Hid (∀ i x, (inL es zone)[i]? = some x → ∃ gb, aw = some ⟨gb, 0, none⟩ ∧ gb < w3.heap.size ∧ w3.cell? ⟨gb, i, none⟩ = some (.int .i64 (x : Nat))) := Lib.hid (fun i x hx => by
      obtain ⟨gb, cb, e, h1, h2, -, -, h3, -⟩ := hown.open (by rw [nV_length]; have := (List.getElem?_eq_some_iff.1 hx).1; omega)
      simp only [Value.slice.injEq] at e
      exact ⟨gb, e.1, h2, h3 i _ (nV_at hx)⟩)
    obtain ⟨L, hL⟩ : ∃ L, (inL es zone).length = L := ⟨_, rfl⟩
    rw [hL]
    have HLL := Lib.hid hL
    have hLb : L ≤ 256 := by rw [← hL, inL_len]; have := liveN_le es zone; omega
    have z3 := hB3.size
    obtain ⟨W4, hW4⟩ : ∃ W4, (w3.alloc (.cells #[.slice aw L cw] 60)).alloc (.cells #[.int .i64 0] 3) = W4 := ⟨_, rfl⟩
    have hb4 : Below w3.heap.size w3 W4 := by rw [← hW4]; exact ((Below.refl _ _).alloc (Nat.le_refl _) _).alloc (by simp) _
    have hw4 : W4.heap[w3.heap.size]? = some (.cells #[.slice aw L cw] 60 (0, 0)) := by rw [← hW4]; exact (alloc_old _ _ (by simp)).trans (alloc_new _ _ rfl)
    have hk4 : W4.heap[w3.heap.size + 1]? = some (.cells #[.int .i64 0] 3 (0, 0)) := by rw [← hW4]; exact alloc_new _ _ (by simp)
    have z4 : W4.heap.size = w3.heap.size + 1 + 1 := by rw [← hW4]; simp
    have hB24 : Below W2.heap.size W2 W4 := hB3.trans (hb4.mono z3)
    have hM4 : ((w3.alloc (.cells #[.slice aw L cw] 60)).alloc (.cells #[.int .i64 0] 3)).cell? ⟨w.heap.size, 0, none⟩ = some (.pointer (some ⟨p, 0, none⟩)) := by rw [hW4]; exact cell_of_one ((hB24.block w.heap.size (by omega)).trans HM2.out)
    obtain ⟨W6, hW6⟩ : ∃ W6, (W4.alloc (.cells #[.pointer (some ⟨p, 0, none⟩)] 36)).alloc (.cells #[.int .i64 zone] 3) = W6 := ⟨_, rfl⟩
    have hb6 : Below W4.heap.size W4 W6 := by rw [← hW6]; exact ((Below.refl _ _).alloc (Nat.le_refl _) _).alloc (by simp) _
    have hp6 : W6.heap[W4.heap.size]? = some (.cells #[.pointer (some ⟨p, 0, none⟩)] 36 (0, 0)) := by rw [← hW6]; exact (alloc_old _ _ (by simp)).trans (alloc_new _ _ rfl)
    have hz6 : W6.heap[W4.heap.size + 1]? = some (.cells #[.int .i64 zone] 3 (0, 0)) := by rw [← hW6]; exact alloc_new _ _ (by simp)
    have z6 : W6.heap.size = W4.heap.size + 1 + 1 := by rw [← hW6]; simp
    have hb36 : Below w3.heap.size w3 W6 := hb4.trans (hb6.mono hb4.size)
    have hB26 : Below W2.heap.size W2 W6 := hB3.trans (hb36.mono z3)
    have HB36 := Lib.hid hb36
    have hBW6 : Below w.heap.size w W6 := HBW2.out.trans (hB26.mono (by omega))
    have HSI := Lib.hid (bin1_stops 7 (by omega) W4.heap.size (W4.heap.size + 1) p le ll ce cl g es _ zone W6 hp6 hz6 (HBM.out.below hBW6) (by omega))
    have hk6 := (hb6.block (w3.heap.size + 1) (by omega)).trans hk4
    have HW6c := Lib.hid ((hb6.block w3.heap.size (by omega)).trans hw4)
    have HB26 := Lib.hid hB26
    have HBW6 := Lib.hid hBW6
    have HW4 := Lib.hid hW4
    have HW6 := Lib.hid hW6
    have z4a : w3.heap.size + 1 + 1 ≤ W4.heap.size := by omega
    have z6a : W4.heap.size + 1 + 1 ≤ W6.heap.size := by omega
    have z36 : w3.heap.size + 1 < W6.heap.size := by omega
    clear hown hB3 hL hW4 hb4 hw4 hk4 hB24 hW6 hb6 hp6 hz6 hb36 hB26 hBW6 z4 z6 c1 HRI
    go_wp2_with fail
    rw [HW4.out]
    refine (bin_any W4 (some ⟨p, 0, none⟩) zone).mono ?_
    rintro y w5 ⟨rfl, rfl⟩
    rw [HW6.out]
    clear hM4
    go_wp2
    refine (wpIn_wide (n := 8)).1 (wpIn_rangeT1 (encs := i1V) rfl (by omega) (gf := 47) (lb := #[.pointer (some ⟨W4.heap.size, 0, none⟩), .pointer (some ⟨W4.heap.size + 1, 0, none⟩)]) rfl trivial (enters_of Try.func47 (by kernel_rfl) rfl)
      HSI.out (Below.refl _ _) (fun _ => rfl)
      [w3.heap.size + 1] (by have := HBM.out.lt; have := HBW2.out.size; simp; omega) (by simp)
      (fun pre W => W.heap[w3.heap.size + 1]? = some (.cells #[.int .i64 (pre.length : Nat)] 3 (0, 0)) ∧ Only [w3.heap.size + 1] W6 W)
      (fun _ _ _ => False)
      (AbT.and (AbT.row (fun (pre : List Nat) => #[.int .i64 (pre.length : Nat)]) (by simp)) (AbT.only (Nat.le_refl _) (by simp)))
      (fun _ => AbT.pure _ _ _) ⟨hk6, Only.refl _ _⟩
      ?fr2 ?assign2 ?body2 ?done2 ?stop2)
    case assign2 =>
      intro rr pre x W K _ hI hK
      have HK2 := Lib.hid hK
      clear hK
      unfold i1V
      gi_wp2
      exact HK2.out W (Only.refl _ _)
    case body2 =>
      rintro rr pre x W _ hr ⟨hk, hO⟩ hlen hsp
      obtain ⟨hx, hxl⟩ := pre_next hsp
      obtain ⟨gb, rfl, hgl, hgc⟩ := HWC.out _ _ hx
      rw [HLL.out] at hxl
      have ck := cell_of_one hk
      have fk := free_of_one hk
      have cw := cell_of_one (hO.get HW6c.out (by simp))
      have hgw : W.cell? ⟨gb, pre.length, none⟩ = some (.int .i64 (x : Nat)) := (World.cell?_of_block (a := ⟨gb, pre.length, none⟩) ((hO.block gb (by omega) (by simp; omega)).trans (HB36.out.block gb hgl))).trans hgc
      have HKK := Lib.hid hk
      have HOO := Lib.hid hO
      have hp1 : pre.length < 256 := by omega
      clear hk hO hx hgc hlen hsp
      gi_wp2
      exact ⟨(Only.refl _ _).setCell (.inl (by simp)) _, by rw [List.length_append, List.length_singleton]; exact one_setCell HKK.out, HOO.out.setCell (.inl (by simp)) _⟩
    case done2 =>
      rintro D2 ys WZ hD2 rfl ⟨hk, hO⟩ hK2
      rw [HLL.out] at hk
      have hD2l : D2 < WZ.heap.size := (Array.getElem?_eq_some_iff.1 hK2).1
      have hold : ∀ b, b < W2.heap.size → WZ.heap[b]? = W2.heap[b]? := fun b hb => (hO.block b (by have := HB26.out.size; omega) (by simp; omega)).trans (HB26.out.block b hb)
      have zZ := hO.size
      have HN7 := Lib.hid ((hold _ (by omega)).trans HNX.out)
      have HS7 := Lib.hid ((hold _ (by omega)).trans HSX.out)
      have HM7 := Lib.hid ((hold _ (by omega)).trans HM2.out)
      have HL7 := Lib.hid ((hold _ (by omega)).trans HL2.out)
      have HR7 := Lib.hid ((hold _ (by omega)).trans HR2.out)
      have HD7 := Lib.hid ((hold D hDl).trans HKD.out)
      have HK7 := Lib.hid hk
      have HW7 := Lib.hid (hO.get HW6c.out (by simp))
      have HE7 := Lib.hid hK2
      have hBZ : Below w.heap.size w WZ := HBW6.out.trans (hO.below (B := w.heap.size) (by have := HBW2.out.size; simp; omega) HBW6.out.size)
      have HBZ := Lib.hid hBZ
      have HBA : Hid (∀ W, Below WZ.heap.size WZ W → BmIs W p le ll ce cl g es (liveL (nz g) es)) := Lib.hid (fun W hB => HBM.out.below (hBZ.trans (hB.mono hBZ.size)))
      have HLV : Hid (∀ W, Below WZ.heap.size WZ W → Calls Try.prog 27 #[.pointer (some ⟨p, 0, none⟩), .int .i64 zone] W fun e w' => e = .returned (.int .i64 (L : Nat)) ∧ W = w') := Lib.hid (fun W hB => by rw [← HLL.out]; exact blive_any W p le ll ce cl g es HRT.out HM.out (HBA.out W hB) zone)
      have hcs : ∀ j : Int, ∀ W, Below WZ.heap.size WZ W → Calls Try.prog 28 #[.pointer (some ⟨p, 0, none⟩), .int .i64 j] W fun e w' => e = .returned (.int .i64 (countB es j : Nat)) ∧ Below W.heap.size W w' := fun j W hB => bcount_any W p le ll _ _ g es _ (HBA.out W hB) j (by omega)
      have h3 : ((countB es 3 : Nat) : Int) = 0 := by rw [count3 (fun e he => st_of_right (HM.out.ok e he).1)]; rfl
      have hc3 := hcs 3
      rw [h3] at hc3
      have hc0 := hcs 0
      have hc1 := hcs 1
      have hc2 := hcs 2
      have hst := HS7.out
      unfold stC at hst
      rw [zip_fst] at hst
      obtain ⟨n0, hn0⟩ : ∃ n, countB es 0 = n := ⟨_, rfl⟩
      obtain ⟨n1, hn1⟩ : ∃ n, countB es 1 = n := ⟨_, rfl⟩
      obtain ⟨n2, hn2⟩ : ∃ n, countB es 2 = n := ⟨_, rfl⟩
      rw [hn0] at hc0 hst
      rw [hn1] at hc1 hst
      rw [hn2] at hc2 hst
      have HST := Lib.hid hst
      have HC0 := Lib.hid hc0
      have HC1 := Lib.hid hc1
      have HC2 := Lib.hid hc2
      have HC3 := Lib.hid hc3
      have HDD : Hid (D ≠ D2 ∧ D ≠ w.heap.size + 1 + 1 ∧ D2 ≠ w.heap.size + 1 + 1) := Lib.hid ⟨by omega, by omega, by omega⟩
      clear hk hO hK2 hold hBZ hcs h3 hc0 hc1 hc2 hc3 hst hn0 hn1 hn2 HSX HS7 hk6 HSI HKD HM2 HL2 HR2 HNX HB36
      go_wp2
      refine wp_region_conf2 43 [Fact.eq ?rbx0, Fact.eq ?rbx1, Fact.eq ?rbx2, Fact.eq (.bool true), Fact.eq ?rbx4, Fact.eq ?rbx5, Fact.eq ?rbx6, Fact.eq ?rbx7, Fact.eq (.bool true), Fact.eq ?rbx9, Fact.eq ?rbx10, Fact.eq ?rbx11, Fact.eq ?rbx12, Fact.eq ?rbx13, Fact.eq ?rbx14, Fact.eq (.bool true), Fact.eq ?rbx16, Fact.eq ?rbx17, Fact.eq ?rbx18, Fact.eq ?rbx19, Fact.eq ?rbx20, Fact.eq ?rbx21, Fact.eq (.bool true), Fact.eq ?rbx23, Fact.eq ?rbx24, Fact.eq ?rbx25, Fact.eq ?rbx26, Fact.eq ?rbx27, Fact.eq ?rbx28, Fact.eq (.bool true), Fact.eq ?rbx30, Fact.eq ?rbx31, Fact.eq ?rbx32, Fact.eq ?rbx33, Fact.eq ?rbx34, Fact.eq ?rbx35, Fact.eq (.bool true), Fact.eq ?rbx37, Fact.eq ?rbx38, Fact.eq ?rbx39, Fact.eq ?rbx40, Fact.eq (.bool true), Fact.eq ?rbx42] ?rbA (by kernel_rfl) (by kernel_rfl) ?rbhA ?rbho ?rbhend
      case rbhA =>
        intro vv
        simp only [putRules, Nat.reduceAdd]
        rfl
      case rbho =>
        refine ⟨?_, ?_, ?_, ?_, ?_, ?_, ?_, ?_, ?_, ?_, ?_, ?_, ?_, ?_, ?_, ?_, ?_, ?_, ?_, ?_, ?_, ?_, ?_, ?_, ?_, ?_, ?_, ?_, ?_, ?_, ?_, ?_, ?_, ?_, ?_, ?_, ?_, ?_, ?_, ?_, ?_, ?_, ?_, trivial⟩
        · intro vv W K hB hd HK
          simp only [confRules] at HK
          clear hd
          have hT := cell_of_one ((hB.block (w.heap.size + 1 + 1 + 1) (by omega)).trans HN7.out)
          go_wp2
          refine HK.out _ _ (Below.refl _ _) ?_
          rfl
        · intro vv W K hB hd HK
          simp only [confRules] at HK
          clear hd
          have hT := cell_of_one ((hB.block (w.heap.size + 1) (by omega)).trans HL7.out)
          go_wp2
          refine HK.out _ _ (Below.refl _ _) ?_
          rfl
        · intro vv W K hB hd HK
          simp only [confRules] at hd HK
          have h1 := hd
          clear hd
          simp only [h1] at HK ⊢
          clear h1
          go_wp2
          refine HK.out _ _ (Below.refl _ _) ?_
          rfl
        · intro vv W K hB hd HK
          simp only [confRules] at hd HK
          obtain ⟨h0, h2⟩ := hd
          simp only [h0, h2] at HK ⊢
          clear h0 h2
          go_wp2
          refine HK.out _ _ (Below.refl _ _) ?_
          first | rfl | exact congrArg Value.bool (by simp)
        · intro vv W K hB hd HK
          simp only [confRules] at hd HK
          have h3 := hd
          clear hd
          simp only [h3] at HK ⊢
          clear h3
          go_wp2
          refine HK.out _ _ (Below.refl _ _) ?_
          rfl
        · intro vv W K hB hd HK
          simp only [confRules] at hd HK
          have h4 := hd
          clear hd
          simp only [h4] at HK ⊢
          clear h4
          refine wpList_guard_yes (by rfl) ?_
          have hT := cell_of_one ((hB.block (w3.heap.size + 1) (by omega)).trans HK7.out)
          go_wp2
          refine HK.out _ _ (Below.refl _ _) ?_
          rfl
        · intro vv W K hB hd HK
          simp only [confRules] at hd HK
          have h4 := hd
          clear hd
          simp only [h4] at HK ⊢
          clear h4
          refine wpList_guard_yes (by rfl) ?_
          have hT := cell_of_one ((hB.block (w3.heap.size) (by omega)).trans HW7.out)
          go_wp2
          refine HK.out _ _ (Below.refl _ _) ?_
          rfl
        · intro vv W K hB hd HK
          simp only [confRules] at hd HK
          obtain ⟨h6, h4⟩ := hd
          simp only [h6, h4] at HK ⊢
          clear h6 h4
          refine wpList_guard_yes (by rfl) ?_
          go_wp2
          refine HK.out _ _ (Below.refl _ _) ?_
          rfl
        · intro vv W K hB hd HK
          simp only [confRules] at hd HK
          obtain ⟨h5, h7, h4⟩ := hd
          simp only [h5, h7, h4] at HK ⊢
          clear h5 h7 h4
          refine wpList_guard_yes (by rfl) ?_
          go_wp2
          refine HK.out _ _ (Below.refl _ _) ?_
          first | rfl | exact congrArg Value.bool (by simp)
        · intro vv W K hB hd HK
          simp only [confRules] at hd HK
          obtain ⟨h4, h8⟩ := hd
          simp only [h4, h8] at HK ⊢
          clear h4 h8
          go_wp2
          refine HK.out _ _ (Below.refl _ _) ?_
          rfl
        · intro vv W K hB hd HK
          simp only [confRules] at hd HK
          obtain ⟨h9, h4⟩ := hd
          simp only [h9, h4] at HK ⊢
          clear h9 h4
          go_wp2
          refine HK.out _ _ (Below.refl _ _) ?_
          rfl
        · intro vv W K hB hd HK
          simp only [confRules] at hd HK
          have h10 := hd
          clear hd
          simp only [h10] at HK ⊢
          clear h10
          refine wpList_guard_yes (by rfl) ?_
          have hT := cell_of_one ((hB.block (w.heap.size) (by omega)).trans HM7.out)
          go_wp2
          refine HK.out _ _ (Below.refl _ _) ?_
          rfl
        · intro vv W K hB hd HK
          simp only [confRules] at hd HK
          have h10 := hd
          clear hd
          simp only [h10] at HK ⊢
          clear h10
          refine wpList_guard_yes (by rfl) ?_
          go_wp2
          refine HK.out _ _ (Below.refl _ _) ?_
          rfl
        · intro vv W K hB hd HK
          simp only [confRules] at hd HK
          obtain ⟨h11, h12, h10, _⟩ := hd
          simp only [h11, h12, h10] at HK ⊢
          clear h11 h12 h10
          refine wpList_guard_yes (by rfl) ?_
          go_wp2_with (refine (HLV.out _ hB).mono ?_; rintro e w9 ⟨rfl, rfl⟩)
          refine HK.out _ _ (Below.refl _ _) ?_
          rfl
        · intro vv W K hB hd HK
          simp only [confRules] at hd HK
          have h10 := hd
          clear hd
          simp only [h10] at HK ⊢
          clear h10
          refine wpList_guard_yes (by rfl) ?_
          have hT := cell_of_one ((hB.block (w3.heap.size + 1) (by omega)).trans HK7.out)
          go_wp2
          refine HK.out _ _ (Below.refl _ _) ?_
          rfl
        · intro vv W K hB hd HK
          simp only [confRules] at hd HK
          obtain ⟨h13, h14, h10⟩ := hd
          simp only [h13, h14, h10] at HK ⊢
          clear h13 h14 h10
          refine wpList_guard_yes (by rfl) ?_
          go_wp2
          refine HK.out _ _ (Below.refl _ _) ?_
          first | rfl | exact congrArg Value.bool (by simp)
        · intro vv W K hB hd HK
          simp only [confRules] at hd HK
          obtain ⟨h10, h15⟩ := hd
          simp only [h10, h15] at HK ⊢
          clear h10 h15
          go_wp2
          refine HK.out _ _ (Below.refl _ _) ?_
          rfl
        · intro vv W K hB hd HK
          simp only [confRules] at hd HK
          obtain ⟨h16, h13⟩ := hd
          simp only [h16, h13] at HK ⊢
          clear h16 h13
          go_wp2
          refine HK.out _ _ (Below.refl _ _) ?_
          rfl
        · intro vv W K hB hd HK
          simp only [confRules] at hd HK
          have h17 := hd
          clear hd
          simp only [h17] at HK ⊢
          clear h17
          refine wpList_guard_yes (by rfl) ?_
          have hT := cell_of_one ((hB.block (w.heap.size) (by omega)).trans HM7.out)
          go_wp2
          refine HK.out _ _ (Below.refl _ _) ?_
          rfl
        · intro vv W K hB hd HK
          simp only [confRules] at hd HK
          obtain ⟨h18, h17, _⟩ := hd
          simp only [h18, h17] at HK ⊢
          clear h18 h17
          refine wpList_guard_yes (by rfl) ?_
          go_wp2_with (refine (HC0.out _ hB).mono ?_; rintro e w9 ⟨rfl, hB9⟩)
          refine HK.out _ _ hB9 ?_
          rfl
        · intro vv W K hB hd HK
          simp only [confRules] at hd HK
          have h17 := hd
          clear hd
          simp only [h17] at HK ⊢
          clear h17
          refine wpList_guard_yes (by rfl) ?_
          go_wp2
          refine HK.out _ _ (Below.refl _ _) ?_
          rfl
        · intro vv W K hB hd HK
          simp only [confRules] at hd HK
          obtain ⟨h20, h17⟩ := hd
          simp only [h20, h17] at HK ⊢
          clear h20 h17
          refine wpList_guard_yes (by rfl) ?_
          have hT := (cell_of_row _ _ 0 _ _ _ ((hB.block (w.heap.size + 1 + 1 + 1 + 1) (by omega)).trans HST.out)).trans rfl
          go_wp2
          refine HK.out _ _ (Below.refl _ _) ?_
          rfl
        · intro vv W K hB hd HK
          simp only [confRules] at hd HK
          obtain ⟨h19, h21, h17⟩ := hd
          simp only [h19, h21, h17] at HK ⊢
          clear h19 h21 h17
          refine wpList_guard_yes (by rfl) ?_
          go_wp2
          refine HK.out _ _ (Below.refl _ _) ?_
          first | rfl | exact congrArg Value.bool (by simp)
        · intro vv W K hB hd HK
          simp only [confRules] at hd HK
          obtain ⟨h17, h22⟩ := hd
          simp only [h17, h22] at HK ⊢
          clear h17 h22
          go_wp2
          refine HK.out _ _ (Below.refl _ _) ?_
          rfl
        · intro vv W K hB hd HK
          simp only [confRules] at hd HK
          obtain ⟨h23, h19⟩ := hd
          simp only [h23, h19] at HK ⊢
          clear h23 h19
          go_wp2
          refine HK.out _ _ (Below.refl _ _) ?_
          rfl
        · intro vv W K hB hd HK
          simp only [confRules] at hd HK
          have h24 := hd
          clear hd
          simp only [h24] at HK ⊢
          clear h24
          refine wpList_guard_yes (by rfl) ?_
          have hT := cell_of_one ((hB.block (w.heap.size) (by omega)).trans HM7.out)
          go_wp2
          refine HK.out _ _ (Below.refl _ _) ?_
          rfl
        · intro vv W K hB hd HK
          simp only [confRules] at hd HK
          obtain ⟨h25, h24, _⟩ := hd
          simp only [h25, h24] at HK ⊢
          clear h25 h24
          refine wpList_guard_yes (by rfl) ?_
          go_wp2_with (refine (HC1.out _ hB).mono ?_; rintro e w9 ⟨rfl, hB9⟩)
          refine HK.out _ _ hB9 ?_
          rfl
        · intro vv W K hB hd HK
          simp only [confRules] at hd HK
          have h24 := hd
          clear hd
          simp only [h24] at HK ⊢
          clear h24
          refine wpList_guard_yes (by rfl) ?_
          go_wp2
          refine HK.out _ _ (Below.refl _ _) ?_
          rfl
        · intro vv W K hB hd HK
          simp only [confRules] at hd HK
          obtain ⟨h27, h24⟩ := hd
          simp only [h27, h24] at HK ⊢
          clear h27 h24
          refine wpList_guard_yes (by rfl) ?_
          have hT := (cell_of_row _ _ 1 _ _ _ ((hB.block (w.heap.size + 1 + 1 + 1 + 1) (by omega)).trans HST.out)).trans rfl
          go_wp2
          refine HK.out _ _ (Below.refl _ _) ?_
          rfl
        · intro vv W K hB hd HK
          simp only [confRules] at hd HK
          obtain ⟨h26, h28, h24⟩ := hd
          simp only [h26, h28, h24] at HK ⊢
          clear h26 h28 h24
          refine wpList_guard_yes (by rfl) ?_
          go_wp2
          refine HK.out _ _ (Below.refl _ _) ?_
          first | rfl | exact congrArg Value.bool (by simp)
        · intro vv W K hB hd HK
          simp only [confRules] at hd HK
          obtain ⟨h24, h29⟩ := hd
          simp only [h24, h29] at HK ⊢
          clear h24 h29
          go_wp2
          refine HK.out _ _ (Below.refl _ _) ?_
          rfl
        · intro vv W K hB hd HK
          simp only [confRules] at hd HK
          obtain ⟨h30, h26⟩ := hd
          simp only [h30, h26] at HK ⊢
          clear h30 h26
          go_wp2
          refine HK.out _ _ (Below.refl _ _) ?_
          rfl
        · intro vv W K hB hd HK
          simp only [confRules] at hd HK
          have h31 := hd
          clear hd
          simp only [h31] at HK ⊢
          clear h31
          refine wpList_guard_yes (by rfl) ?_
          have hT := cell_of_one ((hB.block (w.heap.size) (by omega)).trans HM7.out)
          go_wp2
          refine HK.out _ _ (Below.refl _ _) ?_
          rfl
        · intro vv W K hB hd HK
          simp only [confRules] at hd HK
          obtain ⟨h32, h31, _⟩ := hd
          simp only [h32, h31] at HK ⊢
          clear h32 h31
          refine wpList_guard_yes (by rfl) ?_
          go_wp2_with (refine (HC2.out _ hB).mono ?_; rintro e w9 ⟨rfl, hB9⟩)
          refine HK.out _ _ hB9 ?_
          rfl
        · intro vv W K hB hd HK
          simp only [confRules] at hd HK
          have h31 := hd
          clear hd
          simp only [h31] at HK ⊢
          clear h31
          refine wpList_guard_yes (by rfl) ?_
          go_wp2
          refine HK.out _ _ (Below.refl _ _) ?_
          rfl
        · intro vv W K hB hd HK
          simp only [confRules] at hd HK
          obtain ⟨h34, h31⟩ := hd
          simp only [h34, h31] at HK ⊢
          clear h34 h31
          refine wpList_guard_yes (by rfl) ?_
          have hT := (cell_of_row _ _ 2 _ _ _ ((hB.block (w.heap.size + 1 + 1 + 1 + 1) (by omega)).trans HST.out)).trans rfl
          go_wp2
          refine HK.out _ _ (Below.refl _ _) ?_
          rfl
        · intro vv W K hB hd HK
          simp only [confRules] at hd HK
          obtain ⟨h33, h35, h31⟩ := hd
          simp only [h33, h35, h31] at HK ⊢
          clear h33 h35 h31
          refine wpList_guard_yes (by rfl) ?_
          go_wp2
          refine HK.out _ _ (Below.refl _ _) ?_
          first | rfl | exact congrArg Value.bool (by simp)
        · intro vv W K hB hd HK
          simp only [confRules] at hd HK
          obtain ⟨h31, h36⟩ := hd
          simp only [h31, h36] at HK ⊢
          clear h31 h36
          go_wp2
          refine HK.out _ _ (Below.refl _ _) ?_
          rfl
        · intro vv W K hB hd HK
          simp only [confRules] at hd HK
          obtain ⟨h37, h33⟩ := hd
          simp only [h37, h33] at HK ⊢
          clear h37 h33
          go_wp2
          refine HK.out _ _ (Below.refl _ _) ?_
          rfl
        · intro vv W K hB hd HK
          simp only [confRules] at hd HK
          have h38 := hd
          clear hd
          simp only [h38] at HK ⊢
          clear h38
          refine wpList_guard_yes (by rfl) ?_
          have hT := cell_of_one ((hB.block (w.heap.size) (by omega)).trans HM7.out)
          go_wp2
          refine HK.out _ _ (Below.refl _ _) ?_
          rfl
        · intro vv W K hB hd HK
          simp only [confRules] at hd HK
          obtain ⟨h39, h38, _⟩ := hd
          simp only [h39, h38] at HK ⊢
          clear h39 h38
          refine wpList_guard_yes (by rfl) ?_
          go_wp2_with (refine (HC3.out _ hB).mono ?_; rintro e w9 ⟨rfl, hB9⟩)
          refine HK.out _ _ hB9 ?_
          rfl
        · intro vv W K hB hd HK
          simp only [confRules] at hd HK
          obtain ⟨h40, h38⟩ := hd
          simp only [h40, h38] at HK ⊢
          clear h40 h38
          refine wpList_guard_yes (by rfl) ?_
          go_wp2
          refine HK.out _ _ (Below.refl _ _) ?_
          first | rfl | exact congrArg Value.bool (by simp)
        · intro vv W K hB hd HK
          simp only [confRules] at hd HK
          obtain ⟨h38, h41⟩ := hd
          simp only [h38, h41] at HK ⊢
          clear h38 h41
          go_wp2
          refine HK.out _ _ (Below.refl _ _) ?_
          rfl
      case rbhend =>
        intro vv W hB hf
        have e42 := hf 42 (by decide)
        simp only [endRules] at e42
        simp only [e42, dropRules]
        clear hf e42
        have hr := (hB.block (w.heap.size + 1 + 1) (by omega)).trans HR7.out
        have hc1' := cell_of_one hr
        have hf1' := free_of_one hr
        have HRR := Lib.hid hr
        have HK2 := Lib.hid ((hB.block D (by omega)).trans HD7.out)
        have HE2 := Lib.hid ((hB.block D2 hD2l).trans HE7.out)
        have hBW := HBZ.out.trans (hB.mono HBZ.out.size)
        clear hr
        go_wp2
        have hset : Only [w.heap.size + 1 + 1] W (W.setCell ⟨w.heap.size + 1 + 1, 0, none⟩ (.bool true)) := (Only.refl _ _).setCell (.inl (by simp)) _
        refine leave_marks (v := .bool true) [D2, D] _ (by simpa using fun e => HDD.out.1 e.symm) ?_ ?_
        · intro E hE
          rcases List.mem_cons.1 hE with e | hE
          · rw [e]; exact hset.get HE2.out (by simpa using HDD.out.2.2)
          · rw [List.mem_singleton.1 hE]; exact hset.get HK2.out (by simpa using HDD.out.2.1)
        · intro W' hO'
          have hr' := hO'.get (one_setCell HRR.out) (by
            simp only [List.mem_cons, List.not_mem_nil, or_false, not_or]
            exact ⟨fun e => HDD.out.2.2 e.symm, fun e => HDD.out.2.1 e.symm⟩)
          have hc' := cell_of_one hr'
          refine ⟨by simp [results, Try.results34, go_sem, hc'], rfl, ?_⟩
          exact (hBW.trans (hset.below (B := w.heap.size) (by simp; omega) hBW.size)).trans (hO'.below (B := w.heap.size) (by have := HBW2.out.size; simp; omega) (hBW.trans (hset.below (B := w.heap.size) (by simp; omega) hBW.size)).size)
    case stop2 =>
      rintro D2 c pre W _ _ h _
      exact h.elim
  case stop =>
    rintro D c pre W _ _ h _
    exact h.elim
end Go.Proofs.Yteggijkcdlboeaa
