/- Proved here, one behind the other: Proved here: the walk of the law on what plays no part. -/
import Derived.LoopTactic
import Derived.WalkLawsBesides
import Derived.Test.YtoiephmngdecaaaQa
import Derived.Test.YtoiephmngdecaaaQb
import Derived.Test.YtoiephmngdecaaaQc
import Derived.Test.YtoiephmngdecaaaQd
import Derived.Test.YtoiephmngdecaaaQe
import Derived.Test.YtoiephmngdecaaaQf
import Derived.Test.YtoiephmngdecaaaQg
import Derived.Test.YtoiephmngdecaaaQh
namespace Go.Proofs.Ytoiephmngdecaaa
open Go.RowKit Go.Rv Rl Frm
set_option linter.unusedVariables false
attribute [local go_sem] Oper.semAt_some
namespace Rl
theorem filter_takeB {α : Type} (p : α → Bool) {l : List α} {k : Nat} {x : α} (h : l[k]? = some x) : (l.take (k + 1)).filter p = (l.take k).filter p ++ (if p x = true then [x] else []) := by
  rw [List.take_add_one, h, List.filter_append]
  simp only [Option.toList_some]
  congr 1
  by_cases hp : p x = true <;> simp [hp]
end Rl
namespace Rl
theorem recs_beside (g : Geo.G) (epoch next : Int) (l more : List Fnd) (m : Nat) : recs g epoch next (l.take m ++ more.filter (fun f => (f.fr.epoch != epoch || decide (f.fr.seq < next))) ++ l.drop m) = recs g epoch next l := by
  rw [recs_append, recs_append, recs_none (l := more.filter _), List.append_nil, ← recs_append, List.take_append_drop]
  intro f hf
  have := (List.mem_filter.1 hf).2
  simp only [Bool.or_eq_true, bne_iff_ne, decide_eq_true_eq] at this
  exact this
end Rl
theorem callsIn_roundB {P : Program} {rr n : Nat} {f : FuncId} {args : Array Value} {w : World} {R : Ending → World → Prop} (h : Calls P f args w R) : CallsIn (Fence.wide.inRound rr) n P f args w R := (callsIn_wide (n := n)).2 h
theorem add_zero_addr (a : Option Addr) : a.map (·.add 0) = a := by
  cases a with
  | none => rfl
  | some x => rfl
theorem cut_hi (a : Option Addr) (n c m : Nat) (hm : m ≤ c) (W : World) : (Instr.slice 25 (.slice a n c) none (some (.int .i64 (m : Nat))) none).run Try.prog W = .ok (.slice a m c) W := by
  have he : Try.prog.elem 25 = 70 := by kernel_rfl
  have hs : (sizeOf (Try.prog.elem 25)).run Try.prog W = .ok 51 W := by rw [he]; kernel_rfl
  rw [run_slice_h (P := Try.prog) (w := W) 25 a n c (by rw [he]; exact Try.underlying25) .i64 (m : Nat) (by omega) (by omega), hs]
  simp only [Result.andThen, sliced, Int.toNat_natCast, Nat.zero_mul, add_zero_addr, Nat.sub_zero]
  simp
theorem cut_lo (a : Option Addr) (n c m : Nat) (hm : m ≤ n) (W : World) : (Instr.slice 25 (.slice a n c) (some (.int .i64 (m : Nat))) none none).run Try.prog W = .ok (.slice (if c = m then a else a.map (·.add (m * 51))) (n - m) (c - m)) W := by
  have he : Try.prog.elem 25 = 70 := by kernel_rfl
  have hs : (sizeOf (Try.prog.elem 25)).run Try.prog W = .ok 51 W := by rw [he]; kernel_rfl
  rw [run_slice_l (P := Try.prog) (w := W) 25 a n c (by rw [he]; exact Try.underlying25) .i64 (m : Nat) (by omega) (by omega), hs]
  simp only [Result.andThen, sliced, Int.toNat_natCast]
theorem rowOf_lo {w : World} {a : Option Addr} {l : List Fnd} {c m : Nat} (h : RowOf w 51 fndC FndQ a l) (hc : l.length ≤ c) (hn : a = none → c = 0) (hm : m ≤ l.length) :
    RowOf w 51 fndC FndQ (if c = m then a else a.map (·.add (m * 51))) (l.drop m) ∧ ((if c = m then a else a.map (·.add (m * 51))) = none → c - m = 0) := by
  by_cases hcm : c = m
  · rw [if_pos hcm]
    exact ⟨.inl (List.eq_nil_of_length_eq_zero (by rw [List.length_drop]; omega)), fun e => by have := hn e; omega⟩
  · rw [if_neg hcm]
    cases a with
    | none => have := hn rfl; omega
    | some ad =>
      refine ⟨?_, fun e => by cases e⟩
      rcases h with h | ⟨b, o, e, hb, hx⟩
      · exact .inl (by rw [h]; simp)
      · cases e
        rw [Option.map_some, add_lit]
        have h1 := Rl2.rowOf_drop (.inr ⟨b, o, rfl, hb, hx⟩ : RowOf w 51 fndC FndQ (some ⟨b, o, none⟩) l) m
        exact h1
set_option maxRecDepth 100000 in
set_option maxHeartbeats 32000000 in
theorem roll_beside_walk (w : World) (g : Geo.G) (a1 : Option Addr) (l1 : List (Int × BE)) (c1 : Nat) (epoch next : Int) (a2 : Option Addr) (l2 : List Fnd) (c2 : Nat) (a3 : Option Addr) (l3 : List Fnd) (c3 : Nat) (pos : Int) (hI1 : RowOf w 7 opC Op64 a1 l1) (hI2 : RowOf w 51 fndC FndQ a2 l2) (hI3 : RowOf w 51 fndC FndQ a3 l3)
    (hc2 : l2.length ≤ c2) (hn2c : a2 = none → c2 = 0) :
    Calls Try.prog 5 #[.agg (GC g), .slice a1 l1.length c1, .int .i64 epoch, .int .i64 next, .slice a2 l2.length c2, .slice a3 l3.length c3, .int .i64 pos] w fun e w' => e = .returned (.bool true) ∧ Below w.heap.size w w' := by
  have HA := Lib.hid (fun (W : World) => roll_anchor W)
  have HGI := Lib.hid (gsize (g := g))
  have HMA : Hid (∀ W, Below w.heap.size w W → Calls Try.prog 10 #[.agg (GC g), .slice a1 l1.length c1, .int .i64 epoch, .int .i64 next] W (MadePost17 W g l1 epoch next)) := Lib.hid (fun W hW => made17_any g a1 l1 c1 epoch next W (hI1.below hW))
  have HNW := Lib.hid (fun (W : World) => new_any W)
  have hzs := (zero_of_info Try.infoSnz).1
  have hzf := (zero_of_info Try.infoFnd).1
  have hzr := (zero_of_info Try.infoRes).1
  have HI2 := Lib.hid hI2
  have HI3 := Lib.hid hI3
  obtain ⟨W0, hW0⟩ : ∃ W, (w.alloc (.cells (GC g) 23)).alloc (.cells #[.bool false] 4) = W := ⟨_, rfl⟩
  have hb0 : Below w.heap.size w W0 := by rw [← hW0]; exact ((Below.refl _ _).alloc (Nat.le_refl _) _).alloc (by simp) _
  have hg0 : W0.heap[w.heap.size]? = some (.cells (GC g) 23 (0, 0)) := by rw [← hW0]; exact heap_alloc2_old w _ _
  have hc0 : W0.heap[w.heap.size + 1]? = some (.cells #[.bool false] 4 (0, 0)) := by rw [← hW0]; exact heap_alloc2_new w _ _
  have zg0 : w.heap.size + 1 < W0.heap.size := (Array.getElem?_eq_some_iff.1 hc0).1
  have HC0 := Lib.hid hc0
  have HW0 := Lib.hid hW0
  have HG0 := Lib.hid hg0
  have HB0 := Lib.hid hb0
  obtain ⟨GX, hGX⟩ : ∃ X, GC g = X := ⟨_, rfl⟩
  rw [hGX] at HGI HMA HW0 HG0 ⊢
  have HGX := Lib.hid hGX
  obtain ⟨TV, hTV⟩ : ∃ T, Tb.tabV = T := ⟨_, rfl⟩
  rw [hTV] at HNW
  have HTV := Lib.hid hTV
  obtain ⟨n1, hn1⟩ : ∃ n, l1.length = n := ⟨_, rfl⟩
  rw [hn1] at HMA ⊢
  obtain ⟨n2, hn2⟩ : ∃ n, l2.length = n := ⟨_, rfl⟩
  rw [hn2]
  have HN2 := Lib.hid hn2
  rw [hn2] at hc2
  obtain ⟨n3, hn3⟩ : ∃ n, l3.length = n := ⟨_, rfl⟩
  rw [hn3]
  have HN3 := Lib.hid hn3
  obtain ⟨XZ, hXZ⟩ : ∃ X, SZ = X := ⟨_, rfl⟩
  rw [hXZ] at hzs
  have HXZ := Lib.hid hXZ
  clear hI1 hI2 hI3 hn3 hW0 hb0 hg0 hc0 hGX hTV hn1 hn2 hXZ
  refine calls_of_marks Try.func5 rfl ?_
  simp only [Try.ntmps5, List.size_toArray, List.length_cons, List.length_nil, Nat.reduceAdd, Nat.reduceSub, Array.replicate_succ, Array.replicate_zero, List.push_toArray, List.append_toArray, List.nil_append, List.cons_append]
  go_upto_region 1 with (fail)
  rw [HW0.out]
  go_wp2_with fail
  refine (HA.out _).mono ?_
  rintro e1 w1 ⟨rfl, hB1⟩
  have z1 := hB1.size
  have HG1 := Lib.hid ((hB1.block w.heap.size (by omega)).trans HG0.out)
  have HC1 := Lib.hid ((hB1.block (w.heap.size + 1) zg0).trans HC0.out)
  have HB1 := Lib.hid (HB0.out.trans (hB1.mono HB0.out.size))
  clear hB1
  go_wp2_with (refine wpList_load_row rfl 23 _ rfl w.heap.size rfl 23 _ _ _ HG1.out Try.underlying23 rfl HGI.out ?_)
  refine (HMA.out _ HB1.out).mono ?_
  rintro e3 w3 ⟨S1, v3, ok, rfl, ⟨hS1, hS2, hS3⟩, hB3, hmade⟩
  have z3 := hB3.size
  have HS1 := Lib.hid hS1
  have HS2 := Lib.hid hS2
  rw [HXZ.out] at hS3
  have HS3 := Lib.hid hS3
  have HB3 := Lib.hid (HB1.out.trans (hB3.mono HB1.out.size))
  obtain ⟨W4, hW4⟩ : ∃ W, w3.alloc (.cells S1 29) = W := ⟨_, rfl⟩
  have hb4 : Below w3.heap.size w3 W4 := by rw [← hW4]; exact (Below.refl _ _).alloc (Nat.le_refl _) _
  have hs4 : W4.heap[w3.heap.size]? = some (.cells S1 29 (0, 0)) := by rw [← hW4]; exact heap_alloc_new w3 _
  have zs4 : w3.heap.size < W4.heap.size := (Array.getElem?_eq_some_iff.1 hs4).1
  have HS4 := Lib.hid hs4
  have HB4 := Lib.hid (HB3.out.trans (hb4.mono HB3.out.size))
  have HC4 := Lib.hid ((hb4.block (w.heap.size + 1) (by omega)).trans ((hB3.block (w.heap.size + 1) (by omega)).trans HC1.out))
  have HG4 := Lib.hid ((hb4.block w.heap.size (by omega)).trans ((hB3.block w.heap.size (by omega)).trans HG1.out))
  have HJ4 := Lib.hid (HI3.out.below HB4.out)
  have HI4 := Lib.hid (HI2.out.below HB4.out)
  have HW4 := Lib.hid hW4
  have HMD := Lib.hid hmade
  have HK4 := Lib.hid hb4
  clear hB3 hS1 hS2 hS3 hb4 hs4 hW4 hmade
  go_upto_region 4 with (refine wpList_store_row rfl 29 _ _ rfl w3.heap.size S1 rfl rfl 29 XZ (heap_alloc_new w3 _) HS1.out HS3.out HS2.out ?_; rw [World.setRow_alloc_new])
  rw [HW4.out]
  try rw [put_none]
  obtain ⟨bs, hbs⟩ : ∃ b, w3.heap.size = b := ⟨_, rfl⟩
  have HBS := Lib.hid hbs
  rw [hbs] at HS4 zs4 ⊢
  clear hbs
  rcases HMD.out with ⟨rfl, -, -⟩ | ⟨hok, hgr, p, le, ll, rfl, hbm, hmo, -, -⟩
  · clear zs4 hc2
    have hcr := cell_of_one HC4.out
    have hfr := free_of_one HC4.out
    go_wp2
    refine leave_marks (v := .bool true) [] _ (by simp) (by simp) ?_
    intro W' hO'
    have hr' := hO'.get (one_setCell HC4.out) (by simp)
    have hc' := cell_of_one hr'
    refine ⟨by simp [results, Try.results5, go_sem, hc'], rfl, ?_⟩
    have h2 : Only [w.heap.size + 1] W4 (W4.setCell ⟨w.heap.size + 1, 0, none⟩ (.bool true)) := (Only.refl _ _).setCell (.inl (by simp)) _
    have h3 : Below w.heap.size w (W4.setCell ⟨w.heap.size + 1, 0, none⟩ (.bool true)) := HB4.out.trans (h2.below (by simp) HB4.out.size)
    exact h3.trans (hO'.below (by simp) h3.size)
  cases hrt : Sn.right 1 epoch next (madeEs g l1)
  · rw [hrt] at hok
    subst hok
    clear hgr hbm hmo hrt hc2
    have hcr := cell_of_one HC4.out
    have hfr := free_of_one HC4.out
    go_wp2
    refine leave_marks (v := .bool true) [] _ (by simp) (by simp) ?_
    intro W' hO'
    have hr' := hO'.get (one_setCell HC4.out) (by simp)
    have hc' := cell_of_one hr'
    refine ⟨by simp [results, Try.results5, go_sem, hc'], rfl, ?_⟩
    have h2 : Only [w.heap.size + 1] W4 (W4.setCell ⟨w.heap.size + 1, 0, none⟩ (.bool true)) := (Only.refl _ _).setCell (.inl (by simp)) _
    have h3 : Below w.heap.size w (W4.setCell ⟨w.heap.size + 1, 0, none⟩ (.bool true)) := HB4.out.trans (h2.below (by simp) HB4.out.size)
    exact h3.trans (hO'.below (by simp) h3.size)
  rw [hrt] at hok
  subst hok
  have HBM4 := Lib.hid (hbm.below (HK4.out))
  have HOK := Lib.hid hmo
  have HGR := Lib.hid hgr
  have HRT := Lib.hid hrt
  clear hgr hbm hmo hrt HMD
  by_cases hbig : 40 < n2
  · have t1 : decide (40 < n2) = true := decide_eq_true hbig
    have t2 : decide ((40 : Int) < (n2 : Int)) = true := decide_eq_true (by omega)
    clear hc2
    have hcr := cell_of_one HC4.out
    have hfr := free_of_one HC4.out
    go_wp2
    refine leave_marks (v := .bool true) [] _ (by simp) (by simp) ?_
    intro W' hO'
    have hr' := hO'.get (one_setCell HC4.out) (by simp)
    have hc' := cell_of_one hr'
    refine ⟨by simp [results, Try.results5, go_sem, hc'], rfl, ?_⟩
    have h2 : Only [w.heap.size + 1] W4 (W4.setCell ⟨w.heap.size + 1, 0, none⟩ (.bool true)) := (Only.refl _ _).setCell (.inl (by simp)) _
    have h3 : Below w.heap.size w (W4.setCell ⟨w.heap.size + 1, 0, none⟩ (.bool true)) := HB4.out.trans (h2.below (by simp) HB4.out.size)
    exact h3.trans (hO'.below (by simp) h3.size)
  by_cases hbig3 : 40 < n3
  · have t1 : decide (40 < n2) = false := decide_eq_false hbig
    have t2 : decide ((40 : Int) < (n2 : Int)) = false := decide_eq_false (by omega)
    have t3 : decide (40 < n3) = true := decide_eq_true hbig3
    have t4 : decide ((40 : Int) < (n3 : Int)) = true := decide_eq_true (by omega)
    clear hc2
    have hcr := cell_of_one HC4.out
    have hfr := free_of_one HC4.out
    go_wp2
    refine leave_marks (v := .bool true) [] _ (by simp) (by simp) ?_
    intro W' hO'
    have hr' := hO'.get (one_setCell HC4.out) (by simp)
    have hc' := cell_of_one hr'
    refine ⟨by simp [results, Try.results5, go_sem, hc'], rfl, ?_⟩
    have h2 : Only [w.heap.size + 1] W4 (W4.setCell ⟨w.heap.size + 1, 0, none⟩ (.bool true)) := (Only.refl _ _).setCell (.inl (by simp)) _
    have h3 : Below w.heap.size w (W4.setCell ⟨w.heap.size + 1, 0, none⟩ (.bool true)) := HB4.out.trans (h2.below (by simp) HB4.out.size)
    exact h3.trans (hO'.below (by simp) h3.size)
  have t1 : decide (40 < n2) = false := decide_eq_false hbig
  have t2 : decide ((40 : Int) < (n2 : Int)) = false := decide_eq_false (by omega)
  have t3 : decide (40 < n3) = false := decide_eq_false hbig3
  have t4 : decide ((40 : Int) < (n3 : Int)) = false := decide_eq_false (by omega)
  have HC2 := Lib.hid hc2
  clear hc2
  go_upto_region 6 with (fail)
  clear t1 t2 t3 t4
  go_upto_region 7 with (fail)
  obtain ⟨m, hm1, hm2⟩ : ∃ m : Nat, max (min pos (n2 : Nat)) 0 = (m : Int) ∧ m ≤ n2 := ⟨(max (min pos (n2 : Nat)) 0).toNat, by omega, by omega⟩
  rw [hm1]
  clear hm1
  have hcut1 := fun W => cut_hi a2 n2 c2 m (by have := HC2.out; omega) W
  have hcut2 := fun W => cut_lo a2 n2 c2 m hm2 W
  have HCUT2 := Lib.hid hcut2
  obtain ⟨B, hB⟩ : ∃ B, W4.heap.size = B := ⟨_, rfl⟩
  have hsB : bs < B := by omega
  have hcB : w.heap.size + 1 < B := by have h1 := (Array.getElem?_eq_some_iff.1 HC4.out).1; omega
  have HB := Lib.hid hB
  obtain ⟨W5, hW5⟩ : ∃ W, W4.alloc (.cells #[] 70) = W := ⟨_, rfl⟩
  have hb5 : Below W4.heap.size W4 W5 := by rw [← hW5]; exact (Below.refl _ _).alloc (Nat.le_refl _) _
  have he5 : W5.heap[W4.heap.size]? = some (.cells #[] 70 (0, 0)) := by rw [← hW5]; exact heap_alloc_new W4 _
  have ho5 : OwnM W5 70 51 fndC FndQ B (.slice (some ⟨W4.heap.size, 0, none⟩) 0 0) [] := OwnM.empty he5 (by omega)
  have HO5 := Lib.hid ho5
  have HB5 : Hid (Below B W4 W5) := Lib.hid (by rw [← hB]; exact hb5)
  have hL0 : (l2.take m).length = m := by rw [List.length_take, HN2.out]; omega
  have HR5 : Hid (RowOf W5 51 fndC FndQ a2 (l2.take m)) := Lib.hid (rowOf_take1 (HI4.out.below hb5) m)
  have HW5 := Lib.hid hW5
  have z5 : B < W5.heap.size := by have := (Array.getElem?_eq_some_iff.1 he5).1; omega
  have HNC : Hid (a2 = none → c2 = 0) := Lib.hid hn2c
  obtain ⟨L0, hL0e⟩ : ∃ L, l2.take m = L := ⟨_, rfl⟩
  rw [hL0e] at HR5 hL0
  have HL0 := Lib.hid hL0
  have HL0E := Lib.hid hL0e
  clear hW5 hb5 he5 ho5 hL0 hL0e hn2c hcut2 hB
  go_upto_region 8 with (at_builtin; rw [HW5.out]; refine wpList_appendM rfl (.tmp 57) (.tmp 60) 25 rfl 70 51 fndC FndQ kinFnd (by decide) (.agg (fndC fnd0)) 104 Try.underlying25 Try.infoFnd3 rfl B _ [] rfl HO5.out a2 c2 L0 (by rw [HL0.out]; rfl) HR5.out HNC.out (by rw [HL0.out]; unfold maxLen; simp; omega) (by rw [HL0.out]; simp; omega) (by omega) ?_; intro v7 w7 hv7 hg7 _; have HV7 := Lib.hid hv7; have HB7 := Lib.hid (HB5.out.trans (HO5.out.grown hg7 (by omega))); clear hv7 hg7)
  have hv7 : OwnM w7 70 51 fndC FndQ B v7 L0 := HV7.out
  obtain ⟨KF, hKF⟩ : ∃ KF : Nat → List Fnd, (fun k => L0 ++ (l3.take k).filter fun f => (f.fr.epoch != epoch || decide (f.fr.seq < next))) = KF := ⟨_, rfl⟩
  have HK0 : Hid (KF 0 = L0) := Lib.hid (by rw [← hKF]; simp)
  have HKN : Hid (KF n3 = L0 ++ l3.filter fun f => (f.fr.epoch != epoch || decide (f.fr.seq < next))) := Lib.hid (by rw [← hKF]; show L0 ++ (l3.take n3).filter _ = _; rw [List.take_of_length_le (by rw [HN3.out]; exact Nat.le_refl _)])
  have HKL : Hid (∀ k, (KF k).length ≤ 80) := Lib.hid (fun k => by
    rw [← hKF]
    have h1 := List.length_filter_le (fun f : Fnd => (f.fr.epoch != epoch || decide (f.fr.seq < next))) (l3.take k)
    rw [List.length_take, HN3.out] at h1
    show (L0 ++ (l3.take k).filter _).length ≤ 80
    rw [List.length_append, HL0.out]
    omega)
  have HKS : Hid (∀ k f, l3[k]? = some f → KF (k + 1) = KF k ++ (if (f.fr.epoch != epoch || decide (f.fr.seq < next)) = true then [f] else [])) := Lib.hid (fun k f hf => by
    rw [← hKF]
    show L0 ++ (l3.take (k + 1)).filter _ = (L0 ++ (l3.take k).filter _) ++ _
    rw [filter_takeB _ hf, List.append_assoc])
  have hv70 : OwnM w7 70 51 fndC FndQ B v7 (KF 0) := by rw [HK0.out]; exact hv7
  have HV70 := Lib.hid hv70
  clear hKF hv7 hv70 hcut1
  go_wp2
  go_loopw [18, 64] (fun x u wr => ∃ (k : Nat) (v : Value), k ≤ n3 ∧ u = .int .i64 k ∧ v = x ∧ OwnM wr 70 51 fndC FndQ B v (KF k) ∧ Below B W4 wr) (fun _ u _ => n3 - (intOf u).toNat)
  case atStart => exact ⟨0, _, Nat.zero_le _, rfl, rfl, HV70.out, HB7.out⟩
  case round =>
    obtain ⟨k, v, hk, rfl, rfl, hown, hBr⟩ := hrel
    have zr := hBr.size
    rw [HB.out] at zr
    have HOW := Lib.hid hown
    have HBR := Lib.hid hBr
    clear hown hBr
    by_cases hlt : k < n3
    · obtain ⟨f, hf⟩ : ∃ f, l3[k]? = some f := ⟨_, List.getElem?_eq_getElem (by rw [HN3.out]; exact hlt)⟩
      have hq := HI3.out.all f (List.mem_of_getElem? hf)
      obtain ⟨ab, ao, rfl, -, -, -⟩ := HI3.out.at hf
      have HGF := Lib.hid (Rl2.rowOf_range (HJ4.out.below (by rw [HB.out]; exact HBR.out)) kinFnd.size hf)
      have hft := HKS.out k f hf
      have HIF1 := Lib.hid (size_fnd hq)
      have HIL1 : Hid ((Try.prog.info? 70).map (·.size) = some (fndC f).toList.length) := Lib.hid (size_fnd hq)
      have HZF1 : Hid ((fndC fnd0).size = (fndC f).size) := Lib.hid (by rw [kinFnd.size f hq]; rfl)
      have HOF1 := Lib.hid (kinFnd.one f hq)
      have HQ := Lib.hid hq
      obtain ⟨W5', hW5⟩ : ∃ W, wr.alloc (.cells (fndC f) 70) = W := ⟨_, rfl⟩
      have hb5 : Below wr.heap.size wr W5' := by rw [← hW5]; exact (Below.refl _ _).alloc (Nat.le_refl _) _
      have hf5 : W5'.heap[wr.heap.size]? = some (.cells (fndC f) 70 (0, 0)) := by rw [← hW5]; exact heap_alloc_new wr _
      have HF5 := Lib.hid hf5
      have HO5' := Lib.hid (HOW.out.below hb5)
      have HB5' := Lib.hid (HBR.out.trans (hb5.mono zr))
      have c5 := (fnd_cells hf5).2.2.2.2.1
      have c6 := (fnd_cells hf5).2.2.2.2.2
      obtain ⟨CF, hCF⟩ : ∃ C, fndC f = C := ⟨_, rfl⟩
      rw [hCF] at hW5 HGF HIF1 HIL1 HZF1 HOF1 HF5
      have HW5' := Lib.hid hW5
      have HCF := Lib.hid hCF
      obtain ⟨sq, hsq⟩ : ∃ s, f.fr.seq = s := ⟨_, rfl⟩
      obtain ⟨ep, hep⟩ : ∃ s, f.fr.epoch = s := ⟨_, rfl⟩
      rw [hsq] at c6 hft
      rw [hep] at c5 hft
      have hcase : ((ep != epoch) = true ∧ KF (k + 1) = KF k ++ [f]) ∨ ((ep != epoch) = false ∧ decide (sq < next) = true ∧ KF (k + 1) = KF k ++ [f]) ∨ ((ep != epoch) = false ∧ decide (sq < next) = false ∧ KF (k + 1) = KF k) := by
        rw [hft]
        cases h : (ep != epoch)
        · cases h2 : decide (sq < next)
          · exact .inr (.inr ⟨rfl, rfl, by simp⟩)
          · exact .inr (.inl ⟨rfl, rfl, by simp⟩)
        · exact .inl ⟨rfl, by simp⟩
      have HCASE := Lib.hid hcase
      obtain ⟨FZ, hFZ⟩ : ∃ Z, fndC fnd0 = Z := ⟨_, rfl⟩
      rw [hFZ] at hzf HZF1
      have zr5 : wr.heap.size < W5'.heap.size := (Array.getElem?_eq_some_iff.1 hf5).1
      clear hf hq hft hb5 hf5 hW5 hCF hsq hep hcase hFZ
      go_upto_region 11 with (first | (refine wpList_load_mid rfl 70 _ rfl ab (ao + k * 51) rfl CF.toList _ HGF.out Try.underlying70 rfl HIL1.out ?_) | (refine wpList_store_row rfl 70 _ _ rfl wr.heap.size CF rfl rfl 70 FZ (heap_alloc_new wr _) HIF1.out HZF1.out HOF1.out ?_; rw [World.setRow_alloc_new]))
      rw [HW5'.out]
      try rw [put_none]
      have HLF := Lib.hid (HKL.out k)
      obtain ⟨W6, hW6⟩ : ∃ W, W5'.alloc (.cells CF 70) = W := ⟨_, rfl⟩
      have hb6 : Below W5'.heap.size W5' W6 := by rw [← hW6]; exact (Below.refl _ _).alloc (Nat.le_refl _) _
      have hf6 : W6.heap[W5'.heap.size]? = some (.cells CF 70 (0, 0)) := by rw [← hW6]; exact heap_alloc_new W5' _
      have HR6 : Hid (RowOf W6 51 fndC FndQ (some ⟨W5'.heap.size, 0, none⟩) [f]) := Lib.hid (one_rowOf (t := 70) (fr := (0, 0)) (by rw [HCF.out]; exact hf6) HQ.out)
      have HO6 := Lib.hid (HO5'.out.below hb6)
      have hs6 : B ≤ W6.heap.size := by have h1 := hb6.size; omega
      have HB6 := Lib.hid (HB5'.out.trans (hb6.mono (by omega)))
      have HW6 := Lib.hid hW6
      clear hW6 hb6 hf6
      rcases HCASE.out with ⟨t1, hst⟩ | ⟨t1, t2, hst⟩ | ⟨t1, t2, hst⟩
      · have HST := Lib.hid hst
        clear hst
        go_upto_region 12 with (fail)
        clear c5 c6
        go_wp2_with (first | (refine wpList_load_row rfl 70 _ rfl wr.heap.size rfl 70 _ _ _ HF5.out Try.underlying70 rfl HIF1.out ?_) | (refine wpList_slice1f rfl (.tmp 81) rfl f HQ.out.2.2.1.1 CF HCF.out rfl ?_; rw [HW6.out]) | (at_builtin; refine wpList_appendM rfl (.tmp 80) (.tmp 82) 25 rfl 70 51 fndC FndQ kinFnd (by decide) (.agg (fndC fnd0)) 104 Try.underlying25 Try.infoFnd3 rfl B _ (KF k) rfl HO6.out (some ⟨W5'.heap.size, 0, none⟩) 1 [f] (by rfl) HR6.out (by simp) (by have := HLF.out; unfold maxLen; simp; omega) (by have := HLF.out; simp; omega) hs6 ?_; intro v11 w11 hv11 hg11 _; have HV11 := Lib.hid hv11; have HB11 := Lib.hid (HB6.out.trans (HO6.out.grown hg11 hs6)); clear hv11 hg11))
        have hv := HV11.out
        rw [← HST.out] at hv
        first | exact ⟨⟨k + 1, _, by omega, by go_num, rfl, hv, HB11.out⟩, by simp [intOf]; omega⟩ | (refine ⟨⟨_, _, _, ⟨k + 1, by omega, ?_, hv, HB11.out⟩, rfl, rfl, rfl⟩, by simp [intOf]; omega⟩; go_num)
      · have HST := Lib.hid hst
        clear hst
        go_upto_region 12 with (fail)
        clear c5 c6
        go_wp2_with (first | (refine wpList_load_row rfl 70 _ rfl wr.heap.size rfl 70 _ _ _ HF5.out Try.underlying70 rfl HIF1.out ?_) | (refine wpList_slice1f rfl (.tmp 81) rfl f HQ.out.2.2.1.1 CF HCF.out rfl ?_; rw [HW6.out]) | (at_builtin; refine wpList_appendM rfl (.tmp 80) (.tmp 82) 25 rfl 70 51 fndC FndQ kinFnd (by decide) (.agg (fndC fnd0)) 104 Try.underlying25 Try.infoFnd3 rfl B _ (KF k) rfl HO6.out (some ⟨W5'.heap.size, 0, none⟩) 1 [f] (by rfl) HR6.out (by simp) (by have := HLF.out; unfold maxLen; simp; omega) (by have := HLF.out; simp; omega) hs6 ?_; intro v11 w11 hv11 hg11 _; have HV11 := Lib.hid hv11; have HB11 := Lib.hid (HB6.out.trans (HO6.out.grown hg11 hs6)); clear hv11 hg11))
        have hv := HV11.out
        rw [← HST.out] at hv
        first | exact ⟨⟨k + 1, _, by omega, by go_num, rfl, hv, HB11.out⟩, by simp [intOf]; omega⟩ | (refine ⟨⟨_, _, _, ⟨k + 1, by omega, ?_, hv, HB11.out⟩, rfl, rfl, rfl⟩, by simp [intOf]; omega⟩; go_num)
      · have HST := Lib.hid hst
        clear hst
        go_wp2
        have hv := HO5'.out
        rw [← HST.out] at hv
        first | exact ⟨⟨k + 1, _, by omega, by go_num, rfl, hv, HB5'.out⟩, by simp [intOf]; omega⟩ | (refine ⟨⟨_, _, _, ⟨k + 1, by omega, ?_, hv, HB5'.out⟩, rfl, rfl, rfl⟩, by simp [intOf]; omega⟩; go_num)
    · have hkn : k = n3 := by omega
      have hown := HOW.out
      rw [hkn, HKN.out] at hown
      obtain ⟨M1, hM1⟩ : ∃ L, L0 ++ l3.filter (fun f => (f.fr.epoch != epoch || decide (f.fr.seq < next))) = L := ⟨_, rfl⟩
      have hm1 : M1.length ≤ 80 := by have := HKL.out n3; rw [HKN.out, hM1] at this; exact this
      rw [hM1] at hown
      have HM1 := Lib.hid hM1
      have HOW1 := Lib.hid hown
      have hbw : Below W4.heap.size W4 wr := by rw [HB.out]; exact HBR.out
      obtain ⟨hlo, hlon⟩ := rowOf_lo (HI4.out.below hbw) (by rw [HN2.out]; exact HC2.out) HNC.out (by rw [HN2.out]; exact hm2)
      have hld : (l2.drop m).length = n2 - m := by rw [List.length_drop, HN2.out]
      obtain ⟨ad, had⟩ : ∃ x, (if c2 = m then a2 else a2.map (·.add (m * 51))) = x := ⟨_, rfl⟩
      obtain ⟨nd, hnd⟩ : ∃ x, n2 - m = x := ⟨_, rfl⟩
      obtain ⟨cd, hcd⟩ : ∃ x, c2 - m = x := ⟨_, rfl⟩
      have hcut2 := HCUT2.out
      rw [had, hnd, hcd] at hcut2
      rw [had] at hlo hlon
      rw [hcd] at hlon
      rw [hnd] at hld
      have hnd40 : nd ≤ 40 := by omega
      have HLO := Lib.hid hlo
      have HLON := Lib.hid hlon
      have HLD := Lib.hid hld
      have HMB : Hid (M1.length ≤ 80) := Lib.hid hm1
      obtain ⟨LD, hLD⟩ : ∃ L, l2.drop m = L := ⟨_, rfl⟩
      rw [hLD] at HLO HLD
      have HLDE := Lib.hid hLD
      clear hown hM1 hm1 hlo hlon hld had hnd hcd hLD hkn
      go_upto_region 15 with (at_builtin; refine wpList_appendM rfl (.tmp 85) (.tmp 88) 25 rfl 70 51 fndC FndQ kinFnd (by decide) (.agg (fndC fnd0)) 104 Try.underlying25 Try.infoFnd3 rfl B _ M1 rfl HOW1.out ad cd LD (by rw [HLD.out]; rfl) HLO.out HLON.out (by have := HMB.out; rw [HLD.out]; unfold maxLen; omega) (by have := HMB.out; rw [HLD.out]; omega) zr ?_; intro v8 w8 hv8 hg8 _; have HV8 := Lib.hid hv8; have HB8 := Lib.hid (HBR.out.trans (HOW1.out.grown hg8 zr)); clear hv8 hg8)
      clear hlt hk hcut2
      have hv8 := HV8.out
      obtain ⟨LL, hLL⟩ : ∃ L, M1 ++ LD = L := ⟨_, rfl⟩
      have hrec : recs g epoch next LL = recs g epoch next l2 := by
        rw [← hLL, ← HM1.out, ← HL0E.out, ← HLDE.out]
        exact recs_beside g epoch next l2 l3 m
      rw [hLL] at hv8
      have hl8 : LL.length ≤ 120 := by rw [← hLL, List.length_append, HLD.out]; have := HMB.out; omega
      obtain ⟨a8, c8, rfl, hr8, -, -, -, -⟩ := hv8.shape kinFnd
      obtain ⟨n8, hn8⟩ : ∃ n, LL.length = n := ⟨_, rfl⟩
      have HN8 := Lib.hid hn8
      have HREC := Lib.hid hrec
      have HR8 := Lib.hid hr8
      have hbw8 : Below W4.heap.size W4 w8 := by rw [HB.out]; exact HB8.out
      have HBMr := Lib.hid (HBM4.out.below hbw8)
      have HSr := Lib.hid ((hbw8.block bs (by rw [HB.out]; exact hsB)).trans HS4.out)
      have HCr := Lib.hid ((hbw8.block (w.heap.size + 1) (by rw [HB.out]; exact hcB)).trans HC4.out)
      have HIr := Lib.hid (HI4.out.below hbw8)
      have zcr := (Array.getElem?_eq_some_iff.1 HCr.out).1
      have zsr : bs < w8.heap.size := by have := hbw8.size; rw [HB.out] at this; omega
      have HBr := Lib.hid (HB4.out.trans (hbw8.mono HB4.out.size))
      have hl5 : n8 ≤ 1000 := by omega
      rw [hn8]
      clear hv8 hLL hrec hr8 hn8 hl8 hbw hbw8
      obtain ⟨RA, hRA⟩ : ∃ R, recs g epoch next (l2) = R := ⟨_, rfl⟩
      obtain ⟨nA, hnA⟩ : ∃ n, runLen RA next = n := ⟨_, rfl⟩
      obtain ⟨stA, hstA⟩ : ∃ s, runSt g (madeEs g l1) next RA = s := ⟨_, rfl⟩
      obtain ⟨zsA, hzsA⟩ : ∃ z, zonesOf RA = z := ⟨_, rfl⟩
      have HRUNA : Hid (∀ W, Below w8.heap.size w8 W → Calls Try.prog 11 #[.agg TV, .agg (SnC 1 epoch next p), .slice (a2) n2 (c2)] W fun e w' => ∃ u, e = .returned u ∧ RunT w8.heap.size g next nA stA zsA u w' ∧ Below W.heap.size W w') := Lib.hid (fun W hW => by
        have h1 := rrun_fact W p le ll _ _ g (madeEs g l1) HGR.out (HBMr.out.below hW) HOK.out 1 epoch next HRT.out (a2) (l2) (c2) (HIr.out.below hW) (by have := HN2.out; omega) hW.size
        rw [HTV.out, HN2.out, hRA, hnA, hstA, hzsA] at h1
        exact h1)
      have HEA := Lib.hid (And.intro hRA (And.intro hnA (And.intro hstA hzsA)))
      clear hRA hnA hstA hzsA
      refine wp_region_conf13 9 [Fact.eq (.agg TV), Fact.eq (.agg (SnC 1 epoch next p)), Fact.eq (.slice a2 n2 c2), Fact.runT w8.heap.size g next nA stA zsA, Fact.runT w8.heap.size g next nA stA zsA, Fact.runA w8.heap.size g next nA stA zsA, Fact.eq (.int .i64 0), Fact.eq undef, Fact.eq undef] 7 8 5 ResZ 35 ?raA (by kernel_rfl) (by kernel_rfl) (by kernel_rfl) (by kernel_rfl) ?rahA ?rahs ?raho ?rahend
      case rahA =>
        intro vv
        simp only [putRules, Nat.reduceAdd]
        rfl
      case rahs =>
        intro j u W gg C hj hg hr hp
        match j, hj with
        | 0, _ => exact hp
        | 1, _ => exact hp
        | 2, _ => exact hp
        | 3, _ => exact RunT.setRow (show RunT w8.heap.size g next nA stA zsA u W from hp) hr C
        | 4, _ => exact RunT.setRow (show RunT w8.heap.size g next nA stA zsA u W from hp) hr C
        | 5, _ => exact RunA.setRow (show RunA w8.heap.size g next nA stA zsA u W from hp) hr C
        | 6, _ => exact hp
        | 7, _ => exact hp
        | 8, _ => exact hp
      case raho =>
        refine ⟨?_, ?_, ?_, ?_, ?_, ?_, ?_, ?_, ?_, trivial⟩
        · intro vv W K hB hd HK
          simp only [conf8Rules] at HK
          clear hd
          go_wp2_with (refine (HNW.out _).mono ?_; rintro e w9 ⟨rfl, hB9⟩)
          refine HK.out _ _ hB9 ?_
          rfl
        · intro vv W K hB hd HK
          simp only [conf8Rules] at HK
          clear hd
          have hT := (hB.block bs zsr).trans HSr.out
          go_wp2_with (refine wpList_load_row rfl 29 _ rfl bs rfl 29 _ _ _ hT Try.underlying29 rfl (snsize _ _ _ _) ?_)
          refine HK.out _ _ (Below.refl _ _) ?_
          rfl
        · intro vv W K hB hd HK
          simp only [conf8Rules] at HK
          clear hd
          go_wp2
          refine HK.out _ _ (Below.refl _ _) ?_
          rfl
        · intro vv W K hB hd HK
          simp only [confRules, conf8Rules, cond7, runFRules] at hd HK
          obtain ⟨h0, h1, h2, _⟩ := hd
          simp only [h0, h1, h2] at HK ⊢
          clear h0 h1 h2
          go_wp2_with (refine (HRUNA.out _ hB).mono ?_; rintro e w9 ⟨u9, rfl, hr9, hB9⟩)
          refine HK.out _ _ hB9 ?_
          exact hr9
        · intro vv W K hB hd HK
          simp only [confRules, conf8Rules, cond7, runFRules] at hd HK
          have r3 := hd
          clear hd
          simp only [] at HK ⊢
          skip
          go_wp2
          refine HK.out _ _ (Below.refl _ _) ?_
          exact r3
        · intro vv W K hB hd HK
          simp only [confRules, conf8Rules, cond7, runFRules] at hd HK
          have r4 := hd
          clear hd
          simp only [] at HK ⊢
          skip
          obtain ⟨pra, lera, llra, cera, clra, avra, cvra, aura, cura, hh, mra⟩ := r4
          simp only [hh] at HK ⊢
          clear hh
          go_wp2
          refine HK.out _ _ (Below.refl _ _) ?_
          exact ⟨pra, lera, llra, cera, clra, avra, cvra, aura, cura, rfl, mra⟩
        · intro vv W K hB hd HK
          simp only [confRules, conf8Rules, cond7, runFRules] at hd HK
          have r4 := hd
          clear hd
          simp only [] at HK ⊢
          skip
          obtain ⟨pra, lera, llra, cera, clra, avra, cvra, aura, cura, hh, mra⟩ := r4
          simp only [hh] at HK ⊢
          clear hh
          go_wp2
          refine HK.out _ _ (Below.refl _ _) ?_
          rfl
        · intro vv W K hB hd HK
          simp only [] at HK
          clear hd
          go_wp2
          refine HK.out _ _ hB.size ((Below.refl _ _).alloc (Nat.le_refl _) _) (heap_alloc_new _ _)
        · intro vv W K g hB hg hr hp hd HK
          simp only [confRules, conf8Rules, cond7, runFRules] at hd HK
          obtain ⟨r5, r3, h0, h1, h2, _, r4, _⟩ := hd
          simp only [hp, h0, h1, h2] at HK ⊢
          clear h0 h1 h2
          obtain ⟨i1, i2, i3, i4⟩ := r5.row
          go_wp2_with (refine wpList_store_row rfl 35 _ _ rfl g (rowT (vv 5)) rfl i4 35 ResZ hr i1 i2 i3 ?_)
          refine HK.out _ _ rfl ?_
          rfl
      case rahend =>
      intro vv W gra hB hf e7 lra rra
      have e5 := hf 5 (by decide) (by decide)
      simp only [conf8Rules, runFRules] at e5
      obtain ⟨pra, lera, llra, cera, clra, avra, cvra, aura, cura, e5, mra⟩ := e5
      have e6 := hf 6 (by decide) (by decide)
      simp only [conf8Rules] at e6
      rw [e5] at rra
      simp only [e5, e6, e7, dropRules]
      clear hf e7 e5 e6
      have HBM6 := Lib.hid (HBMr.out.below hB)
      have HS6 := Lib.hid ((hB.block bs zsr).trans HSr.out)
      have HC6 := Lib.hid ((hB.block (w.heap.size + 1) (by omega)).trans HCr.out)
      have HI6 := Lib.hid (HR8.out.below hB)
      have zc6 : w.heap.size + 1 < W.heap.size := (Array.getElem?_eq_some_iff.1 HC6.out).1
      have HB6' := Lib.hid (HBr.out.trans (hB.mono HBr.out.size))
      have zs6 : bs < W.heap.size := by have := hB.size; omega
      have HM6 := Lib.hid mra
      have HG6 := Lib.hid rra
      obtain ⟨w6, hw6⟩ : ∃ w6, W = w6 := ⟨_, rfl⟩
      rw [hw6] at HBM6 HS6 HC6 HI6 HB6' HM6 HG6 zs6 zc6 ⊢
      clear hw6 hB mra rra
      have HRUNB : Hid (∀ W, Below w6.heap.size w6 W → Calls Try.prog 11 #[.agg TV, .agg (SnC 1 epoch next p), .slice a8 n8 c8] W fun e w' => ∃ u, e = .returned u ∧ RunT w6.heap.size g next nA stA zsA u w' ∧ Below W.heap.size W w') := Lib.hid (fun W hW => by
        have h1 := rrun_fact W p le ll _ _ g (madeEs g l1) HGR.out (HBM6.out.below hW) HOK.out 1 epoch next HRT.out a8 LL c8 (HI6.out.below hW) (by have := HN8.out; omega) hW.size
        rw [HTV.out, HN8.out, HREC.out, HEA.out.1, HEA.out.2.1, HEA.out.2.2.1, HEA.out.2.2.2] at h1
        exact h1)
      go_upto_region 16 with (fail)
      refine wp_region_conf13 9 [Fact.eq (.agg TV), Fact.eq (.agg (SnC 1 epoch next p)), Fact.eq (.slice a8 n8 c8), Fact.runT w6.heap.size g next nA stA zsA, Fact.runT w6.heap.size g next nA stA zsA, Fact.runA w6.heap.size g next nA stA zsA, Fact.eq (.int .i64 0), Fact.eq undef, Fact.eq undef] 7 8 5 ResZ 35 ?rbA (by kernel_rfl) (by kernel_rfl) (by kernel_rfl) (by kernel_rfl) ?rbhA ?rbhs ?rbho ?rbhend
      case rbhA =>
        intro vv
        simp only [putRules, Nat.reduceAdd]
        rfl
      case rbhs =>
        intro j u W gg C hj hg hr hp
        match j, hj with
        | 0, _ => exact hp
        | 1, _ => exact hp
        | 2, _ => exact hp
        | 3, _ => exact RunT.setRow (show RunT w6.heap.size g next nA stA zsA u W from hp) hr C
        | 4, _ => exact RunT.setRow (show RunT w6.heap.size g next nA stA zsA u W from hp) hr C
        | 5, _ => exact RunA.setRow (show RunA w6.heap.size g next nA stA zsA u W from hp) hr C
        | 6, _ => exact hp
        | 7, _ => exact hp
        | 8, _ => exact hp
      case rbho =>
        refine ⟨?_, ?_, ?_, ?_, ?_, ?_, ?_, ?_, ?_, trivial⟩
        · intro vv W K hB hd HK
          simp only [conf8Rules] at HK
          clear hd
          go_wp2_with (refine (HNW.out _).mono ?_; rintro e w9 ⟨rfl, hB9⟩)
          refine HK.out _ _ hB9 ?_
          rfl
        · intro vv W K hB hd HK
          simp only [conf8Rules] at HK
          clear hd
          have hT := (hB.block bs zs6).trans HS6.out
          go_wp2_with (refine wpList_load_row rfl 29 _ rfl bs rfl 29 _ _ _ hT Try.underlying29 rfl (snsize _ _ _ _) ?_)
          refine HK.out _ _ (Below.refl _ _) ?_
          rfl
        · intro vv W K hB hd HK
          simp only [conf8Rules] at HK
          clear hd
          go_wp2
          refine HK.out _ _ (Below.refl _ _) ?_
          rfl
        · intro vv W K hB hd HK
          simp only [confRules, conf8Rules, cond7, runFRules] at hd HK
          obtain ⟨h0, h1, h2, _⟩ := hd
          simp only [h0, h1, h2] at HK ⊢
          clear h0 h1 h2
          go_wp2_with (refine (HRUNB.out _ hB).mono ?_; rintro e w9 ⟨u9, rfl, hr9, hB9⟩)
          refine HK.out _ _ hB9 ?_
          exact hr9
        · intro vv W K hB hd HK
          simp only [confRules, conf8Rules, cond7, runFRules] at hd HK
          have r3 := hd
          clear hd
          simp only [] at HK ⊢
          skip
          go_wp2
          refine HK.out _ _ (Below.refl _ _) ?_
          exact r3
        · intro vv W K hB hd HK
          simp only [confRules, conf8Rules, cond7, runFRules] at hd HK
          have r4 := hd
          clear hd
          simp only [] at HK ⊢
          skip
          obtain ⟨prb, lerb, llrb, cerb, clrb, avrb, cvrb, aurb, curb, hh, mrb⟩ := r4
          simp only [hh] at HK ⊢
          clear hh
          go_wp2
          refine HK.out _ _ (Below.refl _ _) ?_
          exact ⟨prb, lerb, llrb, cerb, clrb, avrb, cvrb, aurb, curb, rfl, mrb⟩
        · intro vv W K hB hd HK
          simp only [confRules, conf8Rules, cond7, runFRules] at hd HK
          have r4 := hd
          clear hd
          simp only [] at HK ⊢
          skip
          obtain ⟨prb, lerb, llrb, cerb, clrb, avrb, cvrb, aurb, curb, hh, mrb⟩ := r4
          simp only [hh] at HK ⊢
          clear hh
          go_wp2
          refine HK.out _ _ (Below.refl _ _) ?_
          rfl
        · intro vv W K hB hd HK
          simp only [] at HK
          clear hd
          go_wp2
          refine HK.out _ _ hB.size ((Below.refl _ _).alloc (Nat.le_refl _) _) (heap_alloc_new _ _)
        · intro vv W K g hB hg hr hp hd HK
          simp only [confRules, conf8Rules, cond7, runFRules] at hd HK
          obtain ⟨r5, r3, h0, h1, h2, _, r4, _⟩ := hd
          simp only [hp, h0, h1, h2] at HK ⊢
          clear h0 h1 h2
          obtain ⟨i1, i2, i3, i4⟩ := r5.row
          go_wp2_with (refine wpList_store_row rfl 35 _ _ rfl g (rowT (vv 5)) rfl i4 35 ResZ hr i1 i2 i3 ?_)
          refine HK.out _ _ rfl ?_
          rfl
      case rbhend =>
      intro vv W grb hB hf e7 lrb rrb
      have e5 := hf 5 (by decide) (by decide)
      simp only [conf8Rules, runFRules] at e5
      obtain ⟨prb, lerb, llrb, cerb, clrb, avrb, cvrb, aurb, curb, e5, mrb⟩ := e5
      have e6 := hf 6 (by decide) (by decide)
      simp only [conf8Rules] at e6
      rw [e5] at rrb
      simp only [e5, e6, e7, dropRules]
      clear hf e7 e5 e6
      have HC7 := Lib.hid ((hB.block (w.heap.size + 1) (by omega)).trans HC6.out)
      have zc7 : w.heap.size + 1 < W.heap.size := (Array.getElem?_eq_some_iff.1 HC7.out).1
      have HB7' := Lib.hid (HB6'.out.trans (hB.mono HB6'.out.size))
      have HM7 := Lib.hid (HM6.out.below hB)
      have HMB7 := Lib.hid mrb
      have hg7 := (hB.block gra (Array.getElem?_eq_some_iff.1 HG6.out).1).trans HG6.out
      obtain ⟨ns, hns⟩ : ∃ n, (Rl.singles stA.single 0).length = n := ⟨_, rfl⟩
      obtain ⟨nzs, hnzs⟩ : ∃ n, zsA.length = n := ⟨_, rfl⟩
      obtain ⟨apA, hap⟩ : ∃ n, stA.applied = n := ⟨_, rfl⟩
      obtain ⟨nxA, hnx⟩ : ∃ n, next + (nA : Int) = n := ⟨_, rfl⟩
      obtain ⟨x0, x1, x2, x3, x4⟩ := resR_cells hg7
      obtain ⟨y0, y1, y2, y3, y4⟩ := resR_cells rrb
      rw [hnx] at x1 y1
      rw [hap] at x2 y2
      rw [hns] at x3 y3
      rw [hnzs] at x4 y4
      have HG7 := Lib.hid rrb
      have HAL := Lib.hid (ball_any W pra _ _ _ HM7.out.bm.cells.1)
      have z6 := hB.size
      have hesn : stA.es.length ≤ 256 := by have h1 := HM7.out.ok.len; have h2 := ((Geo.right_iff g).1 HGR.out).1.2.2.2.1.2; omega
      have t3 : (nxA != nxA) = false := by simp
      have t4 : (apA != apA) = false := by simp
      have t5 : ((ns : Int) != (ns : Int)) = false := by simp
      have t6 : ((nzs : Int) != (nzs : Int)) = false := by simp
      clear rrb mrb hB hg7 hns hnzs hap hnx
      go_upto_region 19 with (fail)
      clear x1 x2 x3 x4 y0 y1 y2 y3 y4 t3 t4 t5 t6
      go_wp2_with fail
      refine HAL.out.mono ?_
      rintro e7 w7' ⟨rfl, rfl⟩
      obtain ⟨ES, hES⟩ : ∃ e, stA.es = e := ⟨_, rfl⟩
      have hm7 := HM7.out.bm
      have hmb7 := HMB7.out.bm
      have hok7 := HM7.out.ok
      rw [hES] at hm7 hmb7 hok7 hesn ⊢
      have HOK7 := Lib.hid hok7
      obtain ⟨W1, hW1⟩ : ∃ W1, W.alloc (.cells #[.slice (some ⟨lera, 0, none⟩) ES.length cera] 115) = W1 := ⟨_, rfl⟩
      have hb1 : Below W.heap.size W W1 := by rw [← hW1]; exact (Below.refl _ _).alloc (Nat.le_refl _) _
      have hsl : W1.heap[W.heap.size]? = some (.cells #[.slice (some ⟨lera, 0, none⟩) ES.length cera] 115 (0, 0)) := by rw [← hW1]; exact heap_alloc_new W _
      have hm1 : BmIs W1 pra lera llra cera clra g ES (liveL (nz g) ES) := hm7.below hb1
      have hlt := hm1.lt
      have HSTP := Lib.hid (eall1_stops 7 (by omega) W.heap.size lera (some ⟨lera, 0, none⟩) cera ES W1 (cell_of_one hsl) hm1.rows (fun x e => by cases e; rfl) hlt.2.1 (by omega))
      have z1 : W.heap.size < W1.heap.size := (Array.getElem?_eq_some_iff.1 hsl).1
      have HBM8 := Lib.hid (hmb7.below hb1)
      have HG8 := Lib.hid ((hb1.block grb (Array.getElem?_eq_some_iff.1 HG7.out).1).trans HG7.out)
      have HC8 := Lib.hid ((hb1.block (w.heap.size + 1) (by omega)).trans HC7.out)
      have HB8' := Lib.hid (HB7'.out.trans (hb1.mono HB7'.out.size))
      have HIE := Lib.hid (fun e => esize e)
      have HON := Lib.hid (fun e => BEC_one e)
      have hz := (zero_of_info Try.infoEnt).1
      have HSZ : Hid (∀ e : BE, (BEC BE.zero).size = (BEC e).size) := Lib.hid (fun e => by rw [BEC_size, BEC_size])
      have hc1z : w.heap.size + 1 < W1.heap.size := (Array.getElem?_eq_some_iff.1 HC8.out).1
      rw [hW1]
      clear x0 hW1 hb1 hsl hm1 hlt hm7 hmb7 hok7 hES
      go_wp2
      refine (wpIn_wide (n := 8)).1 (wpIn_rangeT2 (encs := ieV) rfl (by omega) (gf := 57) (lb := #[.pointer (some ⟨W.heap.size, 0, none⟩)]) rfl trivial (enters_of Try.func57 (by kernel_rfl) rfl)
        HSTP.out (Below.refl _ _) (fun _ => rfl)
        [] (by simp) (by simp)
        (fun pre W => Only [] W1 W)
        (fun _ _ _ => False)
        (AbT.only (Nat.le_refl _) (by simp))
        (fun _ => AbT.pure _ _ _) (Only.refl _ _)
        ?fr (fun x Be W' => W'.heap[Be]? = some (.cells (BEC x.1) 54 (0, 0))) (fun x Be => AbT.row (fun _ => BEC x.1) (by simp)) ?assign ?body ?done ?stop)
      case assign =>
        intro rr pre x W2 K _ hI hK
        have HK2 := Lib.hid hK
        clear hK
        unfold ieV
        gi_wp2_with (refine wpListIn_store_row (by rfl) 54 _ _ rfl W2.heap.size (BEC x.1) rfl rfl 54 (BEC BE.zero) (heap_alloc_new W2 _) (HIE.out _) (HSZ.out _) (HON.out _) ?_; rw [World.setRow_alloc_new])
        obtain ⟨Be, hBe⟩ : ∃ Be, W2.heap.size = Be := ⟨_, rfl⟩
        have hn := heap_alloc_new W2 (.cells (BEC x.1) 54)
        rw [hBe] at hn ⊢
        exact HK2.out Be _ ((Only.refl _ _).alloc _) hn
      case body =>
        rintro rr pre x Be W2 _ hrr hO2 hE hlen hsp
        obtain ⟨e1, e2, e3, e4⟩ := zip_next hsp
        have hmem := List.mem_of_getElem? e2
        have h64 := (HOK7.out.ok _ hmem).2
        obtain ⟨e, i⟩ := x
        simp only at e1 e2 h64 hE
        subst e1
        have HNB : Hid (∀ W, (Op.equalIn 10000 54 (.agg (BEC e)) (.agg (BEC e))).run Try.prog W = .ok true W) := Lib.hid (fun W => by have := eq_be e e h64 h64 W; rwa [decide_eq_true rfl] at this)
        have zO := hO2.size
        have zB : Be < W2.heap.size := (Array.getElem?_eq_some_iff.1 hE).1
        have HE2 := Lib.hid hE
        have HO2 := Lib.hid hO2
        have ks : W2.cell? ⟨grb, 0, none⟩ = some (.pointer (some ⟨prb, 0, none⟩)) := (resR_cells (hO2.get HG8.out (by simp))).1
        have HGET := Lib.hid (callsIn_roundB (rr := rr) (n := 6 - 1) (bget_in W2 prb lerb llrb _ _ g ES _ (HBM8.out.only hO2 (by simp) (by simp) (by simp)) pre.length e e2 (by omega)))
        have hpl : pre.length < ES.length := by assumption
        clear hE hO2 e2 h64 hsp hlen hmem e4
        gi_wp2_with fail
        refine ⟨trivial, ?_⟩
        refine HGET.out.mono ?_
        rintro y w4 ⟨rfl, hB4⟩
        have z4 := hB4.size
        obtain ⟨W5, hW5⟩ : ∃ W5, w4.alloc (.cells (BEC e) 54) = W5 := ⟨_, rfl⟩
        have hB5 : Below W2.heap.size W2 W5 := by rw [← hW5]; exact hB4.alloc z4 _
        have H5 : Hid (W5.heap[w4.heap.size]? = some (.cells (BEC e) 54 (0, 0))) := Lib.hid (by rw [← hW5]; exact heap_alloc_new w4 _)
        have HE5 := Lib.hid ((hB5.block Be zB).trans HE2.out)
        have HO5 : Hid (Only [] W2 W5) := Lib.hid (Only.of_below hB5)
        have HW5 := Lib.hid hW5
        clear hB4 hB5 hW5 HGET ks
        gi_wp2_with (first | (refine wpListIn_store_row (by rfl) 54 _ _ rfl w4.heap.size (BEC e) rfl rfl 54 (BEC BE.zero) (heap_alloc_new w4 _) (HIE.out _) (HSZ.out _) (HON.out _) ?_; rw [World.setRow_alloc_new, HW5.out]) | (refine wpListIn_row_on (by rfl) 54 _ rfl w4.heap.size rfl 54 _ _ _ H5.out Try.underlying54 rfl (HIE.out _) ?_) | (refine wpListIn_row_on (by rfl) 54 _ rfl Be rfl 54 _ _ _ HE5.out Try.underlying54 rfl (HIE.out _) ?_) | (refine wpListIn_neq_on (by rfl) 54 54 _ _ rfl (BEC e) (BEC e) rfl rfl (by kernel_rfl) true HNB.out ?_))
        exact ⟨HO5.out, HO2.out.trans HO5.out⟩
      case done =>
        rintro D xs W2 hD rfl hO2 hK
        have zO := hO2.size
        have zD : D < W2.heap.size := (Array.getElem?_eq_some_iff.1 hK).1
        have HKD := Lib.hid hK
        have HC9 := Lib.hid (hO2.get HC8.out (by simp))
        have HB9 := Lib.hid (HB8'.out.trans (hO2.below (B := w.heap.size) (by simp) HB8'.out.size))
        clear hK
        have hcr := cell_of_one HC9.out
        have hfr := free_of_one HC9.out
        go_wp2
        refine leave_marks (v := .bool true) [D] _ (by simp) (by intro E hE; rw [List.mem_singleton.1 hE]; exact ((Only.refl [w.heap.size + 1] _).setCell (.inl (by simp)) _).get HKD.out (by simp; omega)) ?_
        intro W' hO'
        have hr' := hO'.get (one_setCell HC9.out) (by simp; omega)
        have hc' := cell_of_one hr'
        refine ⟨by simp [results, Try.results5, go_sem, hc'], rfl, ?_⟩
        have h2 : Only [w.heap.size + 1] W2 (W2.setCell ⟨w.heap.size + 1, 0, none⟩ (.bool true)) := (Only.refl _ _).setCell (.inl (by simp)) _
        have h3 : Below w.heap.size w (W2.setCell ⟨w.heap.size + 1, 0, none⟩ (.bool true)) := HB9.out.trans (h2.below (by simp) HB9.out.size)
        exact h3.trans (hO'.below (by simp; omega) h3.size)
      case stop =>
        rintro D c pre W _ _ h _
        exact h.elim
end Go.Proofs.Ytoiephmngdecaaa
