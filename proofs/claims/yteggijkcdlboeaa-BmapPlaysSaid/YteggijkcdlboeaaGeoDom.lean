/- Proved here: contracts of the geometry's Domain and Holds; the iterator of In, by the law on turns. -/
import Derived.Test.YteggijkcdlboeaaGeoIn
import Derived.Test.YteggijkcdlboeaaTurn
import Derived.Test.YteggijkcdlboeaaAsk
namespace Go.Proofs.Yteggijkcdlboeaa
open Go.RowKit Go.Rv Go.Shelf
set_option linter.unusedVariables false
attribute [local go_sem] Oper.semAt_some
/-- a zone's domain -/
def domOf (g : Geo.G) (zone : Int) : Int := if 0 ≤ zone ∧ zone < g.d * g.z then zone / g.z else -1
theorem gsize {g : Geo.G} : (Try.prog.info? 23).map (·.size) = some (GC g).size := by rw [GC_size]; exact Try.infoGeom
set_option maxRecDepth 100000 in
set_option maxHeartbeats 1000000 in
theorem gdomain_any (g : Geo.G) (zone : Int) (w : World) (h : Geo.Small g) :
    Calls Try.prog 23 #[.agg (GC g), .int .i64 zone] w fun e w' => e = .returned (.int .i64 (domOf g zone)) ∧ Below w.heap.size w w' := by
  have HA := Lib.hid (fun W => gall_any g W h)
  have hg := heap_alloc_new w (.cells (GC g) 23)
  have hB : Below w.heap.size w (w.alloc (.cells (GC g) 23)) := (Below.refl _ _).alloc (Nat.le_refl _) _
  have hcs := fun (W : World) (hh : W.heap[w.heap.size]? = some (.cells (GC g) 23 (0, 0))) => geo_cells hh
  have HCS := Lib.hid hcs
  have HS := Lib.hid (gsize (g := g))
  have hzl := h.2.1.1
  clear hcs
  by_cases h1 : zone < 0
  · have t1 : decide (zone < 0) = true := decide_eq_true h1
    have HR : Hid (domOf g zone = -1) := Lib.hid (if_neg (by omega))
    rw [HR.out]
    generalize GC g = C at *
    clear hg h HR
    go_enter Try.func23, Try.ntmps23
    go_wp2
    go_ret
    exact ⟨rfl, hB⟩
  · have t1 : decide (zone < 0) = false := decide_eq_false h1
    by_cases h2 : zone < g.d * g.z
    · have t2 : decide (g.d * g.z ≤ zone) = false := decide_eq_false (by omega)
      have HR : Hid (domOf g zone = zone / g.z) := Lib.hid (if_pos ⟨by omega, h2⟩)
      rw [HR.out]
      have hz0 : 0 ≤ zone := by omega
      have hz1 : zone ≤ 512 := by have := (Geo.dz_bd h).2; omega
      have hz2 := h.2.1.2
      generalize GC g = C at *
      clear h h1 HR h2
      go_enter Try.func23, Try.ntmps23
      go_wp2_with (refine wpList_row_on (by rfl) 23 _ rfl w.heap.size rfl 23 _ _ _ hg Try.underlying23 rfl HS.out ?_)
      refine (HA.out _).mono ?_
      rintro e w1 ⟨rfl, hB1⟩
      have hg1 := (hB1.block w.heap.size (by simp)).trans hg
      have hB2 := hB.trans (hB1.mono hB.size)
      obtain ⟨c0, c1, c2, c3, c4, c5⟩ := HCS.out _ hg1
      clear hg hg1 hB hB1
      go_wp2
      go_ret
      exact ⟨rfl, hB2⟩
    · have t2 : decide (g.d * g.z ≤ zone) = true := decide_eq_true (by omega)
      have HR : Hid (domOf g zone = -1) := Lib.hid (if_neg (by omega))
      rw [HR.out]
      generalize GC g = C at *
      clear h h1 HR h2
      go_enter Try.func23, Try.ntmps23
      go_wp2_with (refine wpList_row_on (by rfl) 23 _ rfl w.heap.size rfl 23 _ _ _ hg Try.underlying23 rfl HS.out ?_)
      refine (HA.out _).mono ?_
      rintro e w1 ⟨rfl, hB1⟩
      have hB2 := hB.trans (hB1.mono hB.size)
      clear hg hB hB1
      go_wp2
      go_ret
      exact ⟨rfl, hB2⟩
/-- is there a sector? -/
def holdsG (g : Geo.G) (zone off : Int) : Bool := Geo.right g && (Geo.inB zone 0 (g.d * g.z - 1) && Geo.inB off 0 (g.s - 1))
set_option maxRecDepth 100000 in
set_option maxHeartbeats 1000000 in
theorem gholds_core (C : Array Value) (d z s zone off : Int) (r b1 b2 : Bool) (w : World) (hC : ∀ (W : World) (b : Nat), W.heap[b]? = some (.cells C 23 (0, 0)) → W.cell? ⟨b, 2, none⟩ = some (.int .i64 s)) (hI : (Try.prog.info? 23).map (·.size) = some C.size)
    (HR : ∀ W, Calls Try.prog 11 #[.agg C] W fun e w' => e = .returned (.bool r) ∧ Below W.heap.size W w')
    (HA : r = true → (∀ W, Calls Try.prog 13 #[.agg C] W fun e w' => e = .returned (.int .i64 (d * z)) ∧ Below W.heap.size W w') ∧ (1 ≤ d * z ∧ d * z ≤ 512) ∧ 1 ≤ s ∧ s ≤ 64)
    (h1 : ∀ W, Calls Try.prog 37 #[.int .i64 zone, .int .i64 0, .int .i64 (d * z - 1)] W fun e w' => e = .returned (.bool b1) ∧ W = w') (h2 : ∀ W, Calls Try.prog 37 #[.int .i64 off, .int .i64 0, .int .i64 (s - 1)] W fun e w' => e = .returned (.bool b2) ∧ W = w') :
    Calls Try.prog 21 #[.agg C, .int .i64 zone, .int .i64 off] w fun e w' => e = .returned (.bool (r && (b1 && b2))) ∧ Below w.heap.size w w' := by
  have HR := Lib.hid HR
  have HA := Lib.hid HA
  have H1 := Lib.hid h1
  have H2 := Lib.hid h2
  have HC := Lib.hid hC
  have HS := Lib.hid hI
  have hg := heap_alloc_new w (.cells C 23)
  have hB : Below w.heap.size w (w.alloc (.cells C 23)) := (Below.refl _ _).alloc (Nat.le_refl _) _
  clear h1 h2 hC hI
  go_enter Try.func21, Try.ntmps21
  go_wp2_with (refine wpList_row_on (by rfl) 23 _ rfl w.heap.size rfl 23 _ _ _ hg Try.underlying23 rfl HS.out ?_)
  refine (HR.out _).mono ?_
  rintro e w1 ⟨rfl, hB1⟩
  have hg1 := (hB1.block w.heap.size (by simp)).trans hg
  have hB2 := hB.trans (hB1.mono hB.size)
  have z1 := hB1.size
  rw [World.size_alloc] at z1
  clear hg hB hB1
  cases r
  · go_wp2
    go_ret
    exact ⟨rfl, hB2⟩
  · obtain ⟨ha, ⟨hd1, hd2⟩, hs1, hs2⟩ := HA.out rfl
    have HAA := Lib.hid ha
    clear ha HA
    go_wp2_with (refine wpList_row_on (by rfl) 23 _ rfl w.heap.size rfl 23 _ _ _ hg1 Try.underlying23 rfl HS.out ?_)
    refine (HAA.out _).mono ?_
    rintro e w2 ⟨rfl, hB3⟩
    have hg2 := (hB3.block w.heap.size (by omega)).trans hg1
    have hB4 := hB2.trans (hB3.mono hB2.size)
    have c2 := HC.out _ _ hg2
    clear hg1 hB2 hB3 hg2 z1
    generalize d * z = dz at *
    go_wp2_with fail
    refine (H1.out _).mono ?_
    rintro e w3 ⟨rfl, rfl⟩
    cases b1
    · go_wp2
      go_ret
      exact ⟨rfl, hB4⟩
    · go_wp2_with fail
      refine (H2.out _).mono ?_
      rintro e w3 ⟨rfl, rfl⟩
      go_wp2
      go_ret
      exact ⟨rfl, hB4⟩
theorem gholds_any (g : Geo.G) (zone off : Int) (w : World) :
    Calls Try.prog 21 #[.agg (GC g), .int .i64 zone, .int .i64 off] w fun e w' => e = .returned (.bool (holdsG g zone off)) ∧ Below w.heap.size w w' := by
  refine gholds_core (GC g) g.d g.z g.s zone off (Geo.right g) _ _ w (fun W b h => (geo_cells h).2.2.1) gsize (fun W => gright_any g W) (fun h => ?_) (fun W => gwithin_any zone 0 (g.d * g.z - 1) W) (fun W => gwithin_any off 0 (g.s - 1) W)
  have hs := ((Geo.right_iff g).1 h).1
  refine ⟨fun W => gall_any g W hs, ⟨by have := (Geo.dz_bd hs).1; omega, (Geo.dz_bd hs).2⟩, ?_, hs.2.2.1.2⟩
  have := hs.2.2.1.1
  omega
theorem zonesTo_next {z dom : Int} {m : Nat} {pre : List Int} {x : Int} (h : pre ++ [x] <+: zonesTo z dom m) : x = dom * z + (pre.length : Int) ∧ pre.length < m := by
  obtain ⟨t, ht⟩ := h
  have hlen := congrArg List.length ht
  rw [zonesTo_length] at hlen
  simp at hlen
  have h1 : (zonesTo z dom m)[pre.length]? = some x := by rw [← ht]; simp
  have h2 : pre.length < m := by omega
  simp only [zonesTo, List.getElem?_map] at h1
  rw [List.getElem?_range h2] at h1
  simp only [Option.map_some, Option.some.injEq] at h1
  exact ⟨h1.symm, h2⟩
set_option maxRecDepth 100000 in
set_option maxHeartbeats 2000000 in
theorem gin1_T (n : Nat) (hn : 1 ≤ n) (Bd Bg : Nat) (g : Geo.G) (hs : Geo.Small g) (dom : Int) (w : World) (hd : w.heap[Bd]? = some (.cells #[.int .i64 dom] 3 (0, 0))) (hg : w.heap[Bg]? = some (.cells (GC g) 23 (0, 0))) :
    SeqT Fence.wide n Try.prog 38 #[.pointer (some ⟨Bd, 0, none⟩), .pointer (some ⟨Bg, 0, none⟩)] (fun x : Int => #[.int .i64 x]) [Bd, Bg] [] (fun ys => ys = zonesOf g dom) (fun pre => pre <+: zonesOf g dom) g.z.toNat w := by
  intro r T J Jx W hW hr0 hrW hT hJ hJx hY h0
  have HW := Lib.hid (fun (W : World) => (callsIn_wide (n := n - 1)).2 (gwithin_any dom 0 (g.d - 1) W))
  have hltd : Bd < w.heap.size := (Array.getElem?_eq_some_iff.1 hd).1
  have hltg : Bg < w.heap.size := (Array.getElem?_eq_some_iff.1 hg).1
  have hdW := (hW.block Bd hltd).trans hd
  have hgW := (hW.block Bg hltg).trans hg
  have hdT : Bd ∉ r :: T := fun hm => by
    rcases List.mem_cons.1 hm with e | hm
    · omega
    · exact (hT _ hm).2 (by simp)
  have hgT : Bg ∉ r :: T := fun hm => by
    rcases List.mem_cons.1 hm with e | hm
    · omega
    · exact (hT _ hm).2 (by simp)
  have HDT := Lib.hid hdT
  have HGT := Lib.hid hgT
  have hd' := cell_of_one hdW
  obtain ⟨hg0, hg1, -⟩ := geo_cells hgW
  obtain ⟨⟨h1, h1'⟩, ⟨h2, h2'⟩, -⟩ := hs
  have HDW := Lib.hid hdW
  have HGW := Lib.hid hgW
  clear hd hg hW hdW hgW hdT hgT
  by_cases hdom : 0 ≤ dom ∧ dom ≤ g.d - 1
  · have HZ : Hid (zonesOf g dom = zonesTo g.z dom g.z.toNat) := Lib.hid (if_pos hdom)
    have hb : Geo.inB dom 0 (g.d - 1) = true := Geo.inB_iff.2 hdom
    rw [hb] at HW
    obtain ⟨hd1, hd2⟩ := hdom
    have hm1 : 0 ≤ dom * g.z := Int.mul_nonneg hd1 (by omega)
    have hm2 : dom * g.z ≤ 7 * 64 := Int.le_trans (Int.mul_le_mul_of_nonneg_right (show dom ≤ 7 by omega) (by omega)) (Int.mul_le_mul_of_nonneg_left h2' (by omega))
    clear hb
    refine callsIn_of_wp Try.func38 rfl trivial ?_ rfl
    simp only [Try.ntmps38, List.size_toArray, List.length_cons, List.length_nil, Nat.reduceAdd, Nat.reduceSub, Array.replicate_succ, Array.replicate_zero, List.push_toArray, List.append_toArray, List.nil_append, List.cons_append]
    gi_wp2_with (refine ⟨trivial, ?_⟩; gi_at_call 37; refine (HW.out _).mono ?_; rintro e w' ⟨rfl, rfl⟩)
    gi_loopw [13] (fun i wr => ∃ k : Nat, (k : Int) ≤ g.z ∧ i = .int .i64 k ∧ J (zonesTo g.z dom k) wr ∧ wr.heap[Bd]? = some (.cells #[.int .i64 dom] 3 (0, 0)) ∧ wr.heap[Bg]? = some (.cells (GC g) 23 (0, 0))) (fun i _ => (g.z - intOf i).toNat)
    case atStart => exact ⟨0, by omega, rfl, h0, HDW.out, HGW.out⟩
    case round =>
      obtain ⟨k, hk, rfl, hJk, hdk, hgk⟩ := hrel
      by_cases hlt : (k : Int) < g.z
      · have HS : Hid (zonesTo g.z dom (k + 1) = zonesTo g.z dom k ++ [dom * g.z + (k : Int)]) := Lib.hid (zonesTo_succ _ _ _)
        obtain ⟨fn, tmps, assign, body, hy, hR⟩ := hY (zonesTo g.z dom k) (dom * g.z + (k : Int)) wr hJk (by rw [zonesTo_length]; omega) (by rw [HZ.out, ← HS.out]; exact zonesTo_prefix _ _ (by omega))
        have hdk' := cell_of_one hdk
        obtain ⟨-, hgk', -⟩ := geo_cells hgk
        have HDK := Lib.hid hdk
        have HGK := Lib.hid hgk
        clear hdk hgk
        gi_wp2
        refine hR.mono ?_
        rintro e W3 ⟨hO3, (⟨rfl, hJ3⟩ | ⟨rfl, hJx3⟩)⟩
        · have HD3 := Lib.hid (hO3.get HDK.out HDT.out)
          have HG3 := Lib.hid (hO3.get HGK.out HGT.out)
          gi_wp2
          go_roundw
          case rel => exact ⟨k + 1, by omega, by go_num, by rw [HS.out]; exact hJ3, HD3.out, HG3.out⟩
          case measure => simp [intOf]; omega
        · gi_wp2
          refine bodyPost_ret (results_none rfl _ _ _) rfl ?_
          exact ⟨⟨_, rfl⟩, .inr ⟨_, by rw [HZ.out, ← HS.out]; exact zonesTo_prefix _ _ (by omega), hJx3⟩⟩
      · gi_wp2
        go_end0
        exact ⟨⟨_, rfl⟩, .inl (by rw [HZ.out, show g.z.toNat = k by omega]; exact hJk)⟩
  · have HZ : Hid (zonesOf g dom = []) := Lib.hid (if_neg hdom)
    have hb : Geo.inB dom 0 (g.d - 1) = false := by rw [← Bool.not_eq_true]; exact fun h => hdom (Geo.inB_iff.1 h)
    rw [hb] at HW
    clear hb
    refine callsIn_of_wp Try.func38 rfl trivial ?_ rfl
    simp only [Try.ntmps38, List.size_toArray, List.length_cons, List.length_nil, Nat.reduceAdd, Nat.reduceSub, Array.replicate_succ, Array.replicate_zero, List.push_toArray, List.append_toArray, List.nil_append, List.cons_append]
    gi_wp2_with (refine ⟨trivial, ?_⟩; gi_at_call 37; refine (HW.out _).mono ?_; rintro e w' ⟨rfl, rfl⟩)
    refine bodyPost_ret (results_none rfl _ _ _) rfl ?_
    exact ⟨⟨_, rfl⟩, .inl ⟨[], by rw [HZ.out], h0⟩⟩
end Go.Proofs.Yteggijkcdlboeaa
