/- Proved here: the walk of the law on the zones of domains. -/
import Derived.Test.YteggijkcdlboeaaGeoDom
import Derived.Test.YteggijkcdlboeaaGeoAnchor
import Derived.Test.YteggijkcdlboeaaGeoRefRight
import Derived.Test.YteggijkcdlboeaaConfIn
import Derived.Deep.LoopGhost
import Derived.Deep.Cut
import Derived.Deep.CutBlock
namespace Go.Proofs.Yteggijkcdlboeaa
open Go.RowKit Go.Rv Go.Shelf
set_option linter.unusedVariables false
attribute [local go_sem] Oper.semAt_some
theorem domOf_in {g : Geo.G} (hs : Geo.Small g) {k j : Int} (hk0 : 0 ≤ k) (hk : k < g.d) (hj0 : 0 ≤ j) (hj : j < g.z) : domOf g (k * g.z + j) = k := by
  have hz := hs.2.1.1
  have h0 : 0 ≤ k * g.z := Int.mul_nonneg hk0 (by omega)
  have h1 : k * g.z + g.z ≤ g.d * g.z := by
    have : (k + 1) * g.z ≤ g.d * g.z := Int.mul_le_mul_of_nonneg_right (by omega) (by omega)
    rw [Int.add_mul, Int.one_mul] at this
    exact this
  unfold domOf
  rw [if_pos ⟨by omega, by omega⟩, Int.add_comm, Int.add_mul_ediv_right _ _ (by omega), Int.ediv_eq_zero_of_lt hj0 hj]
  omega
set_option maxRecDepth 100000 in
set_option maxHeartbeats 16000000 in
theorem geo_zones_core (g : Geo.G) (zone off stop : Int) (hr : Geo.right g = true) (w : World) :
    Calls Try.prog 6 #[.agg (GC g), .int .i64 zone, .int .i64 off, .int .i64 stop] w fun e w' => e = .returned (.bool true) ∧ Below w.heap.size w w' := by
  have hs := ((Geo.right_iff g).1 hr).1
  have HSM := Lib.hid hs
  have HA := Lib.hid (fun W => geo_anchor W)
  have HRR := Lib.hid (fun W => by have := grefright_any g W; rwa [hr] at this)
  have HI := Lib.hid (gsize (g := g))
  have HIR : Hid ((Try.prog.info? 26).map (·.size) = some (GC g).size) := Lib.hid (by kernel_rfl)
  have HIN := Lib.hid (fun (dom : Int) (W : World) => gin_any g dom W)
  have HDM := Lib.hid (fun (z : Int) (W : World) => gdomain_any g z W hs)
  have HHO := Lib.hid (fun (W : World) => gholds_any g zone off W)
  have HCS := Lib.hid (fun (W : World) (b : Nat) (t : TypeId) (hh : W.heap[b]? = some (.cells (GC g) t (0, 0))) => geo_cells hh)
  have hd1 := hs.1.1
  have hd2 := hs.1.2
  have hz1 := hs.2.1.1
  have hz2 := hs.2.1.2
  have HHH : Hid (holdsG g zone off = (Geo.inB zone 0 (g.d * g.z - 1) && Geo.inB off 0 (g.s - 1))) := Lib.hid (by unfold holdsG; rw [hr]; rfl)
  have HDZ := Lib.hid (Geo.dz_bd hs)
  have hs1 := hs.2.2.1.1
  have hs2 := hs.2.2.1.2
  obtain ⟨WX, hWX⟩ : ∃ WX, ((w.alloc (.cells (GC g) 23)).alloc (.cells #[.int .i64 stop] 3)).alloc (.cells #[.bool false] 4) = WX := ⟨_, rfl⟩
  have hOX : Only [] w WX := by rw [← hWX]; exact (((Only.refl [] w).alloc _).alloc _).alloc _
  have zX : WX.heap.size = w.heap.size + 1 + 1 + 1 := by rw [← hWX]; simp
  have hx0 : WX.heap[w.heap.size]? = some (.cells (GC g) 23 (0, 0)) := by rw [← hWX]; (repeat (first | exact alloc_new _ _ (by first | (simp only [World.size_alloc]; done) | (simp only [World.size_alloc]; omega) | with_reducible rfl) | refine (alloc_old _ _ (by (try simp only [World.size_alloc]); omega)).trans ?_))
  have hx1 : WX.heap[w.heap.size + 1]? = some (.cells #[.int .i64 stop] 3 (0, 0)) := by rw [← hWX]; (repeat (first | exact alloc_new _ _ (by first | (simp only [World.size_alloc]; done) | (simp only [World.size_alloc]; omega) | with_reducible rfl) | refine (alloc_old _ _ (by (try simp only [World.size_alloc]); omega)).trans ?_))
  have hx2 : WX.heap[w.heap.size + 1 + 1]? = some (.cells #[.bool false] 4 (0, 0)) := by rw [← hWX]; (repeat (first | exact alloc_new _ _ (by first | (simp only [World.size_alloc]; done) | (simp only [World.size_alloc]; omega) | with_reducible rfl) | refine (alloc_old _ _ (by (try simp only [World.size_alloc]); omega)).trans ?_))
  have HWX := Lib.hid hWX
  clear hWX hs
  refine calls_of_marks Try.func6 rfl ?_
  simp only [Try.ntmps6, List.size_toArray, List.length_cons, List.length_nil, Nat.reduceAdd, Nat.reduceSub, Array.replicate_succ, Array.replicate_zero, List.push_toArray, List.append_toArray, List.nil_append, List.cons_append]
  generalize hCG : GC g = C at *
  have HCG := Lib.hid hCG
  clear hCG
  go_wp2_with fail
  rw [HWX.out]
  refine (HA.out _).mono ?_
  rintro e w1 ⟨rfl, hB1⟩
  have hO1 : Only [] w w1 := hOX.trans (Only.of_below hB1)
  have hg1 := (hB1.block w.heap.size (by omega)).trans hx0
  have hst1 := (hB1.block (w.heap.size + 1) (by omega)).trans hx1
  have hrs1 := (hB1.block (w.heap.size + 1 + 1) (by omega)).trans hx2
  have z1 := hB1.size
  clear hx0 hx1 hx2 hB1 hOX HA
  go_wp2_with (first | (refine wpList_row_on (by rfl) 23 _ rfl w.heap.size rfl 23 _ _ _ hg1 Try.underlying23 rfl HI.out ?_))
  refine (HRR.out _).mono ?_
  rintro e w2 ⟨rfl, hB2⟩
  obtain ⟨W3, hW3⟩ : ∃ W3, w2.alloc (.cells #[.int .i64 0] 3) = W3 := ⟨_, rfl⟩
  have hO23 : Only [] w2 W3 := by rw [← hW3]; exact (Only.refl [] w2).alloc _
  have hO3 : Only [] w W3 := (hO1.trans (Only.of_below hB2)).trans hO23
  have hg3 := hO23.get ((hB2.block w.heap.size (by omega)).trans hg1) (by simp)
  have hst3 := hO23.get ((hB2.block (w.heap.size + 1) (by omega)).trans hst1) (by simp)
  have hrs3 := hO23.get ((hB2.block (w.heap.size + 1 + 1) (by omega)).trans hrs1) (by simp)
  have hn3 : W3.heap[w2.heap.size]? = some (.cells #[.int .i64 0] 3 (0, 0)) := by rw [← hW3]; exact heap_alloc_new w2 _
  have z2 := hB2.size
  have z3 : W3.heap.size = w2.heap.size + 1 := by rw [← hW3]; simp
  have HW3 := Lib.hid hW3
  clear hW3 hg1 hst1 hrs1 hB2 hO1 hO23
  go_upto_region 6 with (fail)
  rw [HW3.out]
  clear HW3
  obtain ⟨c0, c1, c2, c3, c4, c5⟩ := HCS.out _ _ _ hg3
  go_wp2
  refine wp_loop_ghost_k (fun (m : Nat) (a' : Act) (w' : World) => ∃ (u10 u11 u26 u27 u28 u29 u30 u31 u32 u33 u34 u35 u36 u37 u38 u39 u40 u41 u42 u43 u44 u45 : Value) (ds : List Nat), a' = { tmps := ((Value.agg C) :: (Value.int IntKind.i64 zone) :: (Value.int IntKind.i64 off) :: (Value.int IntKind.i64 stop) :: (Value.pointer (some { block := w.heap.size, off := 0 })) :: undef :: undef :: (Value.pointer (some { block := w.heap.size + 1, off := 0 })) :: (Value.pointer (some { block := w.heap.size + 1 + 1, off := 0 })) :: (Value.pointer (some { block := w2.heap.size, off := 0 })) :: u10 :: u11 :: undef :: undef :: (Value.bool true) :: (Value.bool false) :: (Value.agg C) :: (Value.bool true) :: (Value.bool false) :: undef :: undef :: undef :: undef :: undef :: (Value.pointer (some { block := w.heap.size, off := 0 })) :: (Value.int IntKind.i64 g.d) :: u26 :: u27 :: u28 :: u29 :: u30 :: u31 :: u32 :: u33 :: u34 :: u35 :: u36 :: u37 :: u38 :: u39 :: u40 :: u41 :: u42 :: u43 :: u44 :: u45 :: undef :: undef :: undef :: undef :: undef :: undef :: undef :: undef :: undef :: undef :: undef :: undef :: undef :: undef :: undef :: undef :: undef :: undef :: undef :: undef :: undef :: undef :: undef :: undef :: undef :: undef :: undef :: undef :: undef :: undef :: undef :: undef :: undef :: undef :: undef :: undef :: undef :: undef :: undef :: undef :: undef :: undef :: undef :: undef :: undef :: undef :: undef :: undef :: undef :: undef :: undef :: undef :: undef :: undef :: undef :: undef :: undef :: undef :: undef :: undef :: undef :: undef :: undef :: undef :: undef :: undef :: undef :: undef :: undef :: []).toArray, defers := marks ds } ∧ (∃ k : Nat, (k : Int) ≤ g.d ∧ m = g.d.toNat - k ∧ u26 = .int .i64 k ∧ w'.heap[w2.heap.size]? = some (.cells #[.int .i64 (k * g.z)] 3 (0, 0)) ∧ Only [w2.heap.size] W3 w' ∧ ds.Nodup ∧ ∀ D ∈ ds, W3.heap.size ≤ D ∧ w'.heap[D]? = some (.deferred (some [])))) g.d.toNat ?start ?round
  case start => exact ⟨_, _, _, _, _, _, _, _, _, _, _, _, _, _, _, _, _, _, _, _, _, _, [], rfl, 0, by omega, by simp, rfl, by simpa using hn3, Only.refl _ _, by simp, by simp⟩
  case round =>
    intro m a' wr hinv J K hJ hK
    obtain ⟨u10, hinv⟩ := hinv
    obtain ⟨u11, hinv⟩ := hinv
    obtain ⟨u26, hinv⟩ := hinv
    obtain ⟨u27, hinv⟩ := hinv
    obtain ⟨u28, hinv⟩ := hinv
    obtain ⟨u29, hinv⟩ := hinv
    obtain ⟨u30, hinv⟩ := hinv
    obtain ⟨u31, hinv⟩ := hinv
    obtain ⟨u32, hinv⟩ := hinv
    obtain ⟨u33, hinv⟩ := hinv
    obtain ⟨u34, hinv⟩ := hinv
    obtain ⟨u35, hinv⟩ := hinv
    obtain ⟨u36, hinv⟩ := hinv
    obtain ⟨u37, hinv⟩ := hinv
    obtain ⟨u38, hinv⟩ := hinv
    obtain ⟨u39, hinv⟩ := hinv
    obtain ⟨u40, hinv⟩ := hinv
    obtain ⟨u41, hinv⟩ := hinv
    obtain ⟨u42, hinv⟩ := hinv
    obtain ⟨u43, hinv⟩ := hinv
    obtain ⟨u44, hinv⟩ := hinv
    obtain ⟨u45, hinv⟩ := hinv
    obtain ⟨ds, ha, hinv⟩ := hinv
    subst ha
    obtain ⟨k, hk, rfl, rfl, hn, hO, hnd, hds⟩ := hinv
    have HJ := Lib.hid hJ
    have HK := Lib.hid hK
    have HDS := Lib.hid hds
    have hg := hO.get hg3 (by simp; omega)
    have hst := hO.get hst3 (by simp; omega)
    have hrs := hO.get hrs3 (by simp; omega)
    have zr := hO.size
    clear hJ hK hds
    by_cases hlt : (k : Int) < g.d
    · obtain ⟨WL, hWL⟩ : ∃ WL, ((wr.alloc (.cells #[.int .i64 k] 3)).alloc (.cells C 23)).alloc (.cells #[.int .i64 k] 3) = WL := ⟨_, rfl⟩
      have hOL : Only [] wr WL := by rw [← hWL]; exact (((Only.refl [] wr).alloc _).alloc _).alloc _
      have zL : WL.heap.size = wr.heap.size + 1 + 1 + 1 := by rw [← hWL]; simp
      have hl0 : WL.heap[wr.heap.size]? = some (.cells #[.int .i64 k] 3 (0, 0)) := by rw [← hWL]; (repeat (first | exact alloc_new _ _ (by first | (simp only [World.size_alloc]; done) | (simp only [World.size_alloc]; omega) | with_reducible rfl) | refine (alloc_old _ _ (by (try simp only [World.size_alloc]); omega)).trans ?_))
      have hl1 : WL.heap[wr.heap.size + 1]? = some (.cells C 23 (0, 0)) := by rw [← hWL]; (repeat (first | exact alloc_new _ _ (by first | (simp only [World.size_alloc]; done) | (simp only [World.size_alloc]; omega) | with_reducible rfl) | refine (alloc_old _ _ (by (try simp only [World.size_alloc]); omega)).trans ?_))
      have hl2 : WL.heap[wr.heap.size + 1 + 1]? = some (.cells #[.int .i64 k] 3 (0, 0)) := by rw [← hWL]; (repeat (first | exact alloc_new _ _ (by first | (simp only [World.size_alloc]; done) | (simp only [World.size_alloc]; omega) | with_reducible rfl) | refine (alloc_old _ _ (by (try simp only [World.size_alloc]); omega)).trans ?_))
      have HWL := Lib.hid hWL
      have hgA := ((Below.refl wr.heap.size wr).alloc (Nat.le_refl _) (.cells #[.int .i64 (k : Nat)] 3)).block w.heap.size (by omega)
      rw [hg] at hgA
      have hkz0 : 0 ≤ (k : Int) * g.z := Int.mul_nonneg (by omega) (by omega)
      have hkz1 : (k : Int) * g.z ≤ 8 * 64 := Int.le_trans (Int.mul_le_mul_of_nonneg_right (show (k : Int) ≤ 8 by omega) (by omega)) (Int.mul_le_mul_of_nonneg_left hz2 (by omega))
      clear hWL
      go_wp2_with (first | (refine wpList_row_on (by rfl) 23 _ rfl w.heap.size rfl 23 _ _ _ hgA Try.underlying23 rfl HI.out ?_))
      refine (HIN.out _ _).mono ?_
      rintro e w9 ⟨rfl, rfl⟩
      rw [HWL.out, World.size_alloc]
      clear HWL hgA
      have HOL := Lib.hid hOL
      have hgL := hOL.get hg (by simp)
      have hstL := hOL.get hst (by simp)
      have hrsL := hOL.get hrs (by simp)
      have hnL := hOL.get hn (by simp)
      have HGL := Lib.hid hgL
      have hl1' : WL.heap[wr.heap.size + 1]? = some (.cells (GC g) 23 (0, 0)) := by rw [HCG.out]; exact hl1
      clear hg hst hrs hn hOL
      go_wp2
      refine (wpIn_wide (n := 8)).1 (wpIn_rangeT1 rfl (by omega) (gf := 38) (lb := #[.pointer (some ⟨wr.heap.size + 1 + 1, 0, none⟩), .pointer (some ⟨wr.heap.size + 1, 0, none⟩)]) rfl trivial (enters_of Try.func38 (by kernel_rfl) rfl)
        (gin1_T 7 (by omega) (wr.heap.size + 1 + 1) (wr.heap.size + 1) g HSM.out (k : Nat) WL hl2 hl1') (Below.refl _ _) (fun _ => rfl)
        [w2.heap.size] (by simp; omega) (by simp)
        (fun pre W => W.heap[w2.heap.size]? = some (.cells #[.int .i64 ((k : Int) * g.z + (pre.length : Nat))] 3 (0, 0)) ∧ Only [w2.heap.size] WL W)
        (fun _ _ _ => False)
        ((AbT.row (b := w2.heap.size) (fun (pre : List Int) => #[.int .i64 ((k : Int) * g.z + (pre.length : Nat))]) (by simp)).and (AbT.only (Nat.le_refl _) (by simp)))
        (fun _ => AbT.pure _ _ _) ⟨by simpa using hnL, Only.refl _ _⟩ ?fr1 ?assign1 ?body1 ?done1 ?stop1)
      case assign1 =>
        intro r pre x W K2 _ hI hK2
        have HK2 := Lib.hid hK2
        clear hK2
        gi_wp2
        exact HK2.out W (Only.refl _ _)
      case body1 =>
        rintro r pre x Wb hr _ ⟨hn', hO2⟩ hlen hsp
        have hzo : zonesOf g (k : Nat) = zonesTo g.z (k : Nat) g.z.toNat := if_pos ⟨by omega, by omega⟩
        rw [hzo] at hsp
        obtain ⟨rfl, hpl⟩ := zonesTo_next hsp
        have HG2 := Lib.hid (hO2.get HGL.out (by simp; omega))
        have HD2 := Lib.hid (hO2.get hl0 (by simp; omega))
        have hdm : domOf g ((k : Int) * g.z + (pre.length : Nat)) = k := domOf_in HSM.out (by omega) hlt (by omega) (by omega)
        have HDM2 : Hid (∀ W, Calls Try.prog 23 #[.agg C, .int .i64 ((k : Int) * g.z + (pre.length : Nat))] W fun e w' => e = .returned (.int .i64 (k : Nat)) ∧ Below W.heap.size W w') := Lib.hid (fun W => by have := HDM.out ((k : Int) * g.z + (pre.length : Nat)) W; rwa [hdm] at this)
        have HN2 := Lib.hid hn'
        have HO2 := Lib.hid hO2
        have zW := hO2.size
        clear hn' hO2 hsp hlen hzo hdm
        gi_wp2
        refine wpIn_region_conf2 9 [Fact.eq ?rbx0, Fact.eq ?rbx1, Fact.eq ?rbx2, Fact.eq ?rbx3, Fact.eq ?rbx4, Fact.eq ?rbx5, Fact.eq ?rbx6, Fact.eq ?rbx7, Fact.eq ?rbx8] ?rbA (by kernel_rfl) (by kernel_rfl) ?rbhA ?rbho ?rbhend
        case rbhA =>
          intro vv
          simp only [putRules, Nat.reduceAdd]
          rfl
        case rbho =>
          refine ⟨?_, ?_, ?_, ?_, ?_, ?_, ?_, ?_, ?_, trivial⟩
          · intro vv W K hB hd HK
            simp only [confRules] at HK
            clear hd
            gi_wp2
            refine HK.out _ _ (Below.refl _ _) ?_
            rfl
          · intro vv W K hB hd HK
            simp only [confRules] at HK
            clear hd
            have hT := cell_of_one ((hB.block (w2.heap.size) (by omega)).trans HN2.out)
            gi_wp2
            refine HK.out _ _ (Below.refl _ _) ?_
            rfl
          · intro vv W K hB hd HK
            simp only [confRules] at hd HK
            obtain ⟨h0, h1⟩ := hd
            simp only [h0, h1] at HK ⊢
            clear h0 h1
            gi_wp2
            refine HK.out _ _ (Below.refl _ _) ?_
            rfl
          · intro vv W K hB hd HK
            simp only [confRules] at hd HK
            have h2 := hd
            clear hd
            simp only [h2] at HK ⊢
            clear h2
            gi_wp2
            refine HK.out _ _ (Below.refl _ _) ?_
            rfl
          · intro vv W K hB hd HK
            simp only [confRules] at hd HK
            have h3 := hd
            clear hd
            simp only [h3] at HK ⊢
            clear h3
            refine wpListIn_guard_yes (by rfl) ?_
            have hT := (hB.block w.heap.size (by omega)).trans HG2.out
            refine wpListIn_row_on (by rfl) 23 _ rfl w.heap.size rfl 23 _ _ _ hT Try.underlying23 rfl HI.out ?_
            gi_wp2
            refine HK.out _ _ (Below.refl _ _) ?_
            rfl
          · intro vv W K hB hd HK
            simp only [confRules] at hd HK
            have h3 := hd
            clear hd
            simp only [h3] at HK ⊢
            clear h3
            refine wpListIn_guard_yes (by rfl) ?_
            gi_wp2
            refine HK.out _ _ (Below.refl _ _) ?_
            rfl
          · intro vv W K hB hd HK
            simp only [confRules] at hd HK
            obtain ⟨h4, h5, h3, _⟩ := hd
            simp only [h4, h5, h3] at HK ⊢
            clear h4 h5 h3
            refine wpListIn_guard_yes (by rfl) ?_
            gi_wp2_with fail
            refine ⟨trivial, ?_⟩
            refine (CallsIn.inRound r ((callsIn_wide (n := 5)).2 (HDM2.out _))).mono ?_
            rintro e w9 ⟨rfl, hB9⟩
            gi_wp2
            refine HK.out _ _ hB9 ?_
            rfl
          · intro vv W K hB hd HK
            simp only [confRules] at hd HK
            have h3 := hd
            clear hd
            simp only [h3] at HK ⊢
            clear h3
            refine wpListIn_guard_yes (by rfl) ?_
            have hT := cell_of_one ((hB.block (wr.heap.size) (by omega)).trans HD2.out)
            gi_wp2
            refine HK.out _ _ (Below.refl _ _) ?_
            rfl
          · intro vv W K hB hd HK
            simp only [confRules] at hd HK
            obtain ⟨h6, h7, h3⟩ := hd
            simp only [h6, h7, h3] at HK ⊢
            clear h6 h7 h3
            refine wpListIn_guard_yes (by rfl) ?_
            gi_wp2
            refine HK.out _ _ (Below.refl _ _) ?_
            rfl
        case rbhend =>
          intro vv W hB hf
          have e3 := hf 3 (by decide)
          have e8 := hf 8 (by decide)
          simp only [endRules] at e3 e8
          simp only [e3, e8, dropRules]
          clear hf e3 e8
          have hn4 := (hB.block w2.heap.size (by omega)).trans HN2.out
          have hcn4 := cell_of_one hn4
          have hfn4 := free_of_one hn4
          have HN4 := Lib.hid hn4
          have hO4 := (Only.refl [w2.heap.size] Wb).trans (Only.of_below hB)
          have hO5 := HO2.out.trans (Only.of_below hB)
          clear hn4
          gi_wp2
          exact ⟨hO4.setCell (.inl (by simp)) _, by rw [List.length_append, List.length_singleton, Int.natCast_add, ← Int.add_assoc]; exact one_setCell HN4.out, hO5.setCell (.inl (by simp)) _⟩
      case done1 =>
        rintro D ys W hD rfl ⟨hn', hO2⟩ hKD
        have hzo : zonesOf g (k : Nat) = zonesTo g.z (k : Nat) g.z.toNat := if_pos ⟨by omega, by omega⟩
        rw [hzo, zonesTo_length, show ((g.z.toNat : Nat) : Int) = g.z by omega] at hn'
        have hO6 := (HOL.out.mono (T := [w2.heap.size]) (by simp)).trans hO2
        have HR : Hid (W.heap[w2.heap.size]? = some (.cells #[.int .i64 (((k + 1 : Nat) : Int) * g.z)] 3 (0, 0)) ∧ Only [w2.heap.size] W3 W ∧ (D :: ds).Nodup ∧ ∀ E ∈ D :: ds, W3.heap.size ≤ E ∧ W.heap[E]? = some (.deferred (some []))) := Lib.hid ⟨by rw [show ((k + 1 : Nat) : Int) * g.z = (k : Int) * g.z + g.z by rw [Int.natCast_add, Int.add_mul]; simp]; exact hn', hO.trans hO6, List.nodup_cons.2 ⟨fun hm => by have := (Array.getElem?_eq_some_iff.1 (HDS.out D hm).2).1; omega, hnd⟩, fun E hE => by
          rcases List.mem_cons.1 hE with e | hm
          · rw [e]
            exact ⟨by omega, hKD⟩
          · exact ⟨(HDS.out E hm).1, hO6.get (HDS.out E hm).2 (by have := (HDS.out E hm).1; simp; omega)⟩⟩
        clear hn' hO2 hKD hO6 hnL hgL hstL hrsL
        go_wp2
        refine HK.out _ _ (Handed.intro (g.d.toNat - (k + 1)) (by omega) (HJ.out _ _ _ ?_))
        exact ⟨_, _, _, _, _, _, _, _, _, _, _, _, _, _, _, _, _, _, _, _, _, _, D :: ds, rfl, k + 1, by omega, rfl, by go_num, HR.out⟩
      case stop1 =>
        rintro D cx pre W hD - h
        exact h.elim
    · have hkd : (k : Int) = g.d := by omega
      rw [hkd] at hn
      have HG := Lib.hid hg
      have HR := Lib.hid hrs
      have HN := Lib.hid hn
      have HT := Lib.hid hst
      have hOw : Only [w2.heap.size] w wr := (hO3.mono (by simp)).trans' hO (by simp)
      obtain ⟨hdz1, hdz2⟩ := HDZ.out
      have hin : ∀ n a b : Int, ¬ (a ≤ n ∧ n ≤ b) → Geo.inB n a b = false := fun n a b h => by rw [← Bool.not_eq_true]; exact fun e => h (Geo.inB_iff.1 e)
      by_cases h1 : 0 ≤ zone
      · have t1 : decide (0 ≤ zone) = true := decide_eq_true h1
        by_cases h2 : zone < g.d * g.z
        · have t2 : decide (zone < g.d * g.z) = true := decide_eq_true h2
          have i1 : Geo.inB zone 0 (g.d * g.z - 1) = true := Geo.inB_iff.2 ⟨h1, by omega⟩
          have hdv : domOf g zone = zone / g.z := if_pos ⟨h1, h2⟩
          have hq0 : 0 ≤ zone / g.z := Int.ediv_nonneg h1 (by omega)
          by_cases h3 : 0 ≤ off
          · have t3 : decide (0 ≤ off) = true := decide_eq_true h3
            by_cases h4 : off < g.s
            · have t4 : decide (off < g.s) = true := decide_eq_true h4
              have hhv : holdsG g zone off = true := by rw [HHH.out, i1, Geo.inB_iff.2 ⟨h3, by omega⟩]; rfl
              have t5 : (zone / g.z == -1) = false := by rw [beq_eq_false_iff_ne]; omega
              generalize zone / g.z = zq at *
              have HH : Hid (∀ W, Calls Try.prog 21 #[.agg C, .int .i64 zone, .int .i64 off] W fun e w' => e = .returned (.bool true) ∧ Below W.heap.size W w') := Lib.hid (fun W => by have := HHO.out W; rwa [hhv] at this)
              have HD : Hid (∀ W, Calls Try.prog 23 #[.agg C, .int .i64 zone] W fun e w' => e = .returned (.int .i64 (zq)) ∧ Below W.heap.size W w') := Lib.hid (fun W => by have := HDM.out zone W; rwa [hdv] at this)
              clear hhv hdv
              obtain ⟨c0, c1, c2, -⟩ := HCS.out _ _ _ hg
              go_wp2_with (refine wpList_row_on (by rfl) 23 _ rfl w.heap.size rfl 23 _ _ _ hg Try.underlying23 rfl HI.out ?_)
              refine (HH.out _).mono ?_
              rintro e wa ⟨rfl, hBa⟩
              have hga := (hBa.block w.heap.size (by omega)).trans hg
              obtain ⟨-, -, c2, -⟩ := HCS.out _ _ _ hga
              have za := hBa.size
              clear c0 c1
              go_wp2_with (refine wpList_row_on (by rfl) 23 _ rfl w.heap.size rfl 23 _ _ _ hga Try.underlying23 rfl HI.out ?_)
              refine (HD.out _).mono ?_
              rintro e wb ⟨rfl, hBb⟩
              have zb := hBb.size
              have hObw : Only [] wr wb := (Only.of_below hBa).trans (Only.of_below hBb)
              obtain ⟨WS, hWS⟩ : ∃ WS, wb.alloc (.cells #[.int .i64 0] 3) = WS := ⟨_, rfl⟩
              have hOs : Only [] wb WS := by rw [← hWS]; exact (Only.refl [] wb).alloc _
              have hgS := hOs.get (hObw.get hg (by simp)) (by simp)
              have zS := Nat.le_antisymm_iff.1 (show WS.heap.size = wb.heap.size + 1 by rw [← hWS]; simp)
              have hsS : WS.heap[wb.heap.size]? = some (.cells #[.int .i64 0] 3 (0, 0)) := by rw [← hWS]; exact heap_alloc_new wb _
              obtain ⟨WL, hWL⟩ : ∃ WL, (WS.alloc (.cells C 23)).alloc (.cells #[.int .i64 0] 3) = WL := ⟨_, rfl⟩
              have hOL : Only [] WS WL := by rw [← hWL]; exact ((Only.refl [] WS).alloc _).alloc _
              have zL := Nat.le_antisymm_iff.1 (show WL.heap.size = WS.heap.size + 1 + 1 by rw [← hWL]; simp)
              have hl1 : WL.heap[WS.heap.size]? = some (.cells C 23 (0, 0)) := by rw [← hWL]; (repeat (first | exact alloc_new _ _ (by first | (simp only [World.size_alloc]; done) | (simp only [World.size_alloc]; omega) | with_reducible rfl) | refine (alloc_old _ _ (by (try simp only [World.size_alloc]); omega)).trans ?_))
              have hl2 : WL.heap[WS.heap.size + 1]? = some (.cells #[.int .i64 0] 3 (0, 0)) := by rw [← hWL]; (repeat (first | exact alloc_new _ _ (by first | (simp only [World.size_alloc]; done) | (simp only [World.size_alloc]; omega) | with_reducible rfl) | refine (alloc_old _ _ (by (try simp only [World.size_alloc]); omega)).trans ?_))
              have HWS := Lib.hid hWS
              have HWL := Lib.hid hWL
              clear hWS hWL c2 hga
              go_upto_region 19 with (fail)
              rw [HWS.out]
              go_wp2_with (refine wpList_row_on (by rfl) 23 _ rfl w.heap.size rfl 23 _ _ _ hgS Try.underlying23 rfl HI.out ?_)
              refine (HIN.out _ _).mono ?_
              rintro e w9 ⟨rfl, rfl⟩
              rw [HWL.out]
              clear HWL HWS
              have hl1' : WL.heap[WS.heap.size]? = some (.cells (GC g) 23 (0, 0)) := by rw [HCG.out]; exact hl1
              have hsL := hOL.get hsS (by simp)
              have hOLb : Only [] wb WL := hOs.trans hOL
              have hgb := hOLb.get (hObw.get hg (by simp)) (by simp)
              have hrsb := hOLb.get (hObw.get hrs (by simp)) (by simp)
              have hnb := hOLb.get (hObw.get hn (by simp)) (by simp)
              have hstb := hOLb.get (hObw.get hst (by simp)) (by simp)
              have HL1 := Lib.hid hl1'
              have HL2 := Lib.hid hl2
              have HSL := Lib.hid hsL
              have HGB := Lib.hid hgb
              have HRB := Lib.hid hrsb
              have HNB := Lib.hid hnb
              have HTB := Lib.hid hstb
              clear hg hrs hn hst hgS hsS hl1 hl1' hl2 hsL hgb hrsb hnb hstb
              go_wp2
              refine (wpIn_wide (n := 8)).1 (wpIn_rangeT1 rfl (by omega) (gf := 38) (lb := #[.pointer (some ⟨WS.heap.size + 1, 0, none⟩), .pointer (some ⟨WS.heap.size, 0, none⟩)]) rfl trivial (enters_of Try.func38 (by kernel_rfl) rfl)
                (gin1_T 7 (by omega) (WS.heap.size + 1) WS.heap.size g HSM.out 0 WL HL2.out HL1.out) (Below.refl _ _) (fun _ => rfl)
                [wb.heap.size] (by simp; omega) (by simp)
                (fun pre W => W.heap[wb.heap.size]? = some (.cells #[.int .i64 (pre.length : Nat)] 3 (0, 0)) ∧ Only [wb.heap.size] WL W)
                (fun cx _ W => cx = .exit 4 ∧ W.heap[wb.heap.size]? = some (.cells #[.int .i64 stop] 3 (0, 0)) ∧ Only [wb.heap.size] WL W)
                ((AbT.row (b := wb.heap.size) (fun (pre : List Int) => #[.int .i64 (pre.length : Nat)]) (by simp)).and (AbT.only (Nat.le_refl _) (by simp)))
                (fun cx => (AbT.pure _ _ (fun _ => cx = .exit 4)).and ((AbT.row (b := wb.heap.size) (fun (_ : List Int) => #[.int .i64 stop]) (by simp)).and (AbT.only (Nat.le_refl _) (by simp)))) ⟨HSL.out, Only.refl _ _⟩ ?frm1 ?assignm1 ?bodym1 ?donem1 ?stopm1)
              case assignm1 =>
                intro r pre x W K2 _ hI hK2
                have HK2 := Lib.hid hK2
                clear hK2
                gi_wp2
                exact HK2.out W (Only.refl _ _)
              case bodym1 =>
                rintro r pre x W hr _ ⟨hn', hO2⟩ hlen hsp
                have hcn2 := cell_of_one hn'
                have hfn2 := free_of_one hn'
                have hcs2 := cell_of_one (hO2.get HTB.out (by simp; omega))
                have HN2 := Lib.hid hn'
                have HO2 := Lib.hid hO2
                have hp : (pre.length : Int) < 64 := by omega
                clear hn' hO2 hsp hlen
                by_cases hsx : (pre.length : Int) + 1 = stop
                · have t7 : ((pre.length : Int) + 1 == stop) = true := by simpa using hsx
                  gi_wp2
                  exact ⟨(Only.refl _ _).setCell (.inl (by simp)) _, rfl, one_setCell HN2.out, HO2.out.setCell (.inl (by simp)) _⟩
                · have t7 : ((pre.length : Int) + 1 == stop) = false := by simpa using hsx
                  gi_wp2
                  exact ⟨(Only.refl _ _).setCell (.inl (by simp)) _, by rw [List.length_append, List.length_singleton]; exact one_setCell HN2.out, HO2.out.setCell (.inl (by simp)) _⟩
              case donem1 =>
                rintro D2 ys Wc hD2 rfl ⟨hse, hO2⟩ hKD
                have hzo : zonesOf g 0 = zonesTo g.z 0 g.z.toNat := if_pos ⟨by omega, by omega⟩
                rw [hzo, zonesTo_length, show ((g.z.toNat : Nat) : Int) = g.z by omega] at hse
                have hOc : Only [wb.heap.size] wb Wc := (hOLb.mono (by simp)).trans hO2
                have hgb := hObw.get HG.out (by simp)
                have hrsb := hObw.get HR.out (by simp)
                have hnb := hObw.get HN.out (by simp)
                have hstb := hObw.get HT.out (by simp)
                have hgV := hOc.get hgb (by simp; omega)
                have hrsV := hOc.get hrsb (by simp; omega)
                have hnV := hOc.get hnb (by simp; omega)
                have hstV := hOc.get hstb (by simp; omega)
                have hseV := hse
                have hdsV : ∀ E ∈ ds, W3.heap.size ≤ E ∧ Wc.heap[E]? = some (.deferred (some [])) := fun E hE => ⟨(HDS.out E hE).1, hOc.get (hObw.get (HDS.out E hE).2 (by simp)) (by have := (Array.getElem?_eq_some_iff.1 (HDS.out E hE).2).1; simp; omega)⟩
                have HDV := Lib.hid hdsV
                have HKD := Lib.hid hKD
                have hOwc : Only [w2.heap.size] w Wc := (hOw.trans (hObw.mono (by simp))).trans' hOc (by simp; omega)
                have zc := (Array.getElem?_eq_some_iff.1 hKD).1
                have zbc := hOc.size
                clear hgb hrsb hnb hstb hse hOc hdsV hKD
                obtain ⟨WLe1, hWL⟩ : ∃ WL, (Wc.alloc (.cells C 23)).alloc (.cells #[.int .i64 g.d] 3) = WL := ⟨_, rfl⟩
                have hOLe1 : Only [] Wc WLe1 := by rw [← hWL]; exact ((Only.refl [] Wc).alloc _).alloc _
                have zLe1 := Nat.le_antisymm_iff.1 (show WLe1.heap.size = Wc.heap.size + 1 + 1 by rw [← hWL]; simp)
                have hl1 : WLe1.heap[Wc.heap.size]? = some (.cells C 23 (0, 0)) := by rw [← hWL]; (repeat (first | exact alloc_new _ _ (by first | (simp only [World.size_alloc]; done) | (simp only [World.size_alloc]; omega) | with_reducible rfl) | refine (alloc_old _ _ (by (try simp only [World.size_alloc]); omega)).trans ?_))
                have hl2 : WLe1.heap[Wc.heap.size + 1]? = some (.cells #[.int .i64 g.d] 3 (0, 0)) := by rw [← hWL]; (repeat (first | exact alloc_new _ _ (by first | (simp only [World.size_alloc]; done) | (simp only [World.size_alloc]; omega) | with_reducible rfl) | refine (alloc_old _ _ (by (try simp only [World.size_alloc]); omega)).trans ?_))
                have HWL := Lib.hid hWL
                have HGVe1 := Lib.hid hgV
                have HRVe1 := Lib.hid hrsV
                have HNVe1 := Lib.hid hnV
                have HSVe1 := Lib.hid hseV
                have HTVe1 := Lib.hid hstV
                obtain ⟨c0, -⟩ := HCS.out _ _ _ hgV
                clear hWL hrsV hnV hseV hstV
                go_wp2_with (refine wpList_row_on (by rfl) 23 _ rfl w.heap.size rfl 23 _ _ _ hgV Try.underlying23 rfl HI.out ?_)
                refine (HIN.out _ _).mono ?_
                rintro e w9 ⟨rfl, rfl⟩
                rw [HWL.out]
                have hl1' : WLe1.heap[Wc.heap.size]? = some (.cells (GC g) 23 (0, 0)) := by rw [HCG.out]; exact hl1
                have HL1 := Lib.hid hl1'
                have HL2 := Lib.hid hl2
                clear HWL hgV c0 hl1 hl1' hl2
                go_wp2
                refine (wpIn_wide (n := 8)).1 (wpIn_rangeT1 rfl (by omega) (gf := 38) (lb := #[.pointer (some ⟨Wc.heap.size + 1, 0, none⟩), .pointer (some ⟨Wc.heap.size, 0, none⟩)]) rfl trivial (enters_of Try.func38 (by kernel_rfl) rfl)
                  (gin1_T 7 (by omega) (Wc.heap.size + 1) Wc.heap.size g HSM.out g.d WLe1 HL2.out HL1.out) (Below.refl _ _) (fun _ => rfl)
                  [] (by simp) (by simp)
                  (fun pre W => Only [] WLe1 W) (fun _ _ _ => False)
                  (AbT.only (Nat.le_refl _) (by simp)) (fun _ => AbT.pure _ _ _) (Only.refl _ _) ?fre1 ?assigne1 ?bodye1 ?donee1 ?stope1)
                case assigne1 =>
                  intro r pre x W K2 _ hI hK2
                  have HK2 := Lib.hid hK2
                  clear hK2
                  gi_wp2
                  exact HK2.out W (Only.refl _ _)
                case bodye1 =>
                  rintro r pre x W hr _ hO2 hlen hsp
                  rw [show zonesOf g g.d = [] from if_neg (by omega)] at hsp
                  exact absurd hsp (by simp)
                case stope1 =>
                  rintro D cx pre W hD - h
                  exact h.elim
                case donee1 =>
                  rintro D3 ys Wd hDe1 - hOe1 hKe1
                  have hOae1 : Only [] Wc Wd := hOLe1.trans hOe1
                  have zNe1 := hOe1.size
                  have hgV := hOae1.get HGVe1.out (by simp)
                  have hrsV := hOae1.get HRVe1.out (by simp)
                  have hnV := hOae1.get HNVe1.out (by simp)
                  have hseV := hOae1.get HSVe1.out (by simp)
                  have hstV := hOae1.get HTVe1.out (by simp)
                  obtain ⟨WLe2, hWL⟩ : ∃ WL, (Wd.alloc (.cells C 23)).alloc (.cells #[.int .i64 (-1)] 3) = WL := ⟨_, rfl⟩
                  have hOLe2 : Only [] Wd WLe2 := by rw [← hWL]; exact ((Only.refl [] Wd).alloc _).alloc _
                  have zLe2 := Nat.le_antisymm_iff.1 (show WLe2.heap.size = Wd.heap.size + 1 + 1 by rw [← hWL]; simp)
                  have hl1 : WLe2.heap[Wd.heap.size]? = some (.cells C 23 (0, 0)) := by rw [← hWL]; (repeat (first | exact alloc_new _ _ (by first | (simp only [World.size_alloc]; done) | (simp only [World.size_alloc]; omega) | with_reducible rfl) | refine (alloc_old _ _ (by (try simp only [World.size_alloc]); omega)).trans ?_))
                  have hl2 : WLe2.heap[Wd.heap.size + 1]? = some (.cells #[.int .i64 (-1)] 3 (0, 0)) := by rw [← hWL]; (repeat (first | exact alloc_new _ _ (by first | (simp only [World.size_alloc]; done) | (simp only [World.size_alloc]; omega) | with_reducible rfl) | refine (alloc_old _ _ (by (try simp only [World.size_alloc]); omega)).trans ?_))
                  have HWL := Lib.hid hWL
                  have HGVe2 := Lib.hid hgV
                  have HRVe2 := Lib.hid hrsV
                  have HNVe2 := Lib.hid hnV
                  have HSVe2 := Lib.hid hseV
                  have HTVe2 := Lib.hid hstV
                  obtain ⟨c0, -⟩ := HCS.out _ _ _ hgV
                  clear hWL hrsV hnV hseV hstV
                  go_wp2_with (refine wpList_row_on (by rfl) 23 _ rfl w.heap.size rfl 23 _ _ _ hgV Try.underlying23 rfl HI.out ?_)
                  refine (HIN.out _ _).mono ?_
                  rintro e w9 ⟨rfl, rfl⟩
                  rw [HWL.out]
                  have hl1' : WLe2.heap[Wd.heap.size]? = some (.cells (GC g) 23 (0, 0)) := by rw [HCG.out]; exact hl1
                  have HL1 := Lib.hid hl1'
                  have HL2 := Lib.hid hl2
                  clear HWL hgV c0 hl1 hl1' hl2
                  go_wp2
                  refine (wpIn_wide (n := 8)).1 (wpIn_rangeT1 rfl (by omega) (gf := 38) (lb := #[.pointer (some ⟨Wd.heap.size + 1, 0, none⟩), .pointer (some ⟨Wd.heap.size, 0, none⟩)]) rfl trivial (enters_of Try.func38 (by kernel_rfl) rfl)
                    (gin1_T 7 (by omega) (Wd.heap.size + 1) Wd.heap.size g HSM.out (-1) WLe2 HL2.out HL1.out) (Below.refl _ _) (fun _ => rfl)
                    [] (by simp) (by simp)
                    (fun pre W => Only [] WLe2 W) (fun _ _ _ => False)
                    (AbT.only (Nat.le_refl _) (by simp)) (fun _ => AbT.pure _ _ _) (Only.refl _ _) ?fre2 ?assigne2 ?bodye2 ?donee2 ?stope2)
                  case assigne2 =>
                    intro r pre x W K2 _ hI hK2
                    have HK2 := Lib.hid hK2
                    clear hK2
                    gi_wp2
                    exact HK2.out W (Only.refl _ _)
                  case bodye2 =>
                    rintro r pre x W hr _ hO2 hlen hsp
                    rw [show zonesOf g (-1) = [] from if_neg (by omega)] at hsp
                    exact absurd hsp (by simp)
                  case stope2 =>
                    rintro D cx pre W hD - h
                    exact h.elim
                  case donee2 =>
                    rintro D4 ys We hDe2 - hOe2 hKe2
                    have hOae2 : Only [] Wd We := hOLe2.trans hOe2
                    have zNe2 := hOe2.size
                    have hgV := hOae2.get HGVe2.out (by simp)
                    have hrsV := hOae2.get HRVe2.out (by simp)
                    have hnV := hOae2.get HNVe2.out (by simp)
                    have hseV := hOae2.get HSVe2.out (by simp)
                    have hstV := hOae2.get HTVe2.out (by simp)
                    obtain ⟨c0, c1, -⟩ := HCS.out _ _ _ hgV
                    have hc1 := cell_of_one hnV
                    have hc2 := cell_of_one hseV
                    have hc3 := cell_of_one hrsV
                    have hf3 := free_of_one hrsV
                    have hc4 := cell_of_one hstV
                    have HRZ := Lib.hid hrsV
                    have hKD3 := hOae2.get hKe1 (by simp)
                    have hKD2 := hOae2.get (hOae1.get HKD.out (by simp)) (by simp)
                    have hKDs : ∀ E ∈ ds, We.heap[E]? = some (.deferred (some [])) := fun E hE => hOae2.get (hOae1.get (HDV.out E hE).2 (by simp)) (by simp)
                    have HKS : Hid (∀ E ∈ D4 :: D3 :: D2 :: ds, We.heap[E]? = some (.deferred (some []))) := Lib.hid (by
                      intro E hE
                      simp only [List.mem_cons] at hE
                      rcases hE with e | e | e | e
                      · rw [e]; exact hKe2
                      · rw [e]; exact hKD3
                      · rw [e]; exact hKD2
                      · exact hKDs E e)
                    have hlt3 := (Array.getElem?_eq_some_iff.1 hKe1).1
                    have HND : Hid ((D4 :: D3 :: D2 :: ds).Nodup) := Lib.hid (by
                      have hx : ∀ E ∈ ds, E < wr.heap.size := fun E hE => (Array.getElem?_eq_some_iff.1 (HDS.out E hE).2).1
                      refine List.nodup_cons.2 ⟨fun hm => ?_, List.nodup_cons.2 ⟨fun hm => ?_, List.nodup_cons.2 ⟨fun hm => ?_, hnd⟩⟩⟩
                      · simp only [List.mem_cons] at hm
                        rcases hm with e | e | e
                        · omega
                        · omega
                        · have := hx _ e; omega
                      · simp only [List.mem_cons] at hm
                        rcases hm with e | e
                        · omega
                        · have := hx _ e; omega
                      · have := hx _ hm; omega)
                    have hOwe : Only [w2.heap.size] w We := (hOwc.trans (hOae1.mono (by simp))).trans (hOae2.mono (by simp))
                    have hDge : ∀ E ∈ D4 :: D3 :: D2 :: ds, W3.heap.size ≤ E := by
                      intro E hE
                      simp only [List.mem_cons] at hE
                      rcases hE with e | e | e | e
                      · omega
                      · omega
                      · omega
                      · exact (HDS.out E e).1
                    clear hgV hnV hseV hrsV hstV hKD3 hKD2 hKDs hKe1 hKe2
                    have t9 : (g.z == g.z) = true := by simp
                    go_wp2
                    refine leave_marks (v := .bool true) (D4 :: D3 :: D2 :: ds) _ HND.out (fun E hE => ?_) ?_
                    · exact ((Only.refl [w.heap.size + 1 + 1] We).setCell (.inl (by simp)) _).get (HKS.out E hE) (by have := hDge E hE; simp; omega)
                    · intro W' hO'
                      have hr' := hO'.get (one_setCell HRZ.out) (fun hm => by have := hDge _ hm; omega)
                      have hc' := cell_of_one hr'
                      refine ⟨by simp [results, Try.results6, go_sem, hc'], rfl, ?_⟩
                      have h7 : Only [w2.heap.size, w.heap.size + 1 + 1] w (We.setCell ⟨w.heap.size + 1 + 1, 0, none⟩ (.bool true)) := (hOwe.mono (by simp)).setCell (.inl (by simp)) _
                      exact (h7.below (B := w.heap.size) (by simp; omega) (Nat.le_refl _)).trans (hO'.below (B := w.heap.size) (fun E hE => by have := hDge E hE; omega) (by simp; omega))

              case stopm1 =>
                rintro D2 cx pre Wc hD2 - ⟨rfl, hse, hO2⟩ hKD
                refine wpIn_wide.2 ?_
                have hOc : Only [wb.heap.size] wb Wc := (hOLb.mono (by simp)).trans hO2
                have hgb := hObw.get HG.out (by simp)
                have hrsb := hObw.get HR.out (by simp)
                have hnb := hObw.get HN.out (by simp)
                have hstb := hObw.get HT.out (by simp)
                have hgV := hOc.get hgb (by simp; omega)
                have hrsV := hOc.get hrsb (by simp; omega)
                have hnV := hOc.get hnb (by simp; omega)
                have hstV := hOc.get hstb (by simp; omega)
                have hseV := hse
                have hdsV : ∀ E ∈ ds, W3.heap.size ≤ E ∧ Wc.heap[E]? = some (.deferred (some [])) := fun E hE => ⟨(HDS.out E hE).1, hOc.get (hObw.get (HDS.out E hE).2 (by simp)) (by have := (Array.getElem?_eq_some_iff.1 (HDS.out E hE).2).1; simp; omega)⟩
                have HDV := Lib.hid hdsV
                have HKD := Lib.hid hKD
                have hOwc : Only [w2.heap.size] w Wc := (hOw.trans (hObw.mono (by simp))).trans' hOc (by simp; omega)
                have zc := (Array.getElem?_eq_some_iff.1 hKD).1
                have zbc := hOc.size
                clear hgb hrsb hnb hstb hse hOc hdsV hKD
                obtain ⟨WLe3, hWL⟩ : ∃ WL, (Wc.alloc (.cells C 23)).alloc (.cells #[.int .i64 g.d] 3) = WL := ⟨_, rfl⟩
                have hOLe3 : Only [] Wc WLe3 := by rw [← hWL]; exact ((Only.refl [] Wc).alloc _).alloc _
                have zLe3 := Nat.le_antisymm_iff.1 (show WLe3.heap.size = Wc.heap.size + 1 + 1 by rw [← hWL]; simp)
                have hl1 : WLe3.heap[Wc.heap.size]? = some (.cells C 23 (0, 0)) := by rw [← hWL]; (repeat (first | exact alloc_new _ _ (by first | (simp only [World.size_alloc]; done) | (simp only [World.size_alloc]; omega) | with_reducible rfl) | refine (alloc_old _ _ (by (try simp only [World.size_alloc]); omega)).trans ?_))
                have hl2 : WLe3.heap[Wc.heap.size + 1]? = some (.cells #[.int .i64 g.d] 3 (0, 0)) := by rw [← hWL]; (repeat (first | exact alloc_new _ _ (by first | (simp only [World.size_alloc]; done) | (simp only [World.size_alloc]; omega) | with_reducible rfl) | refine (alloc_old _ _ (by (try simp only [World.size_alloc]); omega)).trans ?_))
                have HWL := Lib.hid hWL
                have HGVe3 := Lib.hid hgV
                have HRVe3 := Lib.hid hrsV
                have HNVe3 := Lib.hid hnV
                have HSVe3 := Lib.hid hseV
                have HTVe3 := Lib.hid hstV
                obtain ⟨c0, -⟩ := HCS.out _ _ _ hgV
                clear hWL hrsV hnV hseV hstV
                go_wp2_with (refine wpList_row_on (by rfl) 23 _ rfl w.heap.size rfl 23 _ _ _ hgV Try.underlying23 rfl HI.out ?_)
                refine (HIN.out _ _).mono ?_
                rintro e w9 ⟨rfl, rfl⟩
                rw [HWL.out]
                have hl1' : WLe3.heap[Wc.heap.size]? = some (.cells (GC g) 23 (0, 0)) := by rw [HCG.out]; exact hl1
                have HL1 := Lib.hid hl1'
                have HL2 := Lib.hid hl2
                clear HWL hgV c0 hl1 hl1' hl2
                go_wp2
                refine (wpIn_wide (n := 8)).1 (wpIn_rangeT1 rfl (by omega) (gf := 38) (lb := #[.pointer (some ⟨Wc.heap.size + 1, 0, none⟩), .pointer (some ⟨Wc.heap.size, 0, none⟩)]) rfl trivial (enters_of Try.func38 (by kernel_rfl) rfl)
                  (gin1_T 7 (by omega) (Wc.heap.size + 1) Wc.heap.size g HSM.out g.d WLe3 HL2.out HL1.out) (Below.refl _ _) (fun _ => rfl)
                  [] (by simp) (by simp)
                  (fun pre W => Only [] WLe3 W) (fun _ _ _ => False)
                  (AbT.only (Nat.le_refl _) (by simp)) (fun _ => AbT.pure _ _ _) (Only.refl _ _) ?fre3 ?assigne3 ?bodye3 ?donee3 ?stope3)
                case assigne3 =>
                  intro r pre x W K2 _ hI hK2
                  have HK2 := Lib.hid hK2
                  clear hK2
                  gi_wp2
                  exact HK2.out W (Only.refl _ _)
                case bodye3 =>
                  rintro r pre x W hr _ hO2 hlen hsp
                  rw [show zonesOf g g.d = [] from if_neg (by omega)] at hsp
                  exact absurd hsp (by simp)
                case stope3 =>
                  rintro D cx pre W hD - h
                  exact h.elim
                case donee3 =>
                  rintro D3 ys Wd hDe3 - hOe3 hKe3
                  have hOae3 : Only [] Wc Wd := hOLe3.trans hOe3
                  have zNe3 := hOe3.size
                  have hgV := hOae3.get HGVe3.out (by simp)
                  have hrsV := hOae3.get HRVe3.out (by simp)
                  have hnV := hOae3.get HNVe3.out (by simp)
                  have hseV := hOae3.get HSVe3.out (by simp)
                  have hstV := hOae3.get HTVe3.out (by simp)
                  obtain ⟨WLe4, hWL⟩ : ∃ WL, (Wd.alloc (.cells C 23)).alloc (.cells #[.int .i64 (-1)] 3) = WL := ⟨_, rfl⟩
                  have hOLe4 : Only [] Wd WLe4 := by rw [← hWL]; exact ((Only.refl [] Wd).alloc _).alloc _
                  have zLe4 := Nat.le_antisymm_iff.1 (show WLe4.heap.size = Wd.heap.size + 1 + 1 by rw [← hWL]; simp)
                  have hl1 : WLe4.heap[Wd.heap.size]? = some (.cells C 23 (0, 0)) := by rw [← hWL]; (repeat (first | exact alloc_new _ _ (by first | (simp only [World.size_alloc]; done) | (simp only [World.size_alloc]; omega) | with_reducible rfl) | refine (alloc_old _ _ (by (try simp only [World.size_alloc]); omega)).trans ?_))
                  have hl2 : WLe4.heap[Wd.heap.size + 1]? = some (.cells #[.int .i64 (-1)] 3 (0, 0)) := by rw [← hWL]; (repeat (first | exact alloc_new _ _ (by first | (simp only [World.size_alloc]; done) | (simp only [World.size_alloc]; omega) | with_reducible rfl) | refine (alloc_old _ _ (by (try simp only [World.size_alloc]); omega)).trans ?_))
                  have HWL := Lib.hid hWL
                  have HGVe4 := Lib.hid hgV
                  have HRVe4 := Lib.hid hrsV
                  have HNVe4 := Lib.hid hnV
                  have HSVe4 := Lib.hid hseV
                  have HTVe4 := Lib.hid hstV
                  obtain ⟨c0, -⟩ := HCS.out _ _ _ hgV
                  clear hWL hrsV hnV hseV hstV
                  go_wp2_with (refine wpList_row_on (by rfl) 23 _ rfl w.heap.size rfl 23 _ _ _ hgV Try.underlying23 rfl HI.out ?_)
                  refine (HIN.out _ _).mono ?_
                  rintro e w9 ⟨rfl, rfl⟩
                  rw [HWL.out]
                  have hl1' : WLe4.heap[Wd.heap.size]? = some (.cells (GC g) 23 (0, 0)) := by rw [HCG.out]; exact hl1
                  have HL1 := Lib.hid hl1'
                  have HL2 := Lib.hid hl2
                  clear HWL hgV c0 hl1 hl1' hl2
                  go_wp2
                  refine (wpIn_wide (n := 8)).1 (wpIn_rangeT1 rfl (by omega) (gf := 38) (lb := #[.pointer (some ⟨Wd.heap.size + 1, 0, none⟩), .pointer (some ⟨Wd.heap.size, 0, none⟩)]) rfl trivial (enters_of Try.func38 (by kernel_rfl) rfl)
                    (gin1_T 7 (by omega) (Wd.heap.size + 1) Wd.heap.size g HSM.out (-1) WLe4 HL2.out HL1.out) (Below.refl _ _) (fun _ => rfl)
                    [] (by simp) (by simp)
                    (fun pre W => Only [] WLe4 W) (fun _ _ _ => False)
                    (AbT.only (Nat.le_refl _) (by simp)) (fun _ => AbT.pure _ _ _) (Only.refl _ _) ?fre4 ?assigne4 ?bodye4 ?donee4 ?stope4)
                  case assigne4 =>
                    intro r pre x W K2 _ hI hK2
                    have HK2 := Lib.hid hK2
                    clear hK2
                    gi_wp2
                    exact HK2.out W (Only.refl _ _)
                  case bodye4 =>
                    rintro r pre x W hr _ hO2 hlen hsp
                    rw [show zonesOf g (-1) = [] from if_neg (by omega)] at hsp
                    exact absurd hsp (by simp)
                  case stope4 =>
                    rintro D cx pre W hD - h
                    exact h.elim
                  case donee4 =>
                    rintro D4 ys We hDe4 - hOe4 hKe4
                    have hOae4 : Only [] Wd We := hOLe4.trans hOe4
                    have zNe4 := hOe4.size
                    have hgV := hOae4.get HGVe4.out (by simp)
                    have hrsV := hOae4.get HRVe4.out (by simp)
                    have hnV := hOae4.get HNVe4.out (by simp)
                    have hseV := hOae4.get HSVe4.out (by simp)
                    have hstV := hOae4.get HTVe4.out (by simp)
                    obtain ⟨c0, c1, -⟩ := HCS.out _ _ _ hgV
                    have hc1 := cell_of_one hnV
                    have hc2 := cell_of_one hseV
                    have hc3 := cell_of_one hrsV
                    have hf3 := free_of_one hrsV
                    have hc4 := cell_of_one hstV
                    have HRZ := Lib.hid hrsV
                    have hKD3 := hOae4.get hKe3 (by simp)
                    have hKD2 := hOae4.get (hOae3.get HKD.out (by simp)) (by simp)
                    have hKDs : ∀ E ∈ ds, We.heap[E]? = some (.deferred (some [])) := fun E hE => hOae4.get (hOae3.get (HDV.out E hE).2 (by simp)) (by simp)
                    have HKS : Hid (∀ E ∈ D4 :: D3 :: D2 :: ds, We.heap[E]? = some (.deferred (some []))) := Lib.hid (by
                      intro E hE
                      simp only [List.mem_cons] at hE
                      rcases hE with e | e | e | e
                      · rw [e]; exact hKe4
                      · rw [e]; exact hKD3
                      · rw [e]; exact hKD2
                      · exact hKDs E e)
                    have hlt3 := (Array.getElem?_eq_some_iff.1 hKe3).1
                    have HND : Hid ((D4 :: D3 :: D2 :: ds).Nodup) := Lib.hid (by
                      have hx : ∀ E ∈ ds, E < wr.heap.size := fun E hE => (Array.getElem?_eq_some_iff.1 (HDS.out E hE).2).1
                      refine List.nodup_cons.2 ⟨fun hm => ?_, List.nodup_cons.2 ⟨fun hm => ?_, List.nodup_cons.2 ⟨fun hm => ?_, hnd⟩⟩⟩
                      · simp only [List.mem_cons] at hm
                        rcases hm with e | e | e
                        · omega
                        · omega
                        · have := hx _ e; omega
                      · simp only [List.mem_cons] at hm
                        rcases hm with e | e
                        · omega
                        · have := hx _ e; omega
                      · have := hx _ hm; omega)
                    have hOwe : Only [w2.heap.size] w We := (hOwc.trans (hOae3.mono (by simp))).trans (hOae4.mono (by simp))
                    have hDge : ∀ E ∈ D4 :: D3 :: D2 :: ds, W3.heap.size ≤ E := by
                      intro E hE
                      simp only [List.mem_cons] at hE
                      rcases hE with e | e | e | e
                      · omega
                      · omega
                      · omega
                      · exact (HDS.out E e).1
                    clear hgV hnV hseV hrsV hstV hKD3 hKD2 hKDs hKe3 hKe4
                    by_cases hsz : stop = g.z
                    · subst hsz
                      have t9 : (g.z == g.z) = true := by simp
                      go_wp2
                      refine leave_marks (v := .bool true) (D4 :: D3 :: D2 :: ds) _ HND.out (fun E hE => ?_) ?_
                      · exact ((Only.refl [w.heap.size + 1 + 1] We).setCell (.inl (by simp)) _).get (HKS.out E hE) (by have := hDge E hE; simp; omega)
                      · intro W' hO'
                        have hr' := hO'.get (one_setCell HRZ.out) (fun hm => by have := hDge _ hm; omega)
                        have hc' := cell_of_one hr'
                        refine ⟨by simp [results, Try.results6, go_sem, hc'], rfl, ?_⟩
                        have h7 : Only [w2.heap.size, w.heap.size + 1 + 1] w (We.setCell ⟨w.heap.size + 1 + 1, 0, none⟩ (.bool true)) := (hOwe.mono (by simp)).setCell (.inl (by simp)) _
                        exact (h7.below (B := w.heap.size) (by simp; omega) (Nat.le_refl _)).trans (hO'.below (B := w.heap.size) (fun E hE => by have := hDge E hE; omega) (by simp; omega))
                    · have t9 : (stop == g.z) = false := by simpa using hsz
                      go_wp2
                      refine leave_marks (v := .bool true) (D4 :: D3 :: D2 :: ds) _ HND.out (fun E hE => ?_) ?_
                      · exact ((Only.refl [w.heap.size + 1 + 1] We).setCell (.inl (by simp)) _).get (HKS.out E hE) (by have := hDge E hE; simp; omega)
                      · intro W' hO'
                        have hr' := hO'.get (one_setCell HRZ.out) (fun hm => by have := hDge _ hm; omega)
                        have hc' := cell_of_one hr'
                        refine ⟨by simp [results, Try.results6, go_sem, hc'], rfl, ?_⟩
                        have h7 : Only [w2.heap.size, w.heap.size + 1 + 1] w (We.setCell ⟨w.heap.size + 1 + 1, 0, none⟩ (.bool true)) := (hOwe.mono (by simp)).setCell (.inl (by simp)) _
                        exact (h7.below (B := w.heap.size) (by simp; omega) (Nat.le_refl _)).trans (hO'.below (B := w.heap.size) (fun E hE => by have := hDge E hE; omega) (by simp; omega))
            · have t4 : decide (off < g.s) = false := decide_eq_false h4
              have hhv : holdsG g zone off = false := by rw [HHH.out, i1, hin off 0 (g.s - 1) (by omega)]; rfl
              have t5 : (zone / g.z == -1) = false := by rw [beq_eq_false_iff_ne]; omega
              generalize zone / g.z = zq at *
              have HH : Hid (∀ W, Calls Try.prog 21 #[.agg C, .int .i64 zone, .int .i64 off] W fun e w' => e = .returned (.bool false) ∧ Below W.heap.size W w') := Lib.hid (fun W => by have := HHO.out W; rwa [hhv] at this)
              have HD : Hid (∀ W, Calls Try.prog 23 #[.agg C, .int .i64 zone] W fun e w' => e = .returned (.int .i64 (zq)) ∧ Below W.heap.size W w') := Lib.hid (fun W => by have := HDM.out zone W; rwa [hdv] at this)
              clear hhv hdv
              obtain ⟨c0, c1, c2, -⟩ := HCS.out _ _ _ hg
              go_wp2_with (refine wpList_row_on (by rfl) 23 _ rfl w.heap.size rfl 23 _ _ _ hg Try.underlying23 rfl HI.out ?_)
              refine (HH.out _).mono ?_
              rintro e wa ⟨rfl, hBa⟩
              have hga := (hBa.block w.heap.size (by omega)).trans hg
              obtain ⟨-, -, c2, -⟩ := HCS.out _ _ _ hga
              have za := hBa.size
              clear c0 c1
              go_wp2_with (refine wpList_row_on (by rfl) 23 _ rfl w.heap.size rfl 23 _ _ _ hga Try.underlying23 rfl HI.out ?_)
              refine (HD.out _).mono ?_
              rintro e wb ⟨rfl, hBb⟩
              have zb := hBb.size
              have hObw : Only [] wr wb := (Only.of_below hBa).trans (Only.of_below hBb)
              obtain ⟨WS, hWS⟩ : ∃ WS, wb.alloc (.cells #[.int .i64 0] 3) = WS := ⟨_, rfl⟩
              have hOs : Only [] wb WS := by rw [← hWS]; exact (Only.refl [] wb).alloc _
              have hgS := hOs.get (hObw.get hg (by simp)) (by simp)
              have zS := Nat.le_antisymm_iff.1 (show WS.heap.size = wb.heap.size + 1 by rw [← hWS]; simp)
              have hsS : WS.heap[wb.heap.size]? = some (.cells #[.int .i64 0] 3 (0, 0)) := by rw [← hWS]; exact heap_alloc_new wb _
              obtain ⟨WL, hWL⟩ : ∃ WL, (WS.alloc (.cells C 23)).alloc (.cells #[.int .i64 0] 3) = WL := ⟨_, rfl⟩
              have hOL : Only [] WS WL := by rw [← hWL]; exact ((Only.refl [] WS).alloc _).alloc _
              have zL := Nat.le_antisymm_iff.1 (show WL.heap.size = WS.heap.size + 1 + 1 by rw [← hWL]; simp)
              have hl1 : WL.heap[WS.heap.size]? = some (.cells C 23 (0, 0)) := by rw [← hWL]; (repeat (first | exact alloc_new _ _ (by first | (simp only [World.size_alloc]; done) | (simp only [World.size_alloc]; omega) | with_reducible rfl) | refine (alloc_old _ _ (by (try simp only [World.size_alloc]); omega)).trans ?_))
              have hl2 : WL.heap[WS.heap.size + 1]? = some (.cells #[.int .i64 0] 3 (0, 0)) := by rw [← hWL]; (repeat (first | exact alloc_new _ _ (by first | (simp only [World.size_alloc]; done) | (simp only [World.size_alloc]; omega) | with_reducible rfl) | refine (alloc_old _ _ (by (try simp only [World.size_alloc]); omega)).trans ?_))
              have HWS := Lib.hid hWS
              have HWL := Lib.hid hWL
              clear hWS hWL c2 hga
              go_upto_region 19 with (fail)
              rw [HWS.out]
              go_wp2_with (refine wpList_row_on (by rfl) 23 _ rfl w.heap.size rfl 23 _ _ _ hgS Try.underlying23 rfl HI.out ?_)
              refine (HIN.out _ _).mono ?_
              rintro e w9 ⟨rfl, rfl⟩
              rw [HWL.out]
              clear HWL HWS
              have hl1' : WL.heap[WS.heap.size]? = some (.cells (GC g) 23 (0, 0)) := by rw [HCG.out]; exact hl1
              have hsL := hOL.get hsS (by simp)
              have hOLb : Only [] wb WL := hOs.trans hOL
              have hgb := hOLb.get (hObw.get hg (by simp)) (by simp)
              have hrsb := hOLb.get (hObw.get hrs (by simp)) (by simp)
              have hnb := hOLb.get (hObw.get hn (by simp)) (by simp)
              have hstb := hOLb.get (hObw.get hst (by simp)) (by simp)
              have HL1 := Lib.hid hl1'
              have HL2 := Lib.hid hl2
              have HSL := Lib.hid hsL
              have HGB := Lib.hid hgb
              have HRB := Lib.hid hrsb
              have HNB := Lib.hid hnb
              have HTB := Lib.hid hstb
              clear hg hrs hn hst hgS hsS hl1 hl1' hl2 hsL hgb hrsb hnb hstb
              go_wp2
              refine (wpIn_wide (n := 8)).1 (wpIn_rangeT1 rfl (by omega) (gf := 38) (lb := #[.pointer (some ⟨WS.heap.size + 1, 0, none⟩), .pointer (some ⟨WS.heap.size, 0, none⟩)]) rfl trivial (enters_of Try.func38 (by kernel_rfl) rfl)
                (gin1_T 7 (by omega) (WS.heap.size + 1) WS.heap.size g HSM.out 0 WL HL2.out HL1.out) (Below.refl _ _) (fun _ => rfl)
                [wb.heap.size] (by simp; omega) (by simp)
                (fun pre W => W.heap[wb.heap.size]? = some (.cells #[.int .i64 (pre.length : Nat)] 3 (0, 0)) ∧ Only [wb.heap.size] WL W)
                (fun cx _ W => cx = .exit 4 ∧ W.heap[wb.heap.size]? = some (.cells #[.int .i64 stop] 3 (0, 0)) ∧ Only [wb.heap.size] WL W)
                ((AbT.row (b := wb.heap.size) (fun (pre : List Int) => #[.int .i64 (pre.length : Nat)]) (by simp)).and (AbT.only (Nat.le_refl _) (by simp)))
                (fun cx => (AbT.pure _ _ (fun _ => cx = .exit 4)).and ((AbT.row (b := wb.heap.size) (fun (_ : List Int) => #[.int .i64 stop]) (by simp)).and (AbT.only (Nat.le_refl _) (by simp)))) ⟨HSL.out, Only.refl _ _⟩ ?frm2 ?assignm2 ?bodym2 ?donem2 ?stopm2)
              case assignm2 =>
                intro r pre x W K2 _ hI hK2
                have HK2 := Lib.hid hK2
                clear hK2
                gi_wp2
                exact HK2.out W (Only.refl _ _)
              case bodym2 =>
                rintro r pre x W hr _ ⟨hn', hO2⟩ hlen hsp
                have hcn2 := cell_of_one hn'
                have hfn2 := free_of_one hn'
                have hcs2 := cell_of_one (hO2.get HTB.out (by simp; omega))
                have HN2 := Lib.hid hn'
                have HO2 := Lib.hid hO2
                have hp : (pre.length : Int) < 64 := by omega
                clear hn' hO2 hsp hlen
                by_cases hsx : (pre.length : Int) + 1 = stop
                · have t7 : ((pre.length : Int) + 1 == stop) = true := by simpa using hsx
                  gi_wp2
                  exact ⟨(Only.refl _ _).setCell (.inl (by simp)) _, rfl, one_setCell HN2.out, HO2.out.setCell (.inl (by simp)) _⟩
                · have t7 : ((pre.length : Int) + 1 == stop) = false := by simpa using hsx
                  gi_wp2
                  exact ⟨(Only.refl _ _).setCell (.inl (by simp)) _, by rw [List.length_append, List.length_singleton]; exact one_setCell HN2.out, HO2.out.setCell (.inl (by simp)) _⟩
              case donem2 =>
                rintro D2 ys Wc hD2 rfl ⟨hse, hO2⟩ hKD
                have hzo : zonesOf g 0 = zonesTo g.z 0 g.z.toNat := if_pos ⟨by omega, by omega⟩
                rw [hzo, zonesTo_length, show ((g.z.toNat : Nat) : Int) = g.z by omega] at hse
                have hOc : Only [wb.heap.size] wb Wc := (hOLb.mono (by simp)).trans hO2
                have hgb := hObw.get HG.out (by simp)
                have hrsb := hObw.get HR.out (by simp)
                have hnb := hObw.get HN.out (by simp)
                have hstb := hObw.get HT.out (by simp)
                have hgV := hOc.get hgb (by simp; omega)
                have hrsV := hOc.get hrsb (by simp; omega)
                have hnV := hOc.get hnb (by simp; omega)
                have hstV := hOc.get hstb (by simp; omega)
                have hseV := hse
                have hdsV : ∀ E ∈ ds, W3.heap.size ≤ E ∧ Wc.heap[E]? = some (.deferred (some [])) := fun E hE => ⟨(HDS.out E hE).1, hOc.get (hObw.get (HDS.out E hE).2 (by simp)) (by have := (Array.getElem?_eq_some_iff.1 (HDS.out E hE).2).1; simp; omega)⟩
                have HDV := Lib.hid hdsV
                have HKD := Lib.hid hKD
                have hOwc : Only [w2.heap.size] w Wc := (hOw.trans (hObw.mono (by simp))).trans' hOc (by simp; omega)
                have zc := (Array.getElem?_eq_some_iff.1 hKD).1
                have zbc := hOc.size
                clear hgb hrsb hnb hstb hse hOc hdsV hKD
                obtain ⟨WLe5, hWL⟩ : ∃ WL, (Wc.alloc (.cells C 23)).alloc (.cells #[.int .i64 g.d] 3) = WL := ⟨_, rfl⟩
                have hOLe5 : Only [] Wc WLe5 := by rw [← hWL]; exact ((Only.refl [] Wc).alloc _).alloc _
                have zLe5 := Nat.le_antisymm_iff.1 (show WLe5.heap.size = Wc.heap.size + 1 + 1 by rw [← hWL]; simp)
                have hl1 : WLe5.heap[Wc.heap.size]? = some (.cells C 23 (0, 0)) := by rw [← hWL]; (repeat (first | exact alloc_new _ _ (by first | (simp only [World.size_alloc]; done) | (simp only [World.size_alloc]; omega) | with_reducible rfl) | refine (alloc_old _ _ (by (try simp only [World.size_alloc]); omega)).trans ?_))
                have hl2 : WLe5.heap[Wc.heap.size + 1]? = some (.cells #[.int .i64 g.d] 3 (0, 0)) := by rw [← hWL]; (repeat (first | exact alloc_new _ _ (by first | (simp only [World.size_alloc]; done) | (simp only [World.size_alloc]; omega) | with_reducible rfl) | refine (alloc_old _ _ (by (try simp only [World.size_alloc]); omega)).trans ?_))
                have HWL := Lib.hid hWL
                have HGVe5 := Lib.hid hgV
                have HRVe5 := Lib.hid hrsV
                have HNVe5 := Lib.hid hnV
                have HSVe5 := Lib.hid hseV
                have HTVe5 := Lib.hid hstV
                obtain ⟨c0, -⟩ := HCS.out _ _ _ hgV
                clear hWL hrsV hnV hseV hstV
                go_wp2_with (refine wpList_row_on (by rfl) 23 _ rfl w.heap.size rfl 23 _ _ _ hgV Try.underlying23 rfl HI.out ?_)
                refine (HIN.out _ _).mono ?_
                rintro e w9 ⟨rfl, rfl⟩
                rw [HWL.out]
                have hl1' : WLe5.heap[Wc.heap.size]? = some (.cells (GC g) 23 (0, 0)) := by rw [HCG.out]; exact hl1
                have HL1 := Lib.hid hl1'
                have HL2 := Lib.hid hl2
                clear HWL hgV c0 hl1 hl1' hl2
                go_wp2
                refine (wpIn_wide (n := 8)).1 (wpIn_rangeT1 rfl (by omega) (gf := 38) (lb := #[.pointer (some ⟨Wc.heap.size + 1, 0, none⟩), .pointer (some ⟨Wc.heap.size, 0, none⟩)]) rfl trivial (enters_of Try.func38 (by kernel_rfl) rfl)
                  (gin1_T 7 (by omega) (Wc.heap.size + 1) Wc.heap.size g HSM.out g.d WLe5 HL2.out HL1.out) (Below.refl _ _) (fun _ => rfl)
                  [] (by simp) (by simp)
                  (fun pre W => Only [] WLe5 W) (fun _ _ _ => False)
                  (AbT.only (Nat.le_refl _) (by simp)) (fun _ => AbT.pure _ _ _) (Only.refl _ _) ?fre5 ?assigne5 ?bodye5 ?donee5 ?stope5)
                case assigne5 =>
                  intro r pre x W K2 _ hI hK2
                  have HK2 := Lib.hid hK2
                  clear hK2
                  gi_wp2
                  exact HK2.out W (Only.refl _ _)
                case bodye5 =>
                  rintro r pre x W hr _ hO2 hlen hsp
                  rw [show zonesOf g g.d = [] from if_neg (by omega)] at hsp
                  exact absurd hsp (by simp)
                case stope5 =>
                  rintro D cx pre W hD - h
                  exact h.elim
                case donee5 =>
                  rintro D3 ys Wd hDe5 - hOe5 hKe5
                  have hOae5 : Only [] Wc Wd := hOLe5.trans hOe5
                  have zNe5 := hOe5.size
                  have hgV := hOae5.get HGVe5.out (by simp)
                  have hrsV := hOae5.get HRVe5.out (by simp)
                  have hnV := hOae5.get HNVe5.out (by simp)
                  have hseV := hOae5.get HSVe5.out (by simp)
                  have hstV := hOae5.get HTVe5.out (by simp)
                  obtain ⟨WLe6, hWL⟩ : ∃ WL, (Wd.alloc (.cells C 23)).alloc (.cells #[.int .i64 (-1)] 3) = WL := ⟨_, rfl⟩
                  have hOLe6 : Only [] Wd WLe6 := by rw [← hWL]; exact ((Only.refl [] Wd).alloc _).alloc _
                  have zLe6 := Nat.le_antisymm_iff.1 (show WLe6.heap.size = Wd.heap.size + 1 + 1 by rw [← hWL]; simp)
                  have hl1 : WLe6.heap[Wd.heap.size]? = some (.cells C 23 (0, 0)) := by rw [← hWL]; (repeat (first | exact alloc_new _ _ (by first | (simp only [World.size_alloc]; done) | (simp only [World.size_alloc]; omega) | with_reducible rfl) | refine (alloc_old _ _ (by (try simp only [World.size_alloc]); omega)).trans ?_))
                  have hl2 : WLe6.heap[Wd.heap.size + 1]? = some (.cells #[.int .i64 (-1)] 3 (0, 0)) := by rw [← hWL]; (repeat (first | exact alloc_new _ _ (by first | (simp only [World.size_alloc]; done) | (simp only [World.size_alloc]; omega) | with_reducible rfl) | refine (alloc_old _ _ (by (try simp only [World.size_alloc]); omega)).trans ?_))
                  have HWL := Lib.hid hWL
                  have HGVe6 := Lib.hid hgV
                  have HRVe6 := Lib.hid hrsV
                  have HNVe6 := Lib.hid hnV
                  have HSVe6 := Lib.hid hseV
                  have HTVe6 := Lib.hid hstV
                  obtain ⟨c0, -⟩ := HCS.out _ _ _ hgV
                  clear hWL hrsV hnV hseV hstV
                  go_wp2_with (refine wpList_row_on (by rfl) 23 _ rfl w.heap.size rfl 23 _ _ _ hgV Try.underlying23 rfl HI.out ?_)
                  refine (HIN.out _ _).mono ?_
                  rintro e w9 ⟨rfl, rfl⟩
                  rw [HWL.out]
                  have hl1' : WLe6.heap[Wd.heap.size]? = some (.cells (GC g) 23 (0, 0)) := by rw [HCG.out]; exact hl1
                  have HL1 := Lib.hid hl1'
                  have HL2 := Lib.hid hl2
                  clear HWL hgV c0 hl1 hl1' hl2
                  go_wp2
                  refine (wpIn_wide (n := 8)).1 (wpIn_rangeT1 rfl (by omega) (gf := 38) (lb := #[.pointer (some ⟨Wd.heap.size + 1, 0, none⟩), .pointer (some ⟨Wd.heap.size, 0, none⟩)]) rfl trivial (enters_of Try.func38 (by kernel_rfl) rfl)
                    (gin1_T 7 (by omega) (Wd.heap.size + 1) Wd.heap.size g HSM.out (-1) WLe6 HL2.out HL1.out) (Below.refl _ _) (fun _ => rfl)
                    [] (by simp) (by simp)
                    (fun pre W => Only [] WLe6 W) (fun _ _ _ => False)
                    (AbT.only (Nat.le_refl _) (by simp)) (fun _ => AbT.pure _ _ _) (Only.refl _ _) ?fre6 ?assigne6 ?bodye6 ?donee6 ?stope6)
                  case assigne6 =>
                    intro r pre x W K2 _ hI hK2
                    have HK2 := Lib.hid hK2
                    clear hK2
                    gi_wp2
                    exact HK2.out W (Only.refl _ _)
                  case bodye6 =>
                    rintro r pre x W hr _ hO2 hlen hsp
                    rw [show zonesOf g (-1) = [] from if_neg (by omega)] at hsp
                    exact absurd hsp (by simp)
                  case stope6 =>
                    rintro D cx pre W hD - h
                    exact h.elim
                  case donee6 =>
                    rintro D4 ys We hDe6 - hOe6 hKe6
                    have hOae6 : Only [] Wd We := hOLe6.trans hOe6
                    have zNe6 := hOe6.size
                    have hgV := hOae6.get HGVe6.out (by simp)
                    have hrsV := hOae6.get HRVe6.out (by simp)
                    have hnV := hOae6.get HNVe6.out (by simp)
                    have hseV := hOae6.get HSVe6.out (by simp)
                    have hstV := hOae6.get HTVe6.out (by simp)
                    obtain ⟨c0, c1, -⟩ := HCS.out _ _ _ hgV
                    have hc1 := cell_of_one hnV
                    have hc2 := cell_of_one hseV
                    have hc3 := cell_of_one hrsV
                    have hf3 := free_of_one hrsV
                    have hc4 := cell_of_one hstV
                    have HRZ := Lib.hid hrsV
                    have hKD3 := hOae6.get hKe5 (by simp)
                    have hKD2 := hOae6.get (hOae5.get HKD.out (by simp)) (by simp)
                    have hKDs : ∀ E ∈ ds, We.heap[E]? = some (.deferred (some [])) := fun E hE => hOae6.get (hOae5.get (HDV.out E hE).2 (by simp)) (by simp)
                    have HKS : Hid (∀ E ∈ D4 :: D3 :: D2 :: ds, We.heap[E]? = some (.deferred (some []))) := Lib.hid (by
                      intro E hE
                      simp only [List.mem_cons] at hE
                      rcases hE with e | e | e | e
                      · rw [e]; exact hKe6
                      · rw [e]; exact hKD3
                      · rw [e]; exact hKD2
                      · exact hKDs E e)
                    have hlt3 := (Array.getElem?_eq_some_iff.1 hKe5).1
                    have HND : Hid ((D4 :: D3 :: D2 :: ds).Nodup) := Lib.hid (by
                      have hx : ∀ E ∈ ds, E < wr.heap.size := fun E hE => (Array.getElem?_eq_some_iff.1 (HDS.out E hE).2).1
                      refine List.nodup_cons.2 ⟨fun hm => ?_, List.nodup_cons.2 ⟨fun hm => ?_, List.nodup_cons.2 ⟨fun hm => ?_, hnd⟩⟩⟩
                      · simp only [List.mem_cons] at hm
                        rcases hm with e | e | e
                        · omega
                        · omega
                        · have := hx _ e; omega
                      · simp only [List.mem_cons] at hm
                        rcases hm with e | e
                        · omega
                        · have := hx _ e; omega
                      · have := hx _ hm; omega)
                    have hOwe : Only [w2.heap.size] w We := (hOwc.trans (hOae5.mono (by simp))).trans (hOae6.mono (by simp))
                    have hDge : ∀ E ∈ D4 :: D3 :: D2 :: ds, W3.heap.size ≤ E := by
                      intro E hE
                      simp only [List.mem_cons] at hE
                      rcases hE with e | e | e | e
                      · omega
                      · omega
                      · omega
                      · exact (HDS.out E e).1
                    clear hgV hnV hseV hrsV hstV hKD3 hKD2 hKDs hKe5 hKe6
                    have t9 : (g.z == g.z) = true := by simp
                    go_wp2
                    refine leave_marks (v := .bool true) (D4 :: D3 :: D2 :: ds) _ HND.out (fun E hE => ?_) ?_
                    · exact ((Only.refl [w.heap.size + 1 + 1] We).setCell (.inl (by simp)) _).get (HKS.out E hE) (by have := hDge E hE; simp; omega)
                    · intro W' hO'
                      have hr' := hO'.get (one_setCell HRZ.out) (fun hm => by have := hDge _ hm; omega)
                      have hc' := cell_of_one hr'
                      refine ⟨by simp [results, Try.results6, go_sem, hc'], rfl, ?_⟩
                      have h7 : Only [w2.heap.size, w.heap.size + 1 + 1] w (We.setCell ⟨w.heap.size + 1 + 1, 0, none⟩ (.bool true)) := (hOwe.mono (by simp)).setCell (.inl (by simp)) _
                      exact (h7.below (B := w.heap.size) (by simp; omega) (Nat.le_refl _)).trans (hO'.below (B := w.heap.size) (fun E hE => by have := hDge E hE; omega) (by simp; omega))

              case stopm2 =>
                rintro D2 cx pre Wc hD2 - ⟨rfl, hse, hO2⟩ hKD
                refine wpIn_wide.2 ?_
                have hOc : Only [wb.heap.size] wb Wc := (hOLb.mono (by simp)).trans hO2
                have hgb := hObw.get HG.out (by simp)
                have hrsb := hObw.get HR.out (by simp)
                have hnb := hObw.get HN.out (by simp)
                have hstb := hObw.get HT.out (by simp)
                have hgV := hOc.get hgb (by simp; omega)
                have hrsV := hOc.get hrsb (by simp; omega)
                have hnV := hOc.get hnb (by simp; omega)
                have hstV := hOc.get hstb (by simp; omega)
                have hseV := hse
                have hdsV : ∀ E ∈ ds, W3.heap.size ≤ E ∧ Wc.heap[E]? = some (.deferred (some [])) := fun E hE => ⟨(HDS.out E hE).1, hOc.get (hObw.get (HDS.out E hE).2 (by simp)) (by have := (Array.getElem?_eq_some_iff.1 (HDS.out E hE).2).1; simp; omega)⟩
                have HDV := Lib.hid hdsV
                have HKD := Lib.hid hKD
                have hOwc : Only [w2.heap.size] w Wc := (hOw.trans (hObw.mono (by simp))).trans' hOc (by simp; omega)
                have zc := (Array.getElem?_eq_some_iff.1 hKD).1
                have zbc := hOc.size
                clear hgb hrsb hnb hstb hse hOc hdsV hKD
                obtain ⟨WLe7, hWL⟩ : ∃ WL, (Wc.alloc (.cells C 23)).alloc (.cells #[.int .i64 g.d] 3) = WL := ⟨_, rfl⟩
                have hOLe7 : Only [] Wc WLe7 := by rw [← hWL]; exact ((Only.refl [] Wc).alloc _).alloc _
                have zLe7 := Nat.le_antisymm_iff.1 (show WLe7.heap.size = Wc.heap.size + 1 + 1 by rw [← hWL]; simp)
                have hl1 : WLe7.heap[Wc.heap.size]? = some (.cells C 23 (0, 0)) := by rw [← hWL]; (repeat (first | exact alloc_new _ _ (by first | (simp only [World.size_alloc]; done) | (simp only [World.size_alloc]; omega) | with_reducible rfl) | refine (alloc_old _ _ (by (try simp only [World.size_alloc]); omega)).trans ?_))
                have hl2 : WLe7.heap[Wc.heap.size + 1]? = some (.cells #[.int .i64 g.d] 3 (0, 0)) := by rw [← hWL]; (repeat (first | exact alloc_new _ _ (by first | (simp only [World.size_alloc]; done) | (simp only [World.size_alloc]; omega) | with_reducible rfl) | refine (alloc_old _ _ (by (try simp only [World.size_alloc]); omega)).trans ?_))
                have HWL := Lib.hid hWL
                have HGVe7 := Lib.hid hgV
                have HRVe7 := Lib.hid hrsV
                have HNVe7 := Lib.hid hnV
                have HSVe7 := Lib.hid hseV
                have HTVe7 := Lib.hid hstV
                obtain ⟨c0, -⟩ := HCS.out _ _ _ hgV
                clear hWL hrsV hnV hseV hstV
                go_wp2_with (refine wpList_row_on (by rfl) 23 _ rfl w.heap.size rfl 23 _ _ _ hgV Try.underlying23 rfl HI.out ?_)
                refine (HIN.out _ _).mono ?_
                rintro e w9 ⟨rfl, rfl⟩
                rw [HWL.out]
                have hl1' : WLe7.heap[Wc.heap.size]? = some (.cells (GC g) 23 (0, 0)) := by rw [HCG.out]; exact hl1
                have HL1 := Lib.hid hl1'
                have HL2 := Lib.hid hl2
                clear HWL hgV c0 hl1 hl1' hl2
                go_wp2
                refine (wpIn_wide (n := 8)).1 (wpIn_rangeT1 rfl (by omega) (gf := 38) (lb := #[.pointer (some ⟨Wc.heap.size + 1, 0, none⟩), .pointer (some ⟨Wc.heap.size, 0, none⟩)]) rfl trivial (enters_of Try.func38 (by kernel_rfl) rfl)
                  (gin1_T 7 (by omega) (Wc.heap.size + 1) Wc.heap.size g HSM.out g.d WLe7 HL2.out HL1.out) (Below.refl _ _) (fun _ => rfl)
                  [] (by simp) (by simp)
                  (fun pre W => Only [] WLe7 W) (fun _ _ _ => False)
                  (AbT.only (Nat.le_refl _) (by simp)) (fun _ => AbT.pure _ _ _) (Only.refl _ _) ?fre7 ?assigne7 ?bodye7 ?donee7 ?stope7)
                case assigne7 =>
                  intro r pre x W K2 _ hI hK2
                  have HK2 := Lib.hid hK2
                  clear hK2
                  gi_wp2
                  exact HK2.out W (Only.refl _ _)
                case bodye7 =>
                  rintro r pre x W hr _ hO2 hlen hsp
                  rw [show zonesOf g g.d = [] from if_neg (by omega)] at hsp
                  exact absurd hsp (by simp)
                case stope7 =>
                  rintro D cx pre W hD - h
                  exact h.elim
                case donee7 =>
                  rintro D3 ys Wd hDe7 - hOe7 hKe7
                  have hOae7 : Only [] Wc Wd := hOLe7.trans hOe7
                  have zNe7 := hOe7.size
                  have hgV := hOae7.get HGVe7.out (by simp)
                  have hrsV := hOae7.get HRVe7.out (by simp)
                  have hnV := hOae7.get HNVe7.out (by simp)
                  have hseV := hOae7.get HSVe7.out (by simp)
                  have hstV := hOae7.get HTVe7.out (by simp)
                  obtain ⟨WLe8, hWL⟩ : ∃ WL, (Wd.alloc (.cells C 23)).alloc (.cells #[.int .i64 (-1)] 3) = WL := ⟨_, rfl⟩
                  have hOLe8 : Only [] Wd WLe8 := by rw [← hWL]; exact ((Only.refl [] Wd).alloc _).alloc _
                  have zLe8 := Nat.le_antisymm_iff.1 (show WLe8.heap.size = Wd.heap.size + 1 + 1 by rw [← hWL]; simp)
                  have hl1 : WLe8.heap[Wd.heap.size]? = some (.cells C 23 (0, 0)) := by rw [← hWL]; (repeat (first | exact alloc_new _ _ (by first | (simp only [World.size_alloc]; done) | (simp only [World.size_alloc]; omega) | with_reducible rfl) | refine (alloc_old _ _ (by (try simp only [World.size_alloc]); omega)).trans ?_))
                  have hl2 : WLe8.heap[Wd.heap.size + 1]? = some (.cells #[.int .i64 (-1)] 3 (0, 0)) := by rw [← hWL]; (repeat (first | exact alloc_new _ _ (by first | (simp only [World.size_alloc]; done) | (simp only [World.size_alloc]; omega) | with_reducible rfl) | refine (alloc_old _ _ (by (try simp only [World.size_alloc]); omega)).trans ?_))
                  have HWL := Lib.hid hWL
                  have HGVe8 := Lib.hid hgV
                  have HRVe8 := Lib.hid hrsV
                  have HNVe8 := Lib.hid hnV
                  have HSVe8 := Lib.hid hseV
                  have HTVe8 := Lib.hid hstV
                  obtain ⟨c0, -⟩ := HCS.out _ _ _ hgV
                  clear hWL hrsV hnV hseV hstV
                  go_wp2_with (refine wpList_row_on (by rfl) 23 _ rfl w.heap.size rfl 23 _ _ _ hgV Try.underlying23 rfl HI.out ?_)
                  refine (HIN.out _ _).mono ?_
                  rintro e w9 ⟨rfl, rfl⟩
                  rw [HWL.out]
                  have hl1' : WLe8.heap[Wd.heap.size]? = some (.cells (GC g) 23 (0, 0)) := by rw [HCG.out]; exact hl1
                  have HL1 := Lib.hid hl1'
                  have HL2 := Lib.hid hl2
                  clear HWL hgV c0 hl1 hl1' hl2
                  go_wp2
                  refine (wpIn_wide (n := 8)).1 (wpIn_rangeT1 rfl (by omega) (gf := 38) (lb := #[.pointer (some ⟨Wd.heap.size + 1, 0, none⟩), .pointer (some ⟨Wd.heap.size, 0, none⟩)]) rfl trivial (enters_of Try.func38 (by kernel_rfl) rfl)
                    (gin1_T 7 (by omega) (Wd.heap.size + 1) Wd.heap.size g HSM.out (-1) WLe8 HL2.out HL1.out) (Below.refl _ _) (fun _ => rfl)
                    [] (by simp) (by simp)
                    (fun pre W => Only [] WLe8 W) (fun _ _ _ => False)
                    (AbT.only (Nat.le_refl _) (by simp)) (fun _ => AbT.pure _ _ _) (Only.refl _ _) ?fre8 ?assigne8 ?bodye8 ?donee8 ?stope8)
                  case assigne8 =>
                    intro r pre x W K2 _ hI hK2
                    have HK2 := Lib.hid hK2
                    clear hK2
                    gi_wp2
                    exact HK2.out W (Only.refl _ _)
                  case bodye8 =>
                    rintro r pre x W hr _ hO2 hlen hsp
                    rw [show zonesOf g (-1) = [] from if_neg (by omega)] at hsp
                    exact absurd hsp (by simp)
                  case stope8 =>
                    rintro D cx pre W hD - h
                    exact h.elim
                  case donee8 =>
                    rintro D4 ys We hDe8 - hOe8 hKe8
                    have hOae8 : Only [] Wd We := hOLe8.trans hOe8
                    have zNe8 := hOe8.size
                    have hgV := hOae8.get HGVe8.out (by simp)
                    have hrsV := hOae8.get HRVe8.out (by simp)
                    have hnV := hOae8.get HNVe8.out (by simp)
                    have hseV := hOae8.get HSVe8.out (by simp)
                    have hstV := hOae8.get HTVe8.out (by simp)
                    obtain ⟨c0, c1, -⟩ := HCS.out _ _ _ hgV
                    have hc1 := cell_of_one hnV
                    have hc2 := cell_of_one hseV
                    have hc3 := cell_of_one hrsV
                    have hf3 := free_of_one hrsV
                    have hc4 := cell_of_one hstV
                    have HRZ := Lib.hid hrsV
                    have hKD3 := hOae8.get hKe7 (by simp)
                    have hKD2 := hOae8.get (hOae7.get HKD.out (by simp)) (by simp)
                    have hKDs : ∀ E ∈ ds, We.heap[E]? = some (.deferred (some [])) := fun E hE => hOae8.get (hOae7.get (HDV.out E hE).2 (by simp)) (by simp)
                    have HKS : Hid (∀ E ∈ D4 :: D3 :: D2 :: ds, We.heap[E]? = some (.deferred (some []))) := Lib.hid (by
                      intro E hE
                      simp only [List.mem_cons] at hE
                      rcases hE with e | e | e | e
                      · rw [e]; exact hKe8
                      · rw [e]; exact hKD3
                      · rw [e]; exact hKD2
                      · exact hKDs E e)
                    have hlt3 := (Array.getElem?_eq_some_iff.1 hKe7).1
                    have HND : Hid ((D4 :: D3 :: D2 :: ds).Nodup) := Lib.hid (by
                      have hx : ∀ E ∈ ds, E < wr.heap.size := fun E hE => (Array.getElem?_eq_some_iff.1 (HDS.out E hE).2).1
                      refine List.nodup_cons.2 ⟨fun hm => ?_, List.nodup_cons.2 ⟨fun hm => ?_, List.nodup_cons.2 ⟨fun hm => ?_, hnd⟩⟩⟩
                      · simp only [List.mem_cons] at hm
                        rcases hm with e | e | e
                        · omega
                        · omega
                        · have := hx _ e; omega
                      · simp only [List.mem_cons] at hm
                        rcases hm with e | e
                        · omega
                        · have := hx _ e; omega
                      · have := hx _ hm; omega)
                    have hOwe : Only [w2.heap.size] w We := (hOwc.trans (hOae7.mono (by simp))).trans (hOae8.mono (by simp))
                    have hDge : ∀ E ∈ D4 :: D3 :: D2 :: ds, W3.heap.size ≤ E := by
                      intro E hE
                      simp only [List.mem_cons] at hE
                      rcases hE with e | e | e | e
                      · omega
                      · omega
                      · omega
                      · exact (HDS.out E e).1
                    clear hgV hnV hseV hrsV hstV hKD3 hKD2 hKDs hKe7 hKe8
                    by_cases hsz : stop = g.z
                    · subst hsz
                      have t9 : (g.z == g.z) = true := by simp
                      go_wp2
                      refine leave_marks (v := .bool true) (D4 :: D3 :: D2 :: ds) _ HND.out (fun E hE => ?_) ?_
                      · exact ((Only.refl [w.heap.size + 1 + 1] We).setCell (.inl (by simp)) _).get (HKS.out E hE) (by have := hDge E hE; simp; omega)
                      · intro W' hO'
                        have hr' := hO'.get (one_setCell HRZ.out) (fun hm => by have := hDge _ hm; omega)
                        have hc' := cell_of_one hr'
                        refine ⟨by simp [results, Try.results6, go_sem, hc'], rfl, ?_⟩
                        have h7 : Only [w2.heap.size, w.heap.size + 1 + 1] w (We.setCell ⟨w.heap.size + 1 + 1, 0, none⟩ (.bool true)) := (hOwe.mono (by simp)).setCell (.inl (by simp)) _
                        exact (h7.below (B := w.heap.size) (by simp; omega) (Nat.le_refl _)).trans (hO'.below (B := w.heap.size) (fun E hE => by have := hDge E hE; omega) (by simp; omega))
                    · have t9 : (stop == g.z) = false := by simpa using hsz
                      go_wp2
                      refine leave_marks (v := .bool true) (D4 :: D3 :: D2 :: ds) _ HND.out (fun E hE => ?_) ?_
                      · exact ((Only.refl [w.heap.size + 1 + 1] We).setCell (.inl (by simp)) _).get (HKS.out E hE) (by have := hDge E hE; simp; omega)
                      · intro W' hO'
                        have hr' := hO'.get (one_setCell HRZ.out) (fun hm => by have := hDge _ hm; omega)
                        have hc' := cell_of_one hr'
                        refine ⟨by simp [results, Try.results6, go_sem, hc'], rfl, ?_⟩
                        have h7 : Only [w2.heap.size, w.heap.size + 1 + 1] w (We.setCell ⟨w.heap.size + 1 + 1, 0, none⟩ (.bool true)) := (hOwe.mono (by simp)).setCell (.inl (by simp)) _
                        exact (h7.below (B := w.heap.size) (by simp; omega) (Nat.le_refl _)).trans (hO'.below (B := w.heap.size) (fun E hE => by have := hDge E hE; omega) (by simp; omega))
          · have t3 : decide (0 ≤ off) = false := decide_eq_false h3
            have hhv : holdsG g zone off = false := by rw [HHH.out, i1, hin off 0 (g.s - 1) (by omega)]; rfl
            have t5 : (zone / g.z == -1) = false := by rw [beq_eq_false_iff_ne]; omega
            generalize zone / g.z = zq at *
            have HH : Hid (∀ W, Calls Try.prog 21 #[.agg C, .int .i64 zone, .int .i64 off] W fun e w' => e = .returned (.bool false) ∧ Below W.heap.size W w') := Lib.hid (fun W => by have := HHO.out W; rwa [hhv] at this)
            have HD : Hid (∀ W, Calls Try.prog 23 #[.agg C, .int .i64 zone] W fun e w' => e = .returned (.int .i64 (zq)) ∧ Below W.heap.size W w') := Lib.hid (fun W => by have := HDM.out zone W; rwa [hdv] at this)
            clear hhv hdv
            obtain ⟨c0, c1, c2, -⟩ := HCS.out _ _ _ hg
            go_wp2_with (refine wpList_row_on (by rfl) 23 _ rfl w.heap.size rfl 23 _ _ _ hg Try.underlying23 rfl HI.out ?_)
            refine (HH.out _).mono ?_
            rintro e wa ⟨rfl, hBa⟩
            have hga := (hBa.block w.heap.size (by omega)).trans hg
            obtain ⟨-, -, c2, -⟩ := HCS.out _ _ _ hga
            have za := hBa.size
            clear c0 c1
            go_wp2_with (refine wpList_row_on (by rfl) 23 _ rfl w.heap.size rfl 23 _ _ _ hga Try.underlying23 rfl HI.out ?_)
            refine (HD.out _).mono ?_
            rintro e wb ⟨rfl, hBb⟩
            have zb := hBb.size
            have hObw : Only [] wr wb := (Only.of_below hBa).trans (Only.of_below hBb)
            obtain ⟨WS, hWS⟩ : ∃ WS, wb.alloc (.cells #[.int .i64 0] 3) = WS := ⟨_, rfl⟩
            have hOs : Only [] wb WS := by rw [← hWS]; exact (Only.refl [] wb).alloc _
            have hgS := hOs.get (hObw.get hg (by simp)) (by simp)
            have zS := Nat.le_antisymm_iff.1 (show WS.heap.size = wb.heap.size + 1 by rw [← hWS]; simp)
            have hsS : WS.heap[wb.heap.size]? = some (.cells #[.int .i64 0] 3 (0, 0)) := by rw [← hWS]; exact heap_alloc_new wb _
            obtain ⟨WL, hWL⟩ : ∃ WL, (WS.alloc (.cells C 23)).alloc (.cells #[.int .i64 0] 3) = WL := ⟨_, rfl⟩
            have hOL : Only [] WS WL := by rw [← hWL]; exact ((Only.refl [] WS).alloc _).alloc _
            have zL := Nat.le_antisymm_iff.1 (show WL.heap.size = WS.heap.size + 1 + 1 by rw [← hWL]; simp)
            have hl1 : WL.heap[WS.heap.size]? = some (.cells C 23 (0, 0)) := by rw [← hWL]; (repeat (first | exact alloc_new _ _ (by first | (simp only [World.size_alloc]; done) | (simp only [World.size_alloc]; omega) | with_reducible rfl) | refine (alloc_old _ _ (by (try simp only [World.size_alloc]); omega)).trans ?_))
            have hl2 : WL.heap[WS.heap.size + 1]? = some (.cells #[.int .i64 0] 3 (0, 0)) := by rw [← hWL]; (repeat (first | exact alloc_new _ _ (by first | (simp only [World.size_alloc]; done) | (simp only [World.size_alloc]; omega) | with_reducible rfl) | refine (alloc_old _ _ (by (try simp only [World.size_alloc]); omega)).trans ?_))
            have HWS := Lib.hid hWS
            have HWL := Lib.hid hWL
            clear hWS hWL c2 hga
            go_upto_region 19 with (fail)
            rw [HWS.out]
            go_wp2_with (refine wpList_row_on (by rfl) 23 _ rfl w.heap.size rfl 23 _ _ _ hgS Try.underlying23 rfl HI.out ?_)
            refine (HIN.out _ _).mono ?_
            rintro e w9 ⟨rfl, rfl⟩
            rw [HWL.out]
            clear HWL HWS
            have hl1' : WL.heap[WS.heap.size]? = some (.cells (GC g) 23 (0, 0)) := by rw [HCG.out]; exact hl1
            have hsL := hOL.get hsS (by simp)
            have hOLb : Only [] wb WL := hOs.trans hOL
            have hgb := hOLb.get (hObw.get hg (by simp)) (by simp)
            have hrsb := hOLb.get (hObw.get hrs (by simp)) (by simp)
            have hnb := hOLb.get (hObw.get hn (by simp)) (by simp)
            have hstb := hOLb.get (hObw.get hst (by simp)) (by simp)
            have HL1 := Lib.hid hl1'
            have HL2 := Lib.hid hl2
            have HSL := Lib.hid hsL
            have HGB := Lib.hid hgb
            have HRB := Lib.hid hrsb
            have HNB := Lib.hid hnb
            have HTB := Lib.hid hstb
            clear hg hrs hn hst hgS hsS hl1 hl1' hl2 hsL hgb hrsb hnb hstb
            go_wp2
            refine (wpIn_wide (n := 8)).1 (wpIn_rangeT1 rfl (by omega) (gf := 38) (lb := #[.pointer (some ⟨WS.heap.size + 1, 0, none⟩), .pointer (some ⟨WS.heap.size, 0, none⟩)]) rfl trivial (enters_of Try.func38 (by kernel_rfl) rfl)
              (gin1_T 7 (by omega) (WS.heap.size + 1) WS.heap.size g HSM.out 0 WL HL2.out HL1.out) (Below.refl _ _) (fun _ => rfl)
              [wb.heap.size] (by simp; omega) (by simp)
              (fun pre W => W.heap[wb.heap.size]? = some (.cells #[.int .i64 (pre.length : Nat)] 3 (0, 0)) ∧ Only [wb.heap.size] WL W)
              (fun cx _ W => cx = .exit 4 ∧ W.heap[wb.heap.size]? = some (.cells #[.int .i64 stop] 3 (0, 0)) ∧ Only [wb.heap.size] WL W)
              ((AbT.row (b := wb.heap.size) (fun (pre : List Int) => #[.int .i64 (pre.length : Nat)]) (by simp)).and (AbT.only (Nat.le_refl _) (by simp)))
              (fun cx => (AbT.pure _ _ (fun _ => cx = .exit 4)).and ((AbT.row (b := wb.heap.size) (fun (_ : List Int) => #[.int .i64 stop]) (by simp)).and (AbT.only (Nat.le_refl _) (by simp)))) ⟨HSL.out, Only.refl _ _⟩ ?frm3 ?assignm3 ?bodym3 ?donem3 ?stopm3)
            case assignm3 =>
              intro r pre x W K2 _ hI hK2
              have HK2 := Lib.hid hK2
              clear hK2
              gi_wp2
              exact HK2.out W (Only.refl _ _)
            case bodym3 =>
              rintro r pre x W hr _ ⟨hn', hO2⟩ hlen hsp
              have hcn2 := cell_of_one hn'
              have hfn2 := free_of_one hn'
              have hcs2 := cell_of_one (hO2.get HTB.out (by simp; omega))
              have HN2 := Lib.hid hn'
              have HO2 := Lib.hid hO2
              have hp : (pre.length : Int) < 64 := by omega
              clear hn' hO2 hsp hlen
              by_cases hsx : (pre.length : Int) + 1 = stop
              · have t7 : ((pre.length : Int) + 1 == stop) = true := by simpa using hsx
                gi_wp2
                exact ⟨(Only.refl _ _).setCell (.inl (by simp)) _, rfl, one_setCell HN2.out, HO2.out.setCell (.inl (by simp)) _⟩
              · have t7 : ((pre.length : Int) + 1 == stop) = false := by simpa using hsx
                gi_wp2
                exact ⟨(Only.refl _ _).setCell (.inl (by simp)) _, by rw [List.length_append, List.length_singleton]; exact one_setCell HN2.out, HO2.out.setCell (.inl (by simp)) _⟩
            case donem3 =>
              rintro D2 ys Wc hD2 rfl ⟨hse, hO2⟩ hKD
              have hzo : zonesOf g 0 = zonesTo g.z 0 g.z.toNat := if_pos ⟨by omega, by omega⟩
              rw [hzo, zonesTo_length, show ((g.z.toNat : Nat) : Int) = g.z by omega] at hse
              have hOc : Only [wb.heap.size] wb Wc := (hOLb.mono (by simp)).trans hO2
              have hgb := hObw.get HG.out (by simp)
              have hrsb := hObw.get HR.out (by simp)
              have hnb := hObw.get HN.out (by simp)
              have hstb := hObw.get HT.out (by simp)
              have hgV := hOc.get hgb (by simp; omega)
              have hrsV := hOc.get hrsb (by simp; omega)
              have hnV := hOc.get hnb (by simp; omega)
              have hstV := hOc.get hstb (by simp; omega)
              have hseV := hse
              have hdsV : ∀ E ∈ ds, W3.heap.size ≤ E ∧ Wc.heap[E]? = some (.deferred (some [])) := fun E hE => ⟨(HDS.out E hE).1, hOc.get (hObw.get (HDS.out E hE).2 (by simp)) (by have := (Array.getElem?_eq_some_iff.1 (HDS.out E hE).2).1; simp; omega)⟩
              have HDV := Lib.hid hdsV
              have HKD := Lib.hid hKD
              have hOwc : Only [w2.heap.size] w Wc := (hOw.trans (hObw.mono (by simp))).trans' hOc (by simp; omega)
              have zc := (Array.getElem?_eq_some_iff.1 hKD).1
              have zbc := hOc.size
              clear hgb hrsb hnb hstb hse hOc hdsV hKD
              obtain ⟨WLe9, hWL⟩ : ∃ WL, (Wc.alloc (.cells C 23)).alloc (.cells #[.int .i64 g.d] 3) = WL := ⟨_, rfl⟩
              have hOLe9 : Only [] Wc WLe9 := by rw [← hWL]; exact ((Only.refl [] Wc).alloc _).alloc _
              have zLe9 := Nat.le_antisymm_iff.1 (show WLe9.heap.size = Wc.heap.size + 1 + 1 by rw [← hWL]; simp)
              have hl1 : WLe9.heap[Wc.heap.size]? = some (.cells C 23 (0, 0)) := by rw [← hWL]; (repeat (first | exact alloc_new _ _ (by first | (simp only [World.size_alloc]; done) | (simp only [World.size_alloc]; omega) | with_reducible rfl) | refine (alloc_old _ _ (by (try simp only [World.size_alloc]); omega)).trans ?_))
              have hl2 : WLe9.heap[Wc.heap.size + 1]? = some (.cells #[.int .i64 g.d] 3 (0, 0)) := by rw [← hWL]; (repeat (first | exact alloc_new _ _ (by first | (simp only [World.size_alloc]; done) | (simp only [World.size_alloc]; omega) | with_reducible rfl) | refine (alloc_old _ _ (by (try simp only [World.size_alloc]); omega)).trans ?_))
              have HWL := Lib.hid hWL
              have HGVe9 := Lib.hid hgV
              have HRVe9 := Lib.hid hrsV
              have HNVe9 := Lib.hid hnV
              have HSVe9 := Lib.hid hseV
              have HTVe9 := Lib.hid hstV
              obtain ⟨c0, -⟩ := HCS.out _ _ _ hgV
              clear hWL hrsV hnV hseV hstV
              go_wp2_with (refine wpList_row_on (by rfl) 23 _ rfl w.heap.size rfl 23 _ _ _ hgV Try.underlying23 rfl HI.out ?_)
              refine (HIN.out _ _).mono ?_
              rintro e w9 ⟨rfl, rfl⟩
              rw [HWL.out]
              have hl1' : WLe9.heap[Wc.heap.size]? = some (.cells (GC g) 23 (0, 0)) := by rw [HCG.out]; exact hl1
              have HL1 := Lib.hid hl1'
              have HL2 := Lib.hid hl2
              clear HWL hgV c0 hl1 hl1' hl2
              go_wp2
              refine (wpIn_wide (n := 8)).1 (wpIn_rangeT1 rfl (by omega) (gf := 38) (lb := #[.pointer (some ⟨Wc.heap.size + 1, 0, none⟩), .pointer (some ⟨Wc.heap.size, 0, none⟩)]) rfl trivial (enters_of Try.func38 (by kernel_rfl) rfl)
                (gin1_T 7 (by omega) (Wc.heap.size + 1) Wc.heap.size g HSM.out g.d WLe9 HL2.out HL1.out) (Below.refl _ _) (fun _ => rfl)
                [] (by simp) (by simp)
                (fun pre W => Only [] WLe9 W) (fun _ _ _ => False)
                (AbT.only (Nat.le_refl _) (by simp)) (fun _ => AbT.pure _ _ _) (Only.refl _ _) ?fre9 ?assigne9 ?bodye9 ?donee9 ?stope9)
              case assigne9 =>
                intro r pre x W K2 _ hI hK2
                have HK2 := Lib.hid hK2
                clear hK2
                gi_wp2
                exact HK2.out W (Only.refl _ _)
              case bodye9 =>
                rintro r pre x W hr _ hO2 hlen hsp
                rw [show zonesOf g g.d = [] from if_neg (by omega)] at hsp
                exact absurd hsp (by simp)
              case stope9 =>
                rintro D cx pre W hD - h
                exact h.elim
              case donee9 =>
                rintro D3 ys Wd hDe9 - hOe9 hKe9
                have hOae9 : Only [] Wc Wd := hOLe9.trans hOe9
                have zNe9 := hOe9.size
                have hgV := hOae9.get HGVe9.out (by simp)
                have hrsV := hOae9.get HRVe9.out (by simp)
                have hnV := hOae9.get HNVe9.out (by simp)
                have hseV := hOae9.get HSVe9.out (by simp)
                have hstV := hOae9.get HTVe9.out (by simp)
                obtain ⟨WLe10, hWL⟩ : ∃ WL, (Wd.alloc (.cells C 23)).alloc (.cells #[.int .i64 (-1)] 3) = WL := ⟨_, rfl⟩
                have hOLe10 : Only [] Wd WLe10 := by rw [← hWL]; exact ((Only.refl [] Wd).alloc _).alloc _
                have zLe10 := Nat.le_antisymm_iff.1 (show WLe10.heap.size = Wd.heap.size + 1 + 1 by rw [← hWL]; simp)
                have hl1 : WLe10.heap[Wd.heap.size]? = some (.cells C 23 (0, 0)) := by rw [← hWL]; (repeat (first | exact alloc_new _ _ (by first | (simp only [World.size_alloc]; done) | (simp only [World.size_alloc]; omega) | with_reducible rfl) | refine (alloc_old _ _ (by (try simp only [World.size_alloc]); omega)).trans ?_))
                have hl2 : WLe10.heap[Wd.heap.size + 1]? = some (.cells #[.int .i64 (-1)] 3 (0, 0)) := by rw [← hWL]; (repeat (first | exact alloc_new _ _ (by first | (simp only [World.size_alloc]; done) | (simp only [World.size_alloc]; omega) | with_reducible rfl) | refine (alloc_old _ _ (by (try simp only [World.size_alloc]); omega)).trans ?_))
                have HWL := Lib.hid hWL
                have HGVe10 := Lib.hid hgV
                have HRVe10 := Lib.hid hrsV
                have HNVe10 := Lib.hid hnV
                have HSVe10 := Lib.hid hseV
                have HTVe10 := Lib.hid hstV
                obtain ⟨c0, -⟩ := HCS.out _ _ _ hgV
                clear hWL hrsV hnV hseV hstV
                go_wp2_with (refine wpList_row_on (by rfl) 23 _ rfl w.heap.size rfl 23 _ _ _ hgV Try.underlying23 rfl HI.out ?_)
                refine (HIN.out _ _).mono ?_
                rintro e w9 ⟨rfl, rfl⟩
                rw [HWL.out]
                have hl1' : WLe10.heap[Wd.heap.size]? = some (.cells (GC g) 23 (0, 0)) := by rw [HCG.out]; exact hl1
                have HL1 := Lib.hid hl1'
                have HL2 := Lib.hid hl2
                clear HWL hgV c0 hl1 hl1' hl2
                go_wp2
                refine (wpIn_wide (n := 8)).1 (wpIn_rangeT1 rfl (by omega) (gf := 38) (lb := #[.pointer (some ⟨Wd.heap.size + 1, 0, none⟩), .pointer (some ⟨Wd.heap.size, 0, none⟩)]) rfl trivial (enters_of Try.func38 (by kernel_rfl) rfl)
                  (gin1_T 7 (by omega) (Wd.heap.size + 1) Wd.heap.size g HSM.out (-1) WLe10 HL2.out HL1.out) (Below.refl _ _) (fun _ => rfl)
                  [] (by simp) (by simp)
                  (fun pre W => Only [] WLe10 W) (fun _ _ _ => False)
                  (AbT.only (Nat.le_refl _) (by simp)) (fun _ => AbT.pure _ _ _) (Only.refl _ _) ?fre10 ?assigne10 ?bodye10 ?donee10 ?stope10)
                case assigne10 =>
                  intro r pre x W K2 _ hI hK2
                  have HK2 := Lib.hid hK2
                  clear hK2
                  gi_wp2
                  exact HK2.out W (Only.refl _ _)
                case bodye10 =>
                  rintro r pre x W hr _ hO2 hlen hsp
                  rw [show zonesOf g (-1) = [] from if_neg (by omega)] at hsp
                  exact absurd hsp (by simp)
                case stope10 =>
                  rintro D cx pre W hD - h
                  exact h.elim
                case donee10 =>
                  rintro D4 ys We hDe10 - hOe10 hKe10
                  have hOae10 : Only [] Wd We := hOLe10.trans hOe10
                  have zNe10 := hOe10.size
                  have hgV := hOae10.get HGVe10.out (by simp)
                  have hrsV := hOae10.get HRVe10.out (by simp)
                  have hnV := hOae10.get HNVe10.out (by simp)
                  have hseV := hOae10.get HSVe10.out (by simp)
                  have hstV := hOae10.get HTVe10.out (by simp)
                  obtain ⟨c0, c1, -⟩ := HCS.out _ _ _ hgV
                  have hc1 := cell_of_one hnV
                  have hc2 := cell_of_one hseV
                  have hc3 := cell_of_one hrsV
                  have hf3 := free_of_one hrsV
                  have hc4 := cell_of_one hstV
                  have HRZ := Lib.hid hrsV
                  have hKD3 := hOae10.get hKe9 (by simp)
                  have hKD2 := hOae10.get (hOae9.get HKD.out (by simp)) (by simp)
                  have hKDs : ∀ E ∈ ds, We.heap[E]? = some (.deferred (some [])) := fun E hE => hOae10.get (hOae9.get (HDV.out E hE).2 (by simp)) (by simp)
                  have HKS : Hid (∀ E ∈ D4 :: D3 :: D2 :: ds, We.heap[E]? = some (.deferred (some []))) := Lib.hid (by
                    intro E hE
                    simp only [List.mem_cons] at hE
                    rcases hE with e | e | e | e
                    · rw [e]; exact hKe10
                    · rw [e]; exact hKD3
                    · rw [e]; exact hKD2
                    · exact hKDs E e)
                  have hlt3 := (Array.getElem?_eq_some_iff.1 hKe9).1
                  have HND : Hid ((D4 :: D3 :: D2 :: ds).Nodup) := Lib.hid (by
                    have hx : ∀ E ∈ ds, E < wr.heap.size := fun E hE => (Array.getElem?_eq_some_iff.1 (HDS.out E hE).2).1
                    refine List.nodup_cons.2 ⟨fun hm => ?_, List.nodup_cons.2 ⟨fun hm => ?_, List.nodup_cons.2 ⟨fun hm => ?_, hnd⟩⟩⟩
                    · simp only [List.mem_cons] at hm
                      rcases hm with e | e | e
                      · omega
                      · omega
                      · have := hx _ e; omega
                    · simp only [List.mem_cons] at hm
                      rcases hm with e | e
                      · omega
                      · have := hx _ e; omega
                    · have := hx _ hm; omega)
                  have hOwe : Only [w2.heap.size] w We := (hOwc.trans (hOae9.mono (by simp))).trans (hOae10.mono (by simp))
                  have hDge : ∀ E ∈ D4 :: D3 :: D2 :: ds, W3.heap.size ≤ E := by
                    intro E hE
                    simp only [List.mem_cons] at hE
                    rcases hE with e | e | e | e
                    · omega
                    · omega
                    · omega
                    · exact (HDS.out E e).1
                  clear hgV hnV hseV hrsV hstV hKD3 hKD2 hKDs hKe9 hKe10
                  have t9 : (g.z == g.z) = true := by simp
                  go_wp2
                  refine leave_marks (v := .bool true) (D4 :: D3 :: D2 :: ds) _ HND.out (fun E hE => ?_) ?_
                  · exact ((Only.refl [w.heap.size + 1 + 1] We).setCell (.inl (by simp)) _).get (HKS.out E hE) (by have := hDge E hE; simp; omega)
                  · intro W' hO'
                    have hr' := hO'.get (one_setCell HRZ.out) (fun hm => by have := hDge _ hm; omega)
                    have hc' := cell_of_one hr'
                    refine ⟨by simp [results, Try.results6, go_sem, hc'], rfl, ?_⟩
                    have h7 : Only [w2.heap.size, w.heap.size + 1 + 1] w (We.setCell ⟨w.heap.size + 1 + 1, 0, none⟩ (.bool true)) := (hOwe.mono (by simp)).setCell (.inl (by simp)) _
                    exact (h7.below (B := w.heap.size) (by simp; omega) (Nat.le_refl _)).trans (hO'.below (B := w.heap.size) (fun E hE => by have := hDge E hE; omega) (by simp; omega))

            case stopm3 =>
              rintro D2 cx pre Wc hD2 - ⟨rfl, hse, hO2⟩ hKD
              refine wpIn_wide.2 ?_
              have hOc : Only [wb.heap.size] wb Wc := (hOLb.mono (by simp)).trans hO2
              have hgb := hObw.get HG.out (by simp)
              have hrsb := hObw.get HR.out (by simp)
              have hnb := hObw.get HN.out (by simp)
              have hstb := hObw.get HT.out (by simp)
              have hgV := hOc.get hgb (by simp; omega)
              have hrsV := hOc.get hrsb (by simp; omega)
              have hnV := hOc.get hnb (by simp; omega)
              have hstV := hOc.get hstb (by simp; omega)
              have hseV := hse
              have hdsV : ∀ E ∈ ds, W3.heap.size ≤ E ∧ Wc.heap[E]? = some (.deferred (some [])) := fun E hE => ⟨(HDS.out E hE).1, hOc.get (hObw.get (HDS.out E hE).2 (by simp)) (by have := (Array.getElem?_eq_some_iff.1 (HDS.out E hE).2).1; simp; omega)⟩
              have HDV := Lib.hid hdsV
              have HKD := Lib.hid hKD
              have hOwc : Only [w2.heap.size] w Wc := (hOw.trans (hObw.mono (by simp))).trans' hOc (by simp; omega)
              have zc := (Array.getElem?_eq_some_iff.1 hKD).1
              have zbc := hOc.size
              clear hgb hrsb hnb hstb hse hOc hdsV hKD
              obtain ⟨WLe11, hWL⟩ : ∃ WL, (Wc.alloc (.cells C 23)).alloc (.cells #[.int .i64 g.d] 3) = WL := ⟨_, rfl⟩
              have hOLe11 : Only [] Wc WLe11 := by rw [← hWL]; exact ((Only.refl [] Wc).alloc _).alloc _
              have zLe11 := Nat.le_antisymm_iff.1 (show WLe11.heap.size = Wc.heap.size + 1 + 1 by rw [← hWL]; simp)
              have hl1 : WLe11.heap[Wc.heap.size]? = some (.cells C 23 (0, 0)) := by rw [← hWL]; (repeat (first | exact alloc_new _ _ (by first | (simp only [World.size_alloc]; done) | (simp only [World.size_alloc]; omega) | with_reducible rfl) | refine (alloc_old _ _ (by (try simp only [World.size_alloc]); omega)).trans ?_))
              have hl2 : WLe11.heap[Wc.heap.size + 1]? = some (.cells #[.int .i64 g.d] 3 (0, 0)) := by rw [← hWL]; (repeat (first | exact alloc_new _ _ (by first | (simp only [World.size_alloc]; done) | (simp only [World.size_alloc]; omega) | with_reducible rfl) | refine (alloc_old _ _ (by (try simp only [World.size_alloc]); omega)).trans ?_))
              have HWL := Lib.hid hWL
              have HGVe11 := Lib.hid hgV
              have HRVe11 := Lib.hid hrsV
              have HNVe11 := Lib.hid hnV
              have HSVe11 := Lib.hid hseV
              have HTVe11 := Lib.hid hstV
              obtain ⟨c0, -⟩ := HCS.out _ _ _ hgV
              clear hWL hrsV hnV hseV hstV
              go_wp2_with (refine wpList_row_on (by rfl) 23 _ rfl w.heap.size rfl 23 _ _ _ hgV Try.underlying23 rfl HI.out ?_)
              refine (HIN.out _ _).mono ?_
              rintro e w9 ⟨rfl, rfl⟩
              rw [HWL.out]
              have hl1' : WLe11.heap[Wc.heap.size]? = some (.cells (GC g) 23 (0, 0)) := by rw [HCG.out]; exact hl1
              have HL1 := Lib.hid hl1'
              have HL2 := Lib.hid hl2
              clear HWL hgV c0 hl1 hl1' hl2
              go_wp2
              refine (wpIn_wide (n := 8)).1 (wpIn_rangeT1 rfl (by omega) (gf := 38) (lb := #[.pointer (some ⟨Wc.heap.size + 1, 0, none⟩), .pointer (some ⟨Wc.heap.size, 0, none⟩)]) rfl trivial (enters_of Try.func38 (by kernel_rfl) rfl)
                (gin1_T 7 (by omega) (Wc.heap.size + 1) Wc.heap.size g HSM.out g.d WLe11 HL2.out HL1.out) (Below.refl _ _) (fun _ => rfl)
                [] (by simp) (by simp)
                (fun pre W => Only [] WLe11 W) (fun _ _ _ => False)
                (AbT.only (Nat.le_refl _) (by simp)) (fun _ => AbT.pure _ _ _) (Only.refl _ _) ?fre11 ?assigne11 ?bodye11 ?donee11 ?stope11)
              case assigne11 =>
                intro r pre x W K2 _ hI hK2
                have HK2 := Lib.hid hK2
                clear hK2
                gi_wp2
                exact HK2.out W (Only.refl _ _)
              case bodye11 =>
                rintro r pre x W hr _ hO2 hlen hsp
                rw [show zonesOf g g.d = [] from if_neg (by omega)] at hsp
                exact absurd hsp (by simp)
              case stope11 =>
                rintro D cx pre W hD - h
                exact h.elim
              case donee11 =>
                rintro D3 ys Wd hDe11 - hOe11 hKe11
                have hOae11 : Only [] Wc Wd := hOLe11.trans hOe11
                have zNe11 := hOe11.size
                have hgV := hOae11.get HGVe11.out (by simp)
                have hrsV := hOae11.get HRVe11.out (by simp)
                have hnV := hOae11.get HNVe11.out (by simp)
                have hseV := hOae11.get HSVe11.out (by simp)
                have hstV := hOae11.get HTVe11.out (by simp)
                obtain ⟨WLe12, hWL⟩ : ∃ WL, (Wd.alloc (.cells C 23)).alloc (.cells #[.int .i64 (-1)] 3) = WL := ⟨_, rfl⟩
                have hOLe12 : Only [] Wd WLe12 := by rw [← hWL]; exact ((Only.refl [] Wd).alloc _).alloc _
                have zLe12 := Nat.le_antisymm_iff.1 (show WLe12.heap.size = Wd.heap.size + 1 + 1 by rw [← hWL]; simp)
                have hl1 : WLe12.heap[Wd.heap.size]? = some (.cells C 23 (0, 0)) := by rw [← hWL]; (repeat (first | exact alloc_new _ _ (by first | (simp only [World.size_alloc]; done) | (simp only [World.size_alloc]; omega) | with_reducible rfl) | refine (alloc_old _ _ (by (try simp only [World.size_alloc]); omega)).trans ?_))
                have hl2 : WLe12.heap[Wd.heap.size + 1]? = some (.cells #[.int .i64 (-1)] 3 (0, 0)) := by rw [← hWL]; (repeat (first | exact alloc_new _ _ (by first | (simp only [World.size_alloc]; done) | (simp only [World.size_alloc]; omega) | with_reducible rfl) | refine (alloc_old _ _ (by (try simp only [World.size_alloc]); omega)).trans ?_))
                have HWL := Lib.hid hWL
                have HGVe12 := Lib.hid hgV
                have HRVe12 := Lib.hid hrsV
                have HNVe12 := Lib.hid hnV
                have HSVe12 := Lib.hid hseV
                have HTVe12 := Lib.hid hstV
                obtain ⟨c0, -⟩ := HCS.out _ _ _ hgV
                clear hWL hrsV hnV hseV hstV
                go_wp2_with (refine wpList_row_on (by rfl) 23 _ rfl w.heap.size rfl 23 _ _ _ hgV Try.underlying23 rfl HI.out ?_)
                refine (HIN.out _ _).mono ?_
                rintro e w9 ⟨rfl, rfl⟩
                rw [HWL.out]
                have hl1' : WLe12.heap[Wd.heap.size]? = some (.cells (GC g) 23 (0, 0)) := by rw [HCG.out]; exact hl1
                have HL1 := Lib.hid hl1'
                have HL2 := Lib.hid hl2
                clear HWL hgV c0 hl1 hl1' hl2
                go_wp2
                refine (wpIn_wide (n := 8)).1 (wpIn_rangeT1 rfl (by omega) (gf := 38) (lb := #[.pointer (some ⟨Wd.heap.size + 1, 0, none⟩), .pointer (some ⟨Wd.heap.size, 0, none⟩)]) rfl trivial (enters_of Try.func38 (by kernel_rfl) rfl)
                  (gin1_T 7 (by omega) (Wd.heap.size + 1) Wd.heap.size g HSM.out (-1) WLe12 HL2.out HL1.out) (Below.refl _ _) (fun _ => rfl)
                  [] (by simp) (by simp)
                  (fun pre W => Only [] WLe12 W) (fun _ _ _ => False)
                  (AbT.only (Nat.le_refl _) (by simp)) (fun _ => AbT.pure _ _ _) (Only.refl _ _) ?fre12 ?assigne12 ?bodye12 ?donee12 ?stope12)
                case assigne12 =>
                  intro r pre x W K2 _ hI hK2
                  have HK2 := Lib.hid hK2
                  clear hK2
                  gi_wp2
                  exact HK2.out W (Only.refl _ _)
                case bodye12 =>
                  rintro r pre x W hr _ hO2 hlen hsp
                  rw [show zonesOf g (-1) = [] from if_neg (by omega)] at hsp
                  exact absurd hsp (by simp)
                case stope12 =>
                  rintro D cx pre W hD - h
                  exact h.elim
                case donee12 =>
                  rintro D4 ys We hDe12 - hOe12 hKe12
                  have hOae12 : Only [] Wd We := hOLe12.trans hOe12
                  have zNe12 := hOe12.size
                  have hgV := hOae12.get HGVe12.out (by simp)
                  have hrsV := hOae12.get HRVe12.out (by simp)
                  have hnV := hOae12.get HNVe12.out (by simp)
                  have hseV := hOae12.get HSVe12.out (by simp)
                  have hstV := hOae12.get HTVe12.out (by simp)
                  obtain ⟨c0, c1, -⟩ := HCS.out _ _ _ hgV
                  have hc1 := cell_of_one hnV
                  have hc2 := cell_of_one hseV
                  have hc3 := cell_of_one hrsV
                  have hf3 := free_of_one hrsV
                  have hc4 := cell_of_one hstV
                  have HRZ := Lib.hid hrsV
                  have hKD3 := hOae12.get hKe11 (by simp)
                  have hKD2 := hOae12.get (hOae11.get HKD.out (by simp)) (by simp)
                  have hKDs : ∀ E ∈ ds, We.heap[E]? = some (.deferred (some [])) := fun E hE => hOae12.get (hOae11.get (HDV.out E hE).2 (by simp)) (by simp)
                  have HKS : Hid (∀ E ∈ D4 :: D3 :: D2 :: ds, We.heap[E]? = some (.deferred (some []))) := Lib.hid (by
                    intro E hE
                    simp only [List.mem_cons] at hE
                    rcases hE with e | e | e | e
                    · rw [e]; exact hKe12
                    · rw [e]; exact hKD3
                    · rw [e]; exact hKD2
                    · exact hKDs E e)
                  have hlt3 := (Array.getElem?_eq_some_iff.1 hKe11).1
                  have HND : Hid ((D4 :: D3 :: D2 :: ds).Nodup) := Lib.hid (by
                    have hx : ∀ E ∈ ds, E < wr.heap.size := fun E hE => (Array.getElem?_eq_some_iff.1 (HDS.out E hE).2).1
                    refine List.nodup_cons.2 ⟨fun hm => ?_, List.nodup_cons.2 ⟨fun hm => ?_, List.nodup_cons.2 ⟨fun hm => ?_, hnd⟩⟩⟩
                    · simp only [List.mem_cons] at hm
                      rcases hm with e | e | e
                      · omega
                      · omega
                      · have := hx _ e; omega
                    · simp only [List.mem_cons] at hm
                      rcases hm with e | e
                      · omega
                      · have := hx _ e; omega
                    · have := hx _ hm; omega)
                  have hOwe : Only [w2.heap.size] w We := (hOwc.trans (hOae11.mono (by simp))).trans (hOae12.mono (by simp))
                  have hDge : ∀ E ∈ D4 :: D3 :: D2 :: ds, W3.heap.size ≤ E := by
                    intro E hE
                    simp only [List.mem_cons] at hE
                    rcases hE with e | e | e | e
                    · omega
                    · omega
                    · omega
                    · exact (HDS.out E e).1
                  clear hgV hnV hseV hrsV hstV hKD3 hKD2 hKDs hKe11 hKe12
                  by_cases hsz : stop = g.z
                  · subst hsz
                    have t9 : (g.z == g.z) = true := by simp
                    go_wp2
                    refine leave_marks (v := .bool true) (D4 :: D3 :: D2 :: ds) _ HND.out (fun E hE => ?_) ?_
                    · exact ((Only.refl [w.heap.size + 1 + 1] We).setCell (.inl (by simp)) _).get (HKS.out E hE) (by have := hDge E hE; simp; omega)
                    · intro W' hO'
                      have hr' := hO'.get (one_setCell HRZ.out) (fun hm => by have := hDge _ hm; omega)
                      have hc' := cell_of_one hr'
                      refine ⟨by simp [results, Try.results6, go_sem, hc'], rfl, ?_⟩
                      have h7 : Only [w2.heap.size, w.heap.size + 1 + 1] w (We.setCell ⟨w.heap.size + 1 + 1, 0, none⟩ (.bool true)) := (hOwe.mono (by simp)).setCell (.inl (by simp)) _
                      exact (h7.below (B := w.heap.size) (by simp; omega) (Nat.le_refl _)).trans (hO'.below (B := w.heap.size) (fun E hE => by have := hDge E hE; omega) (by simp; omega))
                  · have t9 : (stop == g.z) = false := by simpa using hsz
                    go_wp2
                    refine leave_marks (v := .bool true) (D4 :: D3 :: D2 :: ds) _ HND.out (fun E hE => ?_) ?_
                    · exact ((Only.refl [w.heap.size + 1 + 1] We).setCell (.inl (by simp)) _).get (HKS.out E hE) (by have := hDge E hE; simp; omega)
                    · intro W' hO'
                      have hr' := hO'.get (one_setCell HRZ.out) (fun hm => by have := hDge _ hm; omega)
                      have hc' := cell_of_one hr'
                      refine ⟨by simp [results, Try.results6, go_sem, hc'], rfl, ?_⟩
                      have h7 : Only [w2.heap.size, w.heap.size + 1 + 1] w (We.setCell ⟨w.heap.size + 1 + 1, 0, none⟩ (.bool true)) := (hOwe.mono (by simp)).setCell (.inl (by simp)) _
                      exact (h7.below (B := w.heap.size) (by simp; omega) (Nat.le_refl _)).trans (hO'.below (B := w.heap.size) (fun E hE => by have := hDge E hE; omega) (by simp; omega))
        · have t2 : decide (zone < g.d * g.z) = false := decide_eq_false h2
          have hdv : domOf g zone = -1 := if_neg (by omega)
          have hhv : holdsG g zone off = false := by rw [HHH.out, hin zone 0 (g.d * g.z - 1) (by omega)]; rfl
          have HH : Hid (∀ W, Calls Try.prog 21 #[.agg C, .int .i64 zone, .int .i64 off] W fun e w' => e = .returned (.bool false) ∧ Below W.heap.size W w') := Lib.hid (fun W => by have := HHO.out W; rwa [hhv] at this)
          have HD : Hid (∀ W, Calls Try.prog 23 #[.agg C, .int .i64 zone] W fun e w' => e = .returned (.int .i64 (-1)) ∧ Below W.heap.size W w') := Lib.hid (fun W => by have := HDM.out zone W; rwa [hdv] at this)
          clear hhv hdv
          obtain ⟨c0, c1, c2, -⟩ := HCS.out _ _ _ hg
          go_wp2_with (refine wpList_row_on (by rfl) 23 _ rfl w.heap.size rfl 23 _ _ _ hg Try.underlying23 rfl HI.out ?_)
          refine (HH.out _).mono ?_
          rintro e wa ⟨rfl, hBa⟩
          have hga := (hBa.block w.heap.size (by omega)).trans hg
          obtain ⟨-, -, c2, -⟩ := HCS.out _ _ _ hga
          have za := hBa.size
          clear c0 c1
          go_wp2_with (refine wpList_row_on (by rfl) 23 _ rfl w.heap.size rfl 23 _ _ _ hga Try.underlying23 rfl HI.out ?_)
          refine (HD.out _).mono ?_
          rintro e wb ⟨rfl, hBb⟩
          have zb := hBb.size
          have hObw : Only [] wr wb := (Only.of_below hBa).trans (Only.of_below hBb)
          obtain ⟨WS, hWS⟩ : ∃ WS, wb.alloc (.cells #[.int .i64 0] 3) = WS := ⟨_, rfl⟩
          have hOs : Only [] wb WS := by rw [← hWS]; exact (Only.refl [] wb).alloc _
          have hgS := hOs.get (hObw.get hg (by simp)) (by simp)
          have zS := Nat.le_antisymm_iff.1 (show WS.heap.size = wb.heap.size + 1 by rw [← hWS]; simp)
          have hsS : WS.heap[wb.heap.size]? = some (.cells #[.int .i64 0] 3 (0, 0)) := by rw [← hWS]; exact heap_alloc_new wb _
          obtain ⟨WL, hWL⟩ : ∃ WL, (WS.alloc (.cells C 23)).alloc (.cells #[.int .i64 0] 3) = WL := ⟨_, rfl⟩
          have hOL : Only [] WS WL := by rw [← hWL]; exact ((Only.refl [] WS).alloc _).alloc _
          have zL := Nat.le_antisymm_iff.1 (show WL.heap.size = WS.heap.size + 1 + 1 by rw [← hWL]; simp)
          have hl1 : WL.heap[WS.heap.size]? = some (.cells C 23 (0, 0)) := by rw [← hWL]; (repeat (first | exact alloc_new _ _ (by first | (simp only [World.size_alloc]; done) | (simp only [World.size_alloc]; omega) | with_reducible rfl) | refine (alloc_old _ _ (by (try simp only [World.size_alloc]); omega)).trans ?_))
          have hl2 : WL.heap[WS.heap.size + 1]? = some (.cells #[.int .i64 0] 3 (0, 0)) := by rw [← hWL]; (repeat (first | exact alloc_new _ _ (by first | (simp only [World.size_alloc]; done) | (simp only [World.size_alloc]; omega) | with_reducible rfl) | refine (alloc_old _ _ (by (try simp only [World.size_alloc]); omega)).trans ?_))
          have HWS := Lib.hid hWS
          have HWL := Lib.hid hWL
          clear hWS hWL c2 hga
          go_upto_region 19 with (fail)
          rw [HWS.out]
          go_wp2_with (refine wpList_row_on (by rfl) 23 _ rfl w.heap.size rfl 23 _ _ _ hgS Try.underlying23 rfl HI.out ?_)
          refine (HIN.out _ _).mono ?_
          rintro e w9 ⟨rfl, rfl⟩
          rw [HWL.out]
          clear HWL HWS
          have hl1' : WL.heap[WS.heap.size]? = some (.cells (GC g) 23 (0, 0)) := by rw [HCG.out]; exact hl1
          have hsL := hOL.get hsS (by simp)
          have hOLb : Only [] wb WL := hOs.trans hOL
          have hgb := hOLb.get (hObw.get hg (by simp)) (by simp)
          have hrsb := hOLb.get (hObw.get hrs (by simp)) (by simp)
          have hnb := hOLb.get (hObw.get hn (by simp)) (by simp)
          have hstb := hOLb.get (hObw.get hst (by simp)) (by simp)
          have HL1 := Lib.hid hl1'
          have HL2 := Lib.hid hl2
          have HSL := Lib.hid hsL
          have HGB := Lib.hid hgb
          have HRB := Lib.hid hrsb
          have HNB := Lib.hid hnb
          have HTB := Lib.hid hstb
          clear hg hrs hn hst hgS hsS hl1 hl1' hl2 hsL hgb hrsb hnb hstb
          go_wp2
          refine (wpIn_wide (n := 8)).1 (wpIn_rangeT1 rfl (by omega) (gf := 38) (lb := #[.pointer (some ⟨WS.heap.size + 1, 0, none⟩), .pointer (some ⟨WS.heap.size, 0, none⟩)]) rfl trivial (enters_of Try.func38 (by kernel_rfl) rfl)
            (gin1_T 7 (by omega) (WS.heap.size + 1) WS.heap.size g HSM.out 0 WL HL2.out HL1.out) (Below.refl _ _) (fun _ => rfl)
            [wb.heap.size] (by simp; omega) (by simp)
            (fun pre W => W.heap[wb.heap.size]? = some (.cells #[.int .i64 (pre.length : Nat)] 3 (0, 0)) ∧ Only [wb.heap.size] WL W)
            (fun cx _ W => cx = .exit 4 ∧ W.heap[wb.heap.size]? = some (.cells #[.int .i64 stop] 3 (0, 0)) ∧ Only [wb.heap.size] WL W)
            ((AbT.row (b := wb.heap.size) (fun (pre : List Int) => #[.int .i64 (pre.length : Nat)]) (by simp)).and (AbT.only (Nat.le_refl _) (by simp)))
            (fun cx => (AbT.pure _ _ (fun _ => cx = .exit 4)).and ((AbT.row (b := wb.heap.size) (fun (_ : List Int) => #[.int .i64 stop]) (by simp)).and (AbT.only (Nat.le_refl _) (by simp)))) ⟨HSL.out, Only.refl _ _⟩ ?frm4 ?assignm4 ?bodym4 ?donem4 ?stopm4)
          case assignm4 =>
            intro r pre x W K2 _ hI hK2
            have HK2 := Lib.hid hK2
            clear hK2
            gi_wp2
            exact HK2.out W (Only.refl _ _)
          case bodym4 =>
            rintro r pre x W hr _ ⟨hn', hO2⟩ hlen hsp
            have hcn2 := cell_of_one hn'
            have hfn2 := free_of_one hn'
            have hcs2 := cell_of_one (hO2.get HTB.out (by simp; omega))
            have HN2 := Lib.hid hn'
            have HO2 := Lib.hid hO2
            have hp : (pre.length : Int) < 64 := by omega
            clear hn' hO2 hsp hlen
            by_cases hsx : (pre.length : Int) + 1 = stop
            · have t7 : ((pre.length : Int) + 1 == stop) = true := by simpa using hsx
              gi_wp2
              exact ⟨(Only.refl _ _).setCell (.inl (by simp)) _, rfl, one_setCell HN2.out, HO2.out.setCell (.inl (by simp)) _⟩
            · have t7 : ((pre.length : Int) + 1 == stop) = false := by simpa using hsx
              gi_wp2
              exact ⟨(Only.refl _ _).setCell (.inl (by simp)) _, by rw [List.length_append, List.length_singleton]; exact one_setCell HN2.out, HO2.out.setCell (.inl (by simp)) _⟩
          case donem4 =>
            rintro D2 ys Wc hD2 rfl ⟨hse, hO2⟩ hKD
            have hzo : zonesOf g 0 = zonesTo g.z 0 g.z.toNat := if_pos ⟨by omega, by omega⟩
            rw [hzo, zonesTo_length, show ((g.z.toNat : Nat) : Int) = g.z by omega] at hse
            have hOc : Only [wb.heap.size] wb Wc := (hOLb.mono (by simp)).trans hO2
            have hgb := hObw.get HG.out (by simp)
            have hrsb := hObw.get HR.out (by simp)
            have hnb := hObw.get HN.out (by simp)
            have hstb := hObw.get HT.out (by simp)
            have hgV := hOc.get hgb (by simp; omega)
            have hrsV := hOc.get hrsb (by simp; omega)
            have hnV := hOc.get hnb (by simp; omega)
            have hstV := hOc.get hstb (by simp; omega)
            have hseV := hse
            have hdsV : ∀ E ∈ ds, W3.heap.size ≤ E ∧ Wc.heap[E]? = some (.deferred (some [])) := fun E hE => ⟨(HDS.out E hE).1, hOc.get (hObw.get (HDS.out E hE).2 (by simp)) (by have := (Array.getElem?_eq_some_iff.1 (HDS.out E hE).2).1; simp; omega)⟩
            have HDV := Lib.hid hdsV
            have HKD := Lib.hid hKD
            have hOwc : Only [w2.heap.size] w Wc := (hOw.trans (hObw.mono (by simp))).trans' hOc (by simp; omega)
            have zc := (Array.getElem?_eq_some_iff.1 hKD).1
            have zbc := hOc.size
            clear hgb hrsb hnb hstb hse hOc hdsV hKD
            obtain ⟨WLe13, hWL⟩ : ∃ WL, (Wc.alloc (.cells C 23)).alloc (.cells #[.int .i64 g.d] 3) = WL := ⟨_, rfl⟩
            have hOLe13 : Only [] Wc WLe13 := by rw [← hWL]; exact ((Only.refl [] Wc).alloc _).alloc _
            have zLe13 := Nat.le_antisymm_iff.1 (show WLe13.heap.size = Wc.heap.size + 1 + 1 by rw [← hWL]; simp)
            have hl1 : WLe13.heap[Wc.heap.size]? = some (.cells C 23 (0, 0)) := by rw [← hWL]; (repeat (first | exact alloc_new _ _ (by first | (simp only [World.size_alloc]; done) | (simp only [World.size_alloc]; omega) | with_reducible rfl) | refine (alloc_old _ _ (by (try simp only [World.size_alloc]); omega)).trans ?_))
            have hl2 : WLe13.heap[Wc.heap.size + 1]? = some (.cells #[.int .i64 g.d] 3 (0, 0)) := by rw [← hWL]; (repeat (first | exact alloc_new _ _ (by first | (simp only [World.size_alloc]; done) | (simp only [World.size_alloc]; omega) | with_reducible rfl) | refine (alloc_old _ _ (by (try simp only [World.size_alloc]); omega)).trans ?_))
            have HWL := Lib.hid hWL
            have HGVe13 := Lib.hid hgV
            have HRVe13 := Lib.hid hrsV
            have HNVe13 := Lib.hid hnV
            have HSVe13 := Lib.hid hseV
            have HTVe13 := Lib.hid hstV
            obtain ⟨c0, -⟩ := HCS.out _ _ _ hgV
            clear hWL hrsV hnV hseV hstV
            go_wp2_with (refine wpList_row_on (by rfl) 23 _ rfl w.heap.size rfl 23 _ _ _ hgV Try.underlying23 rfl HI.out ?_)
            refine (HIN.out _ _).mono ?_
            rintro e w9 ⟨rfl, rfl⟩
            rw [HWL.out]
            have hl1' : WLe13.heap[Wc.heap.size]? = some (.cells (GC g) 23 (0, 0)) := by rw [HCG.out]; exact hl1
            have HL1 := Lib.hid hl1'
            have HL2 := Lib.hid hl2
            clear HWL hgV c0 hl1 hl1' hl2
            go_wp2
            refine (wpIn_wide (n := 8)).1 (wpIn_rangeT1 rfl (by omega) (gf := 38) (lb := #[.pointer (some ⟨Wc.heap.size + 1, 0, none⟩), .pointer (some ⟨Wc.heap.size, 0, none⟩)]) rfl trivial (enters_of Try.func38 (by kernel_rfl) rfl)
              (gin1_T 7 (by omega) (Wc.heap.size + 1) Wc.heap.size g HSM.out g.d WLe13 HL2.out HL1.out) (Below.refl _ _) (fun _ => rfl)
              [] (by simp) (by simp)
              (fun pre W => Only [] WLe13 W) (fun _ _ _ => False)
              (AbT.only (Nat.le_refl _) (by simp)) (fun _ => AbT.pure _ _ _) (Only.refl _ _) ?fre13 ?assigne13 ?bodye13 ?donee13 ?stope13)
            case assigne13 =>
              intro r pre x W K2 _ hI hK2
              have HK2 := Lib.hid hK2
              clear hK2
              gi_wp2
              exact HK2.out W (Only.refl _ _)
            case bodye13 =>
              rintro r pre x W hr _ hO2 hlen hsp
              rw [show zonesOf g g.d = [] from if_neg (by omega)] at hsp
              exact absurd hsp (by simp)
            case stope13 =>
              rintro D cx pre W hD - h
              exact h.elim
            case donee13 =>
              rintro D3 ys Wd hDe13 - hOe13 hKe13
              have hOae13 : Only [] Wc Wd := hOLe13.trans hOe13
              have zNe13 := hOe13.size
              have hgV := hOae13.get HGVe13.out (by simp)
              have hrsV := hOae13.get HRVe13.out (by simp)
              have hnV := hOae13.get HNVe13.out (by simp)
              have hseV := hOae13.get HSVe13.out (by simp)
              have hstV := hOae13.get HTVe13.out (by simp)
              obtain ⟨WLe14, hWL⟩ : ∃ WL, (Wd.alloc (.cells C 23)).alloc (.cells #[.int .i64 (-1)] 3) = WL := ⟨_, rfl⟩
              have hOLe14 : Only [] Wd WLe14 := by rw [← hWL]; exact ((Only.refl [] Wd).alloc _).alloc _
              have zLe14 := Nat.le_antisymm_iff.1 (show WLe14.heap.size = Wd.heap.size + 1 + 1 by rw [← hWL]; simp)
              have hl1 : WLe14.heap[Wd.heap.size]? = some (.cells C 23 (0, 0)) := by rw [← hWL]; (repeat (first | exact alloc_new _ _ (by first | (simp only [World.size_alloc]; done) | (simp only [World.size_alloc]; omega) | with_reducible rfl) | refine (alloc_old _ _ (by (try simp only [World.size_alloc]); omega)).trans ?_))
              have hl2 : WLe14.heap[Wd.heap.size + 1]? = some (.cells #[.int .i64 (-1)] 3 (0, 0)) := by rw [← hWL]; (repeat (first | exact alloc_new _ _ (by first | (simp only [World.size_alloc]; done) | (simp only [World.size_alloc]; omega) | with_reducible rfl) | refine (alloc_old _ _ (by (try simp only [World.size_alloc]); omega)).trans ?_))
              have HWL := Lib.hid hWL
              have HGVe14 := Lib.hid hgV
              have HRVe14 := Lib.hid hrsV
              have HNVe14 := Lib.hid hnV
              have HSVe14 := Lib.hid hseV
              have HTVe14 := Lib.hid hstV
              obtain ⟨c0, -⟩ := HCS.out _ _ _ hgV
              clear hWL hrsV hnV hseV hstV
              go_wp2_with (refine wpList_row_on (by rfl) 23 _ rfl w.heap.size rfl 23 _ _ _ hgV Try.underlying23 rfl HI.out ?_)
              refine (HIN.out _ _).mono ?_
              rintro e w9 ⟨rfl, rfl⟩
              rw [HWL.out]
              have hl1' : WLe14.heap[Wd.heap.size]? = some (.cells (GC g) 23 (0, 0)) := by rw [HCG.out]; exact hl1
              have HL1 := Lib.hid hl1'
              have HL2 := Lib.hid hl2
              clear HWL hgV c0 hl1 hl1' hl2
              go_wp2
              refine (wpIn_wide (n := 8)).1 (wpIn_rangeT1 rfl (by omega) (gf := 38) (lb := #[.pointer (some ⟨Wd.heap.size + 1, 0, none⟩), .pointer (some ⟨Wd.heap.size, 0, none⟩)]) rfl trivial (enters_of Try.func38 (by kernel_rfl) rfl)
                (gin1_T 7 (by omega) (Wd.heap.size + 1) Wd.heap.size g HSM.out (-1) WLe14 HL2.out HL1.out) (Below.refl _ _) (fun _ => rfl)
                [] (by simp) (by simp)
                (fun pre W => Only [] WLe14 W) (fun _ _ _ => False)
                (AbT.only (Nat.le_refl _) (by simp)) (fun _ => AbT.pure _ _ _) (Only.refl _ _) ?fre14 ?assigne14 ?bodye14 ?donee14 ?stope14)
              case assigne14 =>
                intro r pre x W K2 _ hI hK2
                have HK2 := Lib.hid hK2
                clear hK2
                gi_wp2
                exact HK2.out W (Only.refl _ _)
              case bodye14 =>
                rintro r pre x W hr _ hO2 hlen hsp
                rw [show zonesOf g (-1) = [] from if_neg (by omega)] at hsp
                exact absurd hsp (by simp)
              case stope14 =>
                rintro D cx pre W hD - h
                exact h.elim
              case donee14 =>
                rintro D4 ys We hDe14 - hOe14 hKe14
                have hOae14 : Only [] Wd We := hOLe14.trans hOe14
                have zNe14 := hOe14.size
                have hgV := hOae14.get HGVe14.out (by simp)
                have hrsV := hOae14.get HRVe14.out (by simp)
                have hnV := hOae14.get HNVe14.out (by simp)
                have hseV := hOae14.get HSVe14.out (by simp)
                have hstV := hOae14.get HTVe14.out (by simp)
                obtain ⟨c0, c1, -⟩ := HCS.out _ _ _ hgV
                have hc1 := cell_of_one hnV
                have hc2 := cell_of_one hseV
                have hc3 := cell_of_one hrsV
                have hf3 := free_of_one hrsV
                have hc4 := cell_of_one hstV
                have HRZ := Lib.hid hrsV
                have hKD3 := hOae14.get hKe13 (by simp)
                have hKD2 := hOae14.get (hOae13.get HKD.out (by simp)) (by simp)
                have hKDs : ∀ E ∈ ds, We.heap[E]? = some (.deferred (some [])) := fun E hE => hOae14.get (hOae13.get (HDV.out E hE).2 (by simp)) (by simp)
                have HKS : Hid (∀ E ∈ D4 :: D3 :: D2 :: ds, We.heap[E]? = some (.deferred (some []))) := Lib.hid (by
                  intro E hE
                  simp only [List.mem_cons] at hE
                  rcases hE with e | e | e | e
                  · rw [e]; exact hKe14
                  · rw [e]; exact hKD3
                  · rw [e]; exact hKD2
                  · exact hKDs E e)
                have hlt3 := (Array.getElem?_eq_some_iff.1 hKe13).1
                have HND : Hid ((D4 :: D3 :: D2 :: ds).Nodup) := Lib.hid (by
                  have hx : ∀ E ∈ ds, E < wr.heap.size := fun E hE => (Array.getElem?_eq_some_iff.1 (HDS.out E hE).2).1
                  refine List.nodup_cons.2 ⟨fun hm => ?_, List.nodup_cons.2 ⟨fun hm => ?_, List.nodup_cons.2 ⟨fun hm => ?_, hnd⟩⟩⟩
                  · simp only [List.mem_cons] at hm
                    rcases hm with e | e | e
                    · omega
                    · omega
                    · have := hx _ e; omega
                  · simp only [List.mem_cons] at hm
                    rcases hm with e | e
                    · omega
                    · have := hx _ e; omega
                  · have := hx _ hm; omega)
                have hOwe : Only [w2.heap.size] w We := (hOwc.trans (hOae13.mono (by simp))).trans (hOae14.mono (by simp))
                have hDge : ∀ E ∈ D4 :: D3 :: D2 :: ds, W3.heap.size ≤ E := by
                  intro E hE
                  simp only [List.mem_cons] at hE
                  rcases hE with e | e | e | e
                  · omega
                  · omega
                  · omega
                  · exact (HDS.out E e).1
                clear hgV hnV hseV hrsV hstV hKD3 hKD2 hKDs hKe13 hKe14
                have t9 : (g.z == g.z) = true := by simp
                go_wp2
                refine leave_marks (v := .bool true) (D4 :: D3 :: D2 :: ds) _ HND.out (fun E hE => ?_) ?_
                · exact ((Only.refl [w.heap.size + 1 + 1] We).setCell (.inl (by simp)) _).get (HKS.out E hE) (by have := hDge E hE; simp; omega)
                · intro W' hO'
                  have hr' := hO'.get (one_setCell HRZ.out) (fun hm => by have := hDge _ hm; omega)
                  have hc' := cell_of_one hr'
                  refine ⟨by simp [results, Try.results6, go_sem, hc'], rfl, ?_⟩
                  have h7 : Only [w2.heap.size, w.heap.size + 1 + 1] w (We.setCell ⟨w.heap.size + 1 + 1, 0, none⟩ (.bool true)) := (hOwe.mono (by simp)).setCell (.inl (by simp)) _
                  exact (h7.below (B := w.heap.size) (by simp; omega) (Nat.le_refl _)).trans (hO'.below (B := w.heap.size) (fun E hE => by have := hDge E hE; omega) (by simp; omega))

          case stopm4 =>
            rintro D2 cx pre Wc hD2 - ⟨rfl, hse, hO2⟩ hKD
            refine wpIn_wide.2 ?_
            have hOc : Only [wb.heap.size] wb Wc := (hOLb.mono (by simp)).trans hO2
            have hgb := hObw.get HG.out (by simp)
            have hrsb := hObw.get HR.out (by simp)
            have hnb := hObw.get HN.out (by simp)
            have hstb := hObw.get HT.out (by simp)
            have hgV := hOc.get hgb (by simp; omega)
            have hrsV := hOc.get hrsb (by simp; omega)
            have hnV := hOc.get hnb (by simp; omega)
            have hstV := hOc.get hstb (by simp; omega)
            have hseV := hse
            have hdsV : ∀ E ∈ ds, W3.heap.size ≤ E ∧ Wc.heap[E]? = some (.deferred (some [])) := fun E hE => ⟨(HDS.out E hE).1, hOc.get (hObw.get (HDS.out E hE).2 (by simp)) (by have := (Array.getElem?_eq_some_iff.1 (HDS.out E hE).2).1; simp; omega)⟩
            have HDV := Lib.hid hdsV
            have HKD := Lib.hid hKD
            have hOwc : Only [w2.heap.size] w Wc := (hOw.trans (hObw.mono (by simp))).trans' hOc (by simp; omega)
            have zc := (Array.getElem?_eq_some_iff.1 hKD).1
            have zbc := hOc.size
            clear hgb hrsb hnb hstb hse hOc hdsV hKD
            obtain ⟨WLe15, hWL⟩ : ∃ WL, (Wc.alloc (.cells C 23)).alloc (.cells #[.int .i64 g.d] 3) = WL := ⟨_, rfl⟩
            have hOLe15 : Only [] Wc WLe15 := by rw [← hWL]; exact ((Only.refl [] Wc).alloc _).alloc _
            have zLe15 := Nat.le_antisymm_iff.1 (show WLe15.heap.size = Wc.heap.size + 1 + 1 by rw [← hWL]; simp)
            have hl1 : WLe15.heap[Wc.heap.size]? = some (.cells C 23 (0, 0)) := by rw [← hWL]; (repeat (first | exact alloc_new _ _ (by first | (simp only [World.size_alloc]; done) | (simp only [World.size_alloc]; omega) | with_reducible rfl) | refine (alloc_old _ _ (by (try simp only [World.size_alloc]); omega)).trans ?_))
            have hl2 : WLe15.heap[Wc.heap.size + 1]? = some (.cells #[.int .i64 g.d] 3 (0, 0)) := by rw [← hWL]; (repeat (first | exact alloc_new _ _ (by first | (simp only [World.size_alloc]; done) | (simp only [World.size_alloc]; omega) | with_reducible rfl) | refine (alloc_old _ _ (by (try simp only [World.size_alloc]); omega)).trans ?_))
            have HWL := Lib.hid hWL
            have HGVe15 := Lib.hid hgV
            have HRVe15 := Lib.hid hrsV
            have HNVe15 := Lib.hid hnV
            have HSVe15 := Lib.hid hseV
            have HTVe15 := Lib.hid hstV
            obtain ⟨c0, -⟩ := HCS.out _ _ _ hgV
            clear hWL hrsV hnV hseV hstV
            go_wp2_with (refine wpList_row_on (by rfl) 23 _ rfl w.heap.size rfl 23 _ _ _ hgV Try.underlying23 rfl HI.out ?_)
            refine (HIN.out _ _).mono ?_
            rintro e w9 ⟨rfl, rfl⟩
            rw [HWL.out]
            have hl1' : WLe15.heap[Wc.heap.size]? = some (.cells (GC g) 23 (0, 0)) := by rw [HCG.out]; exact hl1
            have HL1 := Lib.hid hl1'
            have HL2 := Lib.hid hl2
            clear HWL hgV c0 hl1 hl1' hl2
            go_wp2
            refine (wpIn_wide (n := 8)).1 (wpIn_rangeT1 rfl (by omega) (gf := 38) (lb := #[.pointer (some ⟨Wc.heap.size + 1, 0, none⟩), .pointer (some ⟨Wc.heap.size, 0, none⟩)]) rfl trivial (enters_of Try.func38 (by kernel_rfl) rfl)
              (gin1_T 7 (by omega) (Wc.heap.size + 1) Wc.heap.size g HSM.out g.d WLe15 HL2.out HL1.out) (Below.refl _ _) (fun _ => rfl)
              [] (by simp) (by simp)
              (fun pre W => Only [] WLe15 W) (fun _ _ _ => False)
              (AbT.only (Nat.le_refl _) (by simp)) (fun _ => AbT.pure _ _ _) (Only.refl _ _) ?fre15 ?assigne15 ?bodye15 ?donee15 ?stope15)
            case assigne15 =>
              intro r pre x W K2 _ hI hK2
              have HK2 := Lib.hid hK2
              clear hK2
              gi_wp2
              exact HK2.out W (Only.refl _ _)
            case bodye15 =>
              rintro r pre x W hr _ hO2 hlen hsp
              rw [show zonesOf g g.d = [] from if_neg (by omega)] at hsp
              exact absurd hsp (by simp)
            case stope15 =>
              rintro D cx pre W hD - h
              exact h.elim
            case donee15 =>
              rintro D3 ys Wd hDe15 - hOe15 hKe15
              have hOae15 : Only [] Wc Wd := hOLe15.trans hOe15
              have zNe15 := hOe15.size
              have hgV := hOae15.get HGVe15.out (by simp)
              have hrsV := hOae15.get HRVe15.out (by simp)
              have hnV := hOae15.get HNVe15.out (by simp)
              have hseV := hOae15.get HSVe15.out (by simp)
              have hstV := hOae15.get HTVe15.out (by simp)
              obtain ⟨WLe16, hWL⟩ : ∃ WL, (Wd.alloc (.cells C 23)).alloc (.cells #[.int .i64 (-1)] 3) = WL := ⟨_, rfl⟩
              have hOLe16 : Only [] Wd WLe16 := by rw [← hWL]; exact ((Only.refl [] Wd).alloc _).alloc _
              have zLe16 := Nat.le_antisymm_iff.1 (show WLe16.heap.size = Wd.heap.size + 1 + 1 by rw [← hWL]; simp)
              have hl1 : WLe16.heap[Wd.heap.size]? = some (.cells C 23 (0, 0)) := by rw [← hWL]; (repeat (first | exact alloc_new _ _ (by first | (simp only [World.size_alloc]; done) | (simp only [World.size_alloc]; omega) | with_reducible rfl) | refine (alloc_old _ _ (by (try simp only [World.size_alloc]); omega)).trans ?_))
              have hl2 : WLe16.heap[Wd.heap.size + 1]? = some (.cells #[.int .i64 (-1)] 3 (0, 0)) := by rw [← hWL]; (repeat (first | exact alloc_new _ _ (by first | (simp only [World.size_alloc]; done) | (simp only [World.size_alloc]; omega) | with_reducible rfl) | refine (alloc_old _ _ (by (try simp only [World.size_alloc]); omega)).trans ?_))
              have HWL := Lib.hid hWL
              have HGVe16 := Lib.hid hgV
              have HRVe16 := Lib.hid hrsV
              have HNVe16 := Lib.hid hnV
              have HSVe16 := Lib.hid hseV
              have HTVe16 := Lib.hid hstV
              obtain ⟨c0, -⟩ := HCS.out _ _ _ hgV
              clear hWL hrsV hnV hseV hstV
              go_wp2_with (refine wpList_row_on (by rfl) 23 _ rfl w.heap.size rfl 23 _ _ _ hgV Try.underlying23 rfl HI.out ?_)
              refine (HIN.out _ _).mono ?_
              rintro e w9 ⟨rfl, rfl⟩
              rw [HWL.out]
              have hl1' : WLe16.heap[Wd.heap.size]? = some (.cells (GC g) 23 (0, 0)) := by rw [HCG.out]; exact hl1
              have HL1 := Lib.hid hl1'
              have HL2 := Lib.hid hl2
              clear HWL hgV c0 hl1 hl1' hl2
              go_wp2
              refine (wpIn_wide (n := 8)).1 (wpIn_rangeT1 rfl (by omega) (gf := 38) (lb := #[.pointer (some ⟨Wd.heap.size + 1, 0, none⟩), .pointer (some ⟨Wd.heap.size, 0, none⟩)]) rfl trivial (enters_of Try.func38 (by kernel_rfl) rfl)
                (gin1_T 7 (by omega) (Wd.heap.size + 1) Wd.heap.size g HSM.out (-1) WLe16 HL2.out HL1.out) (Below.refl _ _) (fun _ => rfl)
                [] (by simp) (by simp)
                (fun pre W => Only [] WLe16 W) (fun _ _ _ => False)
                (AbT.only (Nat.le_refl _) (by simp)) (fun _ => AbT.pure _ _ _) (Only.refl _ _) ?fre16 ?assigne16 ?bodye16 ?donee16 ?stope16)
              case assigne16 =>
                intro r pre x W K2 _ hI hK2
                have HK2 := Lib.hid hK2
                clear hK2
                gi_wp2
                exact HK2.out W (Only.refl _ _)
              case bodye16 =>
                rintro r pre x W hr _ hO2 hlen hsp
                rw [show zonesOf g (-1) = [] from if_neg (by omega)] at hsp
                exact absurd hsp (by simp)
              case stope16 =>
                rintro D cx pre W hD - h
                exact h.elim
              case donee16 =>
                rintro D4 ys We hDe16 - hOe16 hKe16
                have hOae16 : Only [] Wd We := hOLe16.trans hOe16
                have zNe16 := hOe16.size
                have hgV := hOae16.get HGVe16.out (by simp)
                have hrsV := hOae16.get HRVe16.out (by simp)
                have hnV := hOae16.get HNVe16.out (by simp)
                have hseV := hOae16.get HSVe16.out (by simp)
                have hstV := hOae16.get HTVe16.out (by simp)
                obtain ⟨c0, c1, -⟩ := HCS.out _ _ _ hgV
                have hc1 := cell_of_one hnV
                have hc2 := cell_of_one hseV
                have hc3 := cell_of_one hrsV
                have hf3 := free_of_one hrsV
                have hc4 := cell_of_one hstV
                have HRZ := Lib.hid hrsV
                have hKD3 := hOae16.get hKe15 (by simp)
                have hKD2 := hOae16.get (hOae15.get HKD.out (by simp)) (by simp)
                have hKDs : ∀ E ∈ ds, We.heap[E]? = some (.deferred (some [])) := fun E hE => hOae16.get (hOae15.get (HDV.out E hE).2 (by simp)) (by simp)
                have HKS : Hid (∀ E ∈ D4 :: D3 :: D2 :: ds, We.heap[E]? = some (.deferred (some []))) := Lib.hid (by
                  intro E hE
                  simp only [List.mem_cons] at hE
                  rcases hE with e | e | e | e
                  · rw [e]; exact hKe16
                  · rw [e]; exact hKD3
                  · rw [e]; exact hKD2
                  · exact hKDs E e)
                have hlt3 := (Array.getElem?_eq_some_iff.1 hKe15).1
                have HND : Hid ((D4 :: D3 :: D2 :: ds).Nodup) := Lib.hid (by
                  have hx : ∀ E ∈ ds, E < wr.heap.size := fun E hE => (Array.getElem?_eq_some_iff.1 (HDS.out E hE).2).1
                  refine List.nodup_cons.2 ⟨fun hm => ?_, List.nodup_cons.2 ⟨fun hm => ?_, List.nodup_cons.2 ⟨fun hm => ?_, hnd⟩⟩⟩
                  · simp only [List.mem_cons] at hm
                    rcases hm with e | e | e
                    · omega
                    · omega
                    · have := hx _ e; omega
                  · simp only [List.mem_cons] at hm
                    rcases hm with e | e
                    · omega
                    · have := hx _ e; omega
                  · have := hx _ hm; omega)
                have hOwe : Only [w2.heap.size] w We := (hOwc.trans (hOae15.mono (by simp))).trans (hOae16.mono (by simp))
                have hDge : ∀ E ∈ D4 :: D3 :: D2 :: ds, W3.heap.size ≤ E := by
                  intro E hE
                  simp only [List.mem_cons] at hE
                  rcases hE with e | e | e | e
                  · omega
                  · omega
                  · omega
                  · exact (HDS.out E e).1
                clear hgV hnV hseV hrsV hstV hKD3 hKD2 hKDs hKe15 hKe16
                by_cases hsz : stop = g.z
                · subst hsz
                  have t9 : (g.z == g.z) = true := by simp
                  go_wp2
                  refine leave_marks (v := .bool true) (D4 :: D3 :: D2 :: ds) _ HND.out (fun E hE => ?_) ?_
                  · exact ((Only.refl [w.heap.size + 1 + 1] We).setCell (.inl (by simp)) _).get (HKS.out E hE) (by have := hDge E hE; simp; omega)
                  · intro W' hO'
                    have hr' := hO'.get (one_setCell HRZ.out) (fun hm => by have := hDge _ hm; omega)
                    have hc' := cell_of_one hr'
                    refine ⟨by simp [results, Try.results6, go_sem, hc'], rfl, ?_⟩
                    have h7 : Only [w2.heap.size, w.heap.size + 1 + 1] w (We.setCell ⟨w.heap.size + 1 + 1, 0, none⟩ (.bool true)) := (hOwe.mono (by simp)).setCell (.inl (by simp)) _
                    exact (h7.below (B := w.heap.size) (by simp; omega) (Nat.le_refl _)).trans (hO'.below (B := w.heap.size) (fun E hE => by have := hDge E hE; omega) (by simp; omega))
                · have t9 : (stop == g.z) = false := by simpa using hsz
                  go_wp2
                  refine leave_marks (v := .bool true) (D4 :: D3 :: D2 :: ds) _ HND.out (fun E hE => ?_) ?_
                  · exact ((Only.refl [w.heap.size + 1 + 1] We).setCell (.inl (by simp)) _).get (HKS.out E hE) (by have := hDge E hE; simp; omega)
                  · intro W' hO'
                    have hr' := hO'.get (one_setCell HRZ.out) (fun hm => by have := hDge _ hm; omega)
                    have hc' := cell_of_one hr'
                    refine ⟨by simp [results, Try.results6, go_sem, hc'], rfl, ?_⟩
                    have h7 : Only [w2.heap.size, w.heap.size + 1 + 1] w (We.setCell ⟨w.heap.size + 1 + 1, 0, none⟩ (.bool true)) := (hOwe.mono (by simp)).setCell (.inl (by simp)) _
                    exact (h7.below (B := w.heap.size) (by simp; omega) (Nat.le_refl _)).trans (hO'.below (B := w.heap.size) (fun E hE => by have := hDge E hE; omega) (by simp; omega))
      · have t1 : decide (0 ≤ zone) = false := decide_eq_false h1
        have hdv : domOf g zone = -1 := if_neg (by omega)
        have hhv : holdsG g zone off = false := by rw [HHH.out, hin zone 0 (g.d * g.z - 1) (by omega)]; rfl
        have HH : Hid (∀ W, Calls Try.prog 21 #[.agg C, .int .i64 zone, .int .i64 off] W fun e w' => e = .returned (.bool false) ∧ Below W.heap.size W w') := Lib.hid (fun W => by have := HHO.out W; rwa [hhv] at this)
        have HD : Hid (∀ W, Calls Try.prog 23 #[.agg C, .int .i64 zone] W fun e w' => e = .returned (.int .i64 (-1)) ∧ Below W.heap.size W w') := Lib.hid (fun W => by have := HDM.out zone W; rwa [hdv] at this)
        clear hhv hdv
        obtain ⟨c0, c1, c2, -⟩ := HCS.out _ _ _ hg
        go_wp2_with (refine wpList_row_on (by rfl) 23 _ rfl w.heap.size rfl 23 _ _ _ hg Try.underlying23 rfl HI.out ?_)
        refine (HH.out _).mono ?_
        rintro e wa ⟨rfl, hBa⟩
        have hga := (hBa.block w.heap.size (by omega)).trans hg
        obtain ⟨-, -, c2, -⟩ := HCS.out _ _ _ hga
        have za := hBa.size
        clear c0 c1
        go_wp2_with (refine wpList_row_on (by rfl) 23 _ rfl w.heap.size rfl 23 _ _ _ hga Try.underlying23 rfl HI.out ?_)
        refine (HD.out _).mono ?_
        rintro e wb ⟨rfl, hBb⟩
        have zb := hBb.size
        have hObw : Only [] wr wb := (Only.of_below hBa).trans (Only.of_below hBb)
        obtain ⟨WS, hWS⟩ : ∃ WS, wb.alloc (.cells #[.int .i64 0] 3) = WS := ⟨_, rfl⟩
        have hOs : Only [] wb WS := by rw [← hWS]; exact (Only.refl [] wb).alloc _
        have hgS := hOs.get (hObw.get hg (by simp)) (by simp)
        have zS := Nat.le_antisymm_iff.1 (show WS.heap.size = wb.heap.size + 1 by rw [← hWS]; simp)
        have hsS : WS.heap[wb.heap.size]? = some (.cells #[.int .i64 0] 3 (0, 0)) := by rw [← hWS]; exact heap_alloc_new wb _
        obtain ⟨WL, hWL⟩ : ∃ WL, (WS.alloc (.cells C 23)).alloc (.cells #[.int .i64 0] 3) = WL := ⟨_, rfl⟩
        have hOL : Only [] WS WL := by rw [← hWL]; exact ((Only.refl [] WS).alloc _).alloc _
        have zL := Nat.le_antisymm_iff.1 (show WL.heap.size = WS.heap.size + 1 + 1 by rw [← hWL]; simp)
        have hl1 : WL.heap[WS.heap.size]? = some (.cells C 23 (0, 0)) := by rw [← hWL]; (repeat (first | exact alloc_new _ _ (by first | (simp only [World.size_alloc]; done) | (simp only [World.size_alloc]; omega) | with_reducible rfl) | refine (alloc_old _ _ (by (try simp only [World.size_alloc]); omega)).trans ?_))
        have hl2 : WL.heap[WS.heap.size + 1]? = some (.cells #[.int .i64 0] 3 (0, 0)) := by rw [← hWL]; (repeat (first | exact alloc_new _ _ (by first | (simp only [World.size_alloc]; done) | (simp only [World.size_alloc]; omega) | with_reducible rfl) | refine (alloc_old _ _ (by (try simp only [World.size_alloc]); omega)).trans ?_))
        have HWS := Lib.hid hWS
        have HWL := Lib.hid hWL
        clear hWS hWL c2 hga
        go_upto_region 19 with (fail)
        rw [HWS.out]
        go_wp2_with (refine wpList_row_on (by rfl) 23 _ rfl w.heap.size rfl 23 _ _ _ hgS Try.underlying23 rfl HI.out ?_)
        refine (HIN.out _ _).mono ?_
        rintro e w9 ⟨rfl, rfl⟩
        rw [HWL.out]
        clear HWL HWS
        have hl1' : WL.heap[WS.heap.size]? = some (.cells (GC g) 23 (0, 0)) := by rw [HCG.out]; exact hl1
        have hsL := hOL.get hsS (by simp)
        have hOLb : Only [] wb WL := hOs.trans hOL
        have hgb := hOLb.get (hObw.get hg (by simp)) (by simp)
        have hrsb := hOLb.get (hObw.get hrs (by simp)) (by simp)
        have hnb := hOLb.get (hObw.get hn (by simp)) (by simp)
        have hstb := hOLb.get (hObw.get hst (by simp)) (by simp)
        have HL1 := Lib.hid hl1'
        have HL2 := Lib.hid hl2
        have HSL := Lib.hid hsL
        have HGB := Lib.hid hgb
        have HRB := Lib.hid hrsb
        have HNB := Lib.hid hnb
        have HTB := Lib.hid hstb
        clear hg hrs hn hst hgS hsS hl1 hl1' hl2 hsL hgb hrsb hnb hstb
        go_wp2
        refine (wpIn_wide (n := 8)).1 (wpIn_rangeT1 rfl (by omega) (gf := 38) (lb := #[.pointer (some ⟨WS.heap.size + 1, 0, none⟩), .pointer (some ⟨WS.heap.size, 0, none⟩)]) rfl trivial (enters_of Try.func38 (by kernel_rfl) rfl)
          (gin1_T 7 (by omega) (WS.heap.size + 1) WS.heap.size g HSM.out 0 WL HL2.out HL1.out) (Below.refl _ _) (fun _ => rfl)
          [wb.heap.size] (by simp; omega) (by simp)
          (fun pre W => W.heap[wb.heap.size]? = some (.cells #[.int .i64 (pre.length : Nat)] 3 (0, 0)) ∧ Only [wb.heap.size] WL W)
          (fun cx _ W => cx = .exit 4 ∧ W.heap[wb.heap.size]? = some (.cells #[.int .i64 stop] 3 (0, 0)) ∧ Only [wb.heap.size] WL W)
          ((AbT.row (b := wb.heap.size) (fun (pre : List Int) => #[.int .i64 (pre.length : Nat)]) (by simp)).and (AbT.only (Nat.le_refl _) (by simp)))
          (fun cx => (AbT.pure _ _ (fun _ => cx = .exit 4)).and ((AbT.row (b := wb.heap.size) (fun (_ : List Int) => #[.int .i64 stop]) (by simp)).and (AbT.only (Nat.le_refl _) (by simp)))) ⟨HSL.out, Only.refl _ _⟩ ?frm5 ?assignm5 ?bodym5 ?donem5 ?stopm5)
        case assignm5 =>
          intro r pre x W K2 _ hI hK2
          have HK2 := Lib.hid hK2
          clear hK2
          gi_wp2
          exact HK2.out W (Only.refl _ _)
        case bodym5 =>
          rintro r pre x W hr _ ⟨hn', hO2⟩ hlen hsp
          have hcn2 := cell_of_one hn'
          have hfn2 := free_of_one hn'
          have hcs2 := cell_of_one (hO2.get HTB.out (by simp; omega))
          have HN2 := Lib.hid hn'
          have HO2 := Lib.hid hO2
          have hp : (pre.length : Int) < 64 := by omega
          clear hn' hO2 hsp hlen
          by_cases hsx : (pre.length : Int) + 1 = stop
          · have t7 : ((pre.length : Int) + 1 == stop) = true := by simpa using hsx
            gi_wp2
            exact ⟨(Only.refl _ _).setCell (.inl (by simp)) _, rfl, one_setCell HN2.out, HO2.out.setCell (.inl (by simp)) _⟩
          · have t7 : ((pre.length : Int) + 1 == stop) = false := by simpa using hsx
            gi_wp2
            exact ⟨(Only.refl _ _).setCell (.inl (by simp)) _, by rw [List.length_append, List.length_singleton]; exact one_setCell HN2.out, HO2.out.setCell (.inl (by simp)) _⟩
        case donem5 =>
          rintro D2 ys Wc hD2 rfl ⟨hse, hO2⟩ hKD
          have hzo : zonesOf g 0 = zonesTo g.z 0 g.z.toNat := if_pos ⟨by omega, by omega⟩
          rw [hzo, zonesTo_length, show ((g.z.toNat : Nat) : Int) = g.z by omega] at hse
          have hOc : Only [wb.heap.size] wb Wc := (hOLb.mono (by simp)).trans hO2
          have hgb := hObw.get HG.out (by simp)
          have hrsb := hObw.get HR.out (by simp)
          have hnb := hObw.get HN.out (by simp)
          have hstb := hObw.get HT.out (by simp)
          have hgV := hOc.get hgb (by simp; omega)
          have hrsV := hOc.get hrsb (by simp; omega)
          have hnV := hOc.get hnb (by simp; omega)
          have hstV := hOc.get hstb (by simp; omega)
          have hseV := hse
          have hdsV : ∀ E ∈ ds, W3.heap.size ≤ E ∧ Wc.heap[E]? = some (.deferred (some [])) := fun E hE => ⟨(HDS.out E hE).1, hOc.get (hObw.get (HDS.out E hE).2 (by simp)) (by have := (Array.getElem?_eq_some_iff.1 (HDS.out E hE).2).1; simp; omega)⟩
          have HDV := Lib.hid hdsV
          have HKD := Lib.hid hKD
          have hOwc : Only [w2.heap.size] w Wc := (hOw.trans (hObw.mono (by simp))).trans' hOc (by simp; omega)
          have zc := (Array.getElem?_eq_some_iff.1 hKD).1
          have zbc := hOc.size
          clear hgb hrsb hnb hstb hse hOc hdsV hKD
          obtain ⟨WLe17, hWL⟩ : ∃ WL, (Wc.alloc (.cells C 23)).alloc (.cells #[.int .i64 g.d] 3) = WL := ⟨_, rfl⟩
          have hOLe17 : Only [] Wc WLe17 := by rw [← hWL]; exact ((Only.refl [] Wc).alloc _).alloc _
          have zLe17 := Nat.le_antisymm_iff.1 (show WLe17.heap.size = Wc.heap.size + 1 + 1 by rw [← hWL]; simp)
          have hl1 : WLe17.heap[Wc.heap.size]? = some (.cells C 23 (0, 0)) := by rw [← hWL]; (repeat (first | exact alloc_new _ _ (by first | (simp only [World.size_alloc]; done) | (simp only [World.size_alloc]; omega) | with_reducible rfl) | refine (alloc_old _ _ (by (try simp only [World.size_alloc]); omega)).trans ?_))
          have hl2 : WLe17.heap[Wc.heap.size + 1]? = some (.cells #[.int .i64 g.d] 3 (0, 0)) := by rw [← hWL]; (repeat (first | exact alloc_new _ _ (by first | (simp only [World.size_alloc]; done) | (simp only [World.size_alloc]; omega) | with_reducible rfl) | refine (alloc_old _ _ (by (try simp only [World.size_alloc]); omega)).trans ?_))
          have HWL := Lib.hid hWL
          have HGVe17 := Lib.hid hgV
          have HRVe17 := Lib.hid hrsV
          have HNVe17 := Lib.hid hnV
          have HSVe17 := Lib.hid hseV
          have HTVe17 := Lib.hid hstV
          obtain ⟨c0, -⟩ := HCS.out _ _ _ hgV
          clear hWL hrsV hnV hseV hstV
          go_wp2_with (refine wpList_row_on (by rfl) 23 _ rfl w.heap.size rfl 23 _ _ _ hgV Try.underlying23 rfl HI.out ?_)
          refine (HIN.out _ _).mono ?_
          rintro e w9 ⟨rfl, rfl⟩
          rw [HWL.out]
          have hl1' : WLe17.heap[Wc.heap.size]? = some (.cells (GC g) 23 (0, 0)) := by rw [HCG.out]; exact hl1
          have HL1 := Lib.hid hl1'
          have HL2 := Lib.hid hl2
          clear HWL hgV c0 hl1 hl1' hl2
          go_wp2
          refine (wpIn_wide (n := 8)).1 (wpIn_rangeT1 rfl (by omega) (gf := 38) (lb := #[.pointer (some ⟨Wc.heap.size + 1, 0, none⟩), .pointer (some ⟨Wc.heap.size, 0, none⟩)]) rfl trivial (enters_of Try.func38 (by kernel_rfl) rfl)
            (gin1_T 7 (by omega) (Wc.heap.size + 1) Wc.heap.size g HSM.out g.d WLe17 HL2.out HL1.out) (Below.refl _ _) (fun _ => rfl)
            [] (by simp) (by simp)
            (fun pre W => Only [] WLe17 W) (fun _ _ _ => False)
            (AbT.only (Nat.le_refl _) (by simp)) (fun _ => AbT.pure _ _ _) (Only.refl _ _) ?fre17 ?assigne17 ?bodye17 ?donee17 ?stope17)
          case assigne17 =>
            intro r pre x W K2 _ hI hK2
            have HK2 := Lib.hid hK2
            clear hK2
            gi_wp2
            exact HK2.out W (Only.refl _ _)
          case bodye17 =>
            rintro r pre x W hr _ hO2 hlen hsp
            rw [show zonesOf g g.d = [] from if_neg (by omega)] at hsp
            exact absurd hsp (by simp)
          case stope17 =>
            rintro D cx pre W hD - h
            exact h.elim
          case donee17 =>
            rintro D3 ys Wd hDe17 - hOe17 hKe17
            have hOae17 : Only [] Wc Wd := hOLe17.trans hOe17
            have zNe17 := hOe17.size
            have hgV := hOae17.get HGVe17.out (by simp)
            have hrsV := hOae17.get HRVe17.out (by simp)
            have hnV := hOae17.get HNVe17.out (by simp)
            have hseV := hOae17.get HSVe17.out (by simp)
            have hstV := hOae17.get HTVe17.out (by simp)
            obtain ⟨WLe18, hWL⟩ : ∃ WL, (Wd.alloc (.cells C 23)).alloc (.cells #[.int .i64 (-1)] 3) = WL := ⟨_, rfl⟩
            have hOLe18 : Only [] Wd WLe18 := by rw [← hWL]; exact ((Only.refl [] Wd).alloc _).alloc _
            have zLe18 := Nat.le_antisymm_iff.1 (show WLe18.heap.size = Wd.heap.size + 1 + 1 by rw [← hWL]; simp)
            have hl1 : WLe18.heap[Wd.heap.size]? = some (.cells C 23 (0, 0)) := by rw [← hWL]; (repeat (first | exact alloc_new _ _ (by first | (simp only [World.size_alloc]; done) | (simp only [World.size_alloc]; omega) | with_reducible rfl) | refine (alloc_old _ _ (by (try simp only [World.size_alloc]); omega)).trans ?_))
            have hl2 : WLe18.heap[Wd.heap.size + 1]? = some (.cells #[.int .i64 (-1)] 3 (0, 0)) := by rw [← hWL]; (repeat (first | exact alloc_new _ _ (by first | (simp only [World.size_alloc]; done) | (simp only [World.size_alloc]; omega) | with_reducible rfl) | refine (alloc_old _ _ (by (try simp only [World.size_alloc]); omega)).trans ?_))
            have HWL := Lib.hid hWL
            have HGVe18 := Lib.hid hgV
            have HRVe18 := Lib.hid hrsV
            have HNVe18 := Lib.hid hnV
            have HSVe18 := Lib.hid hseV
            have HTVe18 := Lib.hid hstV
            obtain ⟨c0, -⟩ := HCS.out _ _ _ hgV
            clear hWL hrsV hnV hseV hstV
            go_wp2_with (refine wpList_row_on (by rfl) 23 _ rfl w.heap.size rfl 23 _ _ _ hgV Try.underlying23 rfl HI.out ?_)
            refine (HIN.out _ _).mono ?_
            rintro e w9 ⟨rfl, rfl⟩
            rw [HWL.out]
            have hl1' : WLe18.heap[Wd.heap.size]? = some (.cells (GC g) 23 (0, 0)) := by rw [HCG.out]; exact hl1
            have HL1 := Lib.hid hl1'
            have HL2 := Lib.hid hl2
            clear HWL hgV c0 hl1 hl1' hl2
            go_wp2
            refine (wpIn_wide (n := 8)).1 (wpIn_rangeT1 rfl (by omega) (gf := 38) (lb := #[.pointer (some ⟨Wd.heap.size + 1, 0, none⟩), .pointer (some ⟨Wd.heap.size, 0, none⟩)]) rfl trivial (enters_of Try.func38 (by kernel_rfl) rfl)
              (gin1_T 7 (by omega) (Wd.heap.size + 1) Wd.heap.size g HSM.out (-1) WLe18 HL2.out HL1.out) (Below.refl _ _) (fun _ => rfl)
              [] (by simp) (by simp)
              (fun pre W => Only [] WLe18 W) (fun _ _ _ => False)
              (AbT.only (Nat.le_refl _) (by simp)) (fun _ => AbT.pure _ _ _) (Only.refl _ _) ?fre18 ?assigne18 ?bodye18 ?donee18 ?stope18)
            case assigne18 =>
              intro r pre x W K2 _ hI hK2
              have HK2 := Lib.hid hK2
              clear hK2
              gi_wp2
              exact HK2.out W (Only.refl _ _)
            case bodye18 =>
              rintro r pre x W hr _ hO2 hlen hsp
              rw [show zonesOf g (-1) = [] from if_neg (by omega)] at hsp
              exact absurd hsp (by simp)
            case stope18 =>
              rintro D cx pre W hD - h
              exact h.elim
            case donee18 =>
              rintro D4 ys We hDe18 - hOe18 hKe18
              have hOae18 : Only [] Wd We := hOLe18.trans hOe18
              have zNe18 := hOe18.size
              have hgV := hOae18.get HGVe18.out (by simp)
              have hrsV := hOae18.get HRVe18.out (by simp)
              have hnV := hOae18.get HNVe18.out (by simp)
              have hseV := hOae18.get HSVe18.out (by simp)
              have hstV := hOae18.get HTVe18.out (by simp)
              obtain ⟨c0, c1, -⟩ := HCS.out _ _ _ hgV
              have hc1 := cell_of_one hnV
              have hc2 := cell_of_one hseV
              have hc3 := cell_of_one hrsV
              have hf3 := free_of_one hrsV
              have hc4 := cell_of_one hstV
              have HRZ := Lib.hid hrsV
              have hKD3 := hOae18.get hKe17 (by simp)
              have hKD2 := hOae18.get (hOae17.get HKD.out (by simp)) (by simp)
              have hKDs : ∀ E ∈ ds, We.heap[E]? = some (.deferred (some [])) := fun E hE => hOae18.get (hOae17.get (HDV.out E hE).2 (by simp)) (by simp)
              have HKS : Hid (∀ E ∈ D4 :: D3 :: D2 :: ds, We.heap[E]? = some (.deferred (some []))) := Lib.hid (by
                intro E hE
                simp only [List.mem_cons] at hE
                rcases hE with e | e | e | e
                · rw [e]; exact hKe18
                · rw [e]; exact hKD3
                · rw [e]; exact hKD2
                · exact hKDs E e)
              have hlt3 := (Array.getElem?_eq_some_iff.1 hKe17).1
              have HND : Hid ((D4 :: D3 :: D2 :: ds).Nodup) := Lib.hid (by
                have hx : ∀ E ∈ ds, E < wr.heap.size := fun E hE => (Array.getElem?_eq_some_iff.1 (HDS.out E hE).2).1
                refine List.nodup_cons.2 ⟨fun hm => ?_, List.nodup_cons.2 ⟨fun hm => ?_, List.nodup_cons.2 ⟨fun hm => ?_, hnd⟩⟩⟩
                · simp only [List.mem_cons] at hm
                  rcases hm with e | e | e
                  · omega
                  · omega
                  · have := hx _ e; omega
                · simp only [List.mem_cons] at hm
                  rcases hm with e | e
                  · omega
                  · have := hx _ e; omega
                · have := hx _ hm; omega)
              have hOwe : Only [w2.heap.size] w We := (hOwc.trans (hOae17.mono (by simp))).trans (hOae18.mono (by simp))
              have hDge : ∀ E ∈ D4 :: D3 :: D2 :: ds, W3.heap.size ≤ E := by
                intro E hE
                simp only [List.mem_cons] at hE
                rcases hE with e | e | e | e
                · omega
                · omega
                · omega
                · exact (HDS.out E e).1
              clear hgV hnV hseV hrsV hstV hKD3 hKD2 hKDs hKe17 hKe18
              have t9 : (g.z == g.z) = true := by simp
              go_wp2
              refine leave_marks (v := .bool true) (D4 :: D3 :: D2 :: ds) _ HND.out (fun E hE => ?_) ?_
              · exact ((Only.refl [w.heap.size + 1 + 1] We).setCell (.inl (by simp)) _).get (HKS.out E hE) (by have := hDge E hE; simp; omega)
              · intro W' hO'
                have hr' := hO'.get (one_setCell HRZ.out) (fun hm => by have := hDge _ hm; omega)
                have hc' := cell_of_one hr'
                refine ⟨by simp [results, Try.results6, go_sem, hc'], rfl, ?_⟩
                have h7 : Only [w2.heap.size, w.heap.size + 1 + 1] w (We.setCell ⟨w.heap.size + 1 + 1, 0, none⟩ (.bool true)) := (hOwe.mono (by simp)).setCell (.inl (by simp)) _
                exact (h7.below (B := w.heap.size) (by simp; omega) (Nat.le_refl _)).trans (hO'.below (B := w.heap.size) (fun E hE => by have := hDge E hE; omega) (by simp; omega))

        case stopm5 =>
          rintro D2 cx pre Wc hD2 - ⟨rfl, hse, hO2⟩ hKD
          refine wpIn_wide.2 ?_
          have hOc : Only [wb.heap.size] wb Wc := (hOLb.mono (by simp)).trans hO2
          have hgb := hObw.get HG.out (by simp)
          have hrsb := hObw.get HR.out (by simp)
          have hnb := hObw.get HN.out (by simp)
          have hstb := hObw.get HT.out (by simp)
          have hgV := hOc.get hgb (by simp; omega)
          have hrsV := hOc.get hrsb (by simp; omega)
          have hnV := hOc.get hnb (by simp; omega)
          have hstV := hOc.get hstb (by simp; omega)
          have hseV := hse
          have hdsV : ∀ E ∈ ds, W3.heap.size ≤ E ∧ Wc.heap[E]? = some (.deferred (some [])) := fun E hE => ⟨(HDS.out E hE).1, hOc.get (hObw.get (HDS.out E hE).2 (by simp)) (by have := (Array.getElem?_eq_some_iff.1 (HDS.out E hE).2).1; simp; omega)⟩
          have HDV := Lib.hid hdsV
          have HKD := Lib.hid hKD
          have hOwc : Only [w2.heap.size] w Wc := (hOw.trans (hObw.mono (by simp))).trans' hOc (by simp; omega)
          have zc := (Array.getElem?_eq_some_iff.1 hKD).1
          have zbc := hOc.size
          clear hgb hrsb hnb hstb hse hOc hdsV hKD
          obtain ⟨WLe19, hWL⟩ : ∃ WL, (Wc.alloc (.cells C 23)).alloc (.cells #[.int .i64 g.d] 3) = WL := ⟨_, rfl⟩
          have hOLe19 : Only [] Wc WLe19 := by rw [← hWL]; exact ((Only.refl [] Wc).alloc _).alloc _
          have zLe19 := Nat.le_antisymm_iff.1 (show WLe19.heap.size = Wc.heap.size + 1 + 1 by rw [← hWL]; simp)
          have hl1 : WLe19.heap[Wc.heap.size]? = some (.cells C 23 (0, 0)) := by rw [← hWL]; (repeat (first | exact alloc_new _ _ (by first | (simp only [World.size_alloc]; done) | (simp only [World.size_alloc]; omega) | with_reducible rfl) | refine (alloc_old _ _ (by (try simp only [World.size_alloc]); omega)).trans ?_))
          have hl2 : WLe19.heap[Wc.heap.size + 1]? = some (.cells #[.int .i64 g.d] 3 (0, 0)) := by rw [← hWL]; (repeat (first | exact alloc_new _ _ (by first | (simp only [World.size_alloc]; done) | (simp only [World.size_alloc]; omega) | with_reducible rfl) | refine (alloc_old _ _ (by (try simp only [World.size_alloc]); omega)).trans ?_))
          have HWL := Lib.hid hWL
          have HGVe19 := Lib.hid hgV
          have HRVe19 := Lib.hid hrsV
          have HNVe19 := Lib.hid hnV
          have HSVe19 := Lib.hid hseV
          have HTVe19 := Lib.hid hstV
          obtain ⟨c0, -⟩ := HCS.out _ _ _ hgV
          clear hWL hrsV hnV hseV hstV
          go_wp2_with (refine wpList_row_on (by rfl) 23 _ rfl w.heap.size rfl 23 _ _ _ hgV Try.underlying23 rfl HI.out ?_)
          refine (HIN.out _ _).mono ?_
          rintro e w9 ⟨rfl, rfl⟩
          rw [HWL.out]
          have hl1' : WLe19.heap[Wc.heap.size]? = some (.cells (GC g) 23 (0, 0)) := by rw [HCG.out]; exact hl1
          have HL1 := Lib.hid hl1'
          have HL2 := Lib.hid hl2
          clear HWL hgV c0 hl1 hl1' hl2
          go_wp2
          refine (wpIn_wide (n := 8)).1 (wpIn_rangeT1 rfl (by omega) (gf := 38) (lb := #[.pointer (some ⟨Wc.heap.size + 1, 0, none⟩), .pointer (some ⟨Wc.heap.size, 0, none⟩)]) rfl trivial (enters_of Try.func38 (by kernel_rfl) rfl)
            (gin1_T 7 (by omega) (Wc.heap.size + 1) Wc.heap.size g HSM.out g.d WLe19 HL2.out HL1.out) (Below.refl _ _) (fun _ => rfl)
            [] (by simp) (by simp)
            (fun pre W => Only [] WLe19 W) (fun _ _ _ => False)
            (AbT.only (Nat.le_refl _) (by simp)) (fun _ => AbT.pure _ _ _) (Only.refl _ _) ?fre19 ?assigne19 ?bodye19 ?donee19 ?stope19)
          case assigne19 =>
            intro r pre x W K2 _ hI hK2
            have HK2 := Lib.hid hK2
            clear hK2
            gi_wp2
            exact HK2.out W (Only.refl _ _)
          case bodye19 =>
            rintro r pre x W hr _ hO2 hlen hsp
            rw [show zonesOf g g.d = [] from if_neg (by omega)] at hsp
            exact absurd hsp (by simp)
          case stope19 =>
            rintro D cx pre W hD - h
            exact h.elim
          case donee19 =>
            rintro D3 ys Wd hDe19 - hOe19 hKe19
            have hOae19 : Only [] Wc Wd := hOLe19.trans hOe19
            have zNe19 := hOe19.size
            have hgV := hOae19.get HGVe19.out (by simp)
            have hrsV := hOae19.get HRVe19.out (by simp)
            have hnV := hOae19.get HNVe19.out (by simp)
            have hseV := hOae19.get HSVe19.out (by simp)
            have hstV := hOae19.get HTVe19.out (by simp)
            obtain ⟨WLe20, hWL⟩ : ∃ WL, (Wd.alloc (.cells C 23)).alloc (.cells #[.int .i64 (-1)] 3) = WL := ⟨_, rfl⟩
            have hOLe20 : Only [] Wd WLe20 := by rw [← hWL]; exact ((Only.refl [] Wd).alloc _).alloc _
            have zLe20 := Nat.le_antisymm_iff.1 (show WLe20.heap.size = Wd.heap.size + 1 + 1 by rw [← hWL]; simp)
            have hl1 : WLe20.heap[Wd.heap.size]? = some (.cells C 23 (0, 0)) := by rw [← hWL]; (repeat (first | exact alloc_new _ _ (by first | (simp only [World.size_alloc]; done) | (simp only [World.size_alloc]; omega) | with_reducible rfl) | refine (alloc_old _ _ (by (try simp only [World.size_alloc]); omega)).trans ?_))
            have hl2 : WLe20.heap[Wd.heap.size + 1]? = some (.cells #[.int .i64 (-1)] 3 (0, 0)) := by rw [← hWL]; (repeat (first | exact alloc_new _ _ (by first | (simp only [World.size_alloc]; done) | (simp only [World.size_alloc]; omega) | with_reducible rfl) | refine (alloc_old _ _ (by (try simp only [World.size_alloc]); omega)).trans ?_))
            have HWL := Lib.hid hWL
            have HGVe20 := Lib.hid hgV
            have HRVe20 := Lib.hid hrsV
            have HNVe20 := Lib.hid hnV
            have HSVe20 := Lib.hid hseV
            have HTVe20 := Lib.hid hstV
            obtain ⟨c0, -⟩ := HCS.out _ _ _ hgV
            clear hWL hrsV hnV hseV hstV
            go_wp2_with (refine wpList_row_on (by rfl) 23 _ rfl w.heap.size rfl 23 _ _ _ hgV Try.underlying23 rfl HI.out ?_)
            refine (HIN.out _ _).mono ?_
            rintro e w9 ⟨rfl, rfl⟩
            rw [HWL.out]
            have hl1' : WLe20.heap[Wd.heap.size]? = some (.cells (GC g) 23 (0, 0)) := by rw [HCG.out]; exact hl1
            have HL1 := Lib.hid hl1'
            have HL2 := Lib.hid hl2
            clear HWL hgV c0 hl1 hl1' hl2
            go_wp2
            refine (wpIn_wide (n := 8)).1 (wpIn_rangeT1 rfl (by omega) (gf := 38) (lb := #[.pointer (some ⟨Wd.heap.size + 1, 0, none⟩), .pointer (some ⟨Wd.heap.size, 0, none⟩)]) rfl trivial (enters_of Try.func38 (by kernel_rfl) rfl)
              (gin1_T 7 (by omega) (Wd.heap.size + 1) Wd.heap.size g HSM.out (-1) WLe20 HL2.out HL1.out) (Below.refl _ _) (fun _ => rfl)
              [] (by simp) (by simp)
              (fun pre W => Only [] WLe20 W) (fun _ _ _ => False)
              (AbT.only (Nat.le_refl _) (by simp)) (fun _ => AbT.pure _ _ _) (Only.refl _ _) ?fre20 ?assigne20 ?bodye20 ?donee20 ?stope20)
            case assigne20 =>
              intro r pre x W K2 _ hI hK2
              have HK2 := Lib.hid hK2
              clear hK2
              gi_wp2
              exact HK2.out W (Only.refl _ _)
            case bodye20 =>
              rintro r pre x W hr _ hO2 hlen hsp
              rw [show zonesOf g (-1) = [] from if_neg (by omega)] at hsp
              exact absurd hsp (by simp)
            case stope20 =>
              rintro D cx pre W hD - h
              exact h.elim
            case donee20 =>
              rintro D4 ys We hDe20 - hOe20 hKe20
              have hOae20 : Only [] Wd We := hOLe20.trans hOe20
              have zNe20 := hOe20.size
              have hgV := hOae20.get HGVe20.out (by simp)
              have hrsV := hOae20.get HRVe20.out (by simp)
              have hnV := hOae20.get HNVe20.out (by simp)
              have hseV := hOae20.get HSVe20.out (by simp)
              have hstV := hOae20.get HTVe20.out (by simp)
              obtain ⟨c0, c1, -⟩ := HCS.out _ _ _ hgV
              have hc1 := cell_of_one hnV
              have hc2 := cell_of_one hseV
              have hc3 := cell_of_one hrsV
              have hf3 := free_of_one hrsV
              have hc4 := cell_of_one hstV
              have HRZ := Lib.hid hrsV
              have hKD3 := hOae20.get hKe19 (by simp)
              have hKD2 := hOae20.get (hOae19.get HKD.out (by simp)) (by simp)
              have hKDs : ∀ E ∈ ds, We.heap[E]? = some (.deferred (some [])) := fun E hE => hOae20.get (hOae19.get (HDV.out E hE).2 (by simp)) (by simp)
              have HKS : Hid (∀ E ∈ D4 :: D3 :: D2 :: ds, We.heap[E]? = some (.deferred (some []))) := Lib.hid (by
                intro E hE
                simp only [List.mem_cons] at hE
                rcases hE with e | e | e | e
                · rw [e]; exact hKe20
                · rw [e]; exact hKD3
                · rw [e]; exact hKD2
                · exact hKDs E e)
              have hlt3 := (Array.getElem?_eq_some_iff.1 hKe19).1
              have HND : Hid ((D4 :: D3 :: D2 :: ds).Nodup) := Lib.hid (by
                have hx : ∀ E ∈ ds, E < wr.heap.size := fun E hE => (Array.getElem?_eq_some_iff.1 (HDS.out E hE).2).1
                refine List.nodup_cons.2 ⟨fun hm => ?_, List.nodup_cons.2 ⟨fun hm => ?_, List.nodup_cons.2 ⟨fun hm => ?_, hnd⟩⟩⟩
                · simp only [List.mem_cons] at hm
                  rcases hm with e | e | e
                  · omega
                  · omega
                  · have := hx _ e; omega
                · simp only [List.mem_cons] at hm
                  rcases hm with e | e
                  · omega
                  · have := hx _ e; omega
                · have := hx _ hm; omega)
              have hOwe : Only [w2.heap.size] w We := (hOwc.trans (hOae19.mono (by simp))).trans (hOae20.mono (by simp))
              have hDge : ∀ E ∈ D4 :: D3 :: D2 :: ds, W3.heap.size ≤ E := by
                intro E hE
                simp only [List.mem_cons] at hE
                rcases hE with e | e | e | e
                · omega
                · omega
                · omega
                · exact (HDS.out E e).1
              clear hgV hnV hseV hrsV hstV hKD3 hKD2 hKDs hKe19 hKe20
              by_cases hsz : stop = g.z
              · subst hsz
                have t9 : (g.z == g.z) = true := by simp
                go_wp2
                refine leave_marks (v := .bool true) (D4 :: D3 :: D2 :: ds) _ HND.out (fun E hE => ?_) ?_
                · exact ((Only.refl [w.heap.size + 1 + 1] We).setCell (.inl (by simp)) _).get (HKS.out E hE) (by have := hDge E hE; simp; omega)
                · intro W' hO'
                  have hr' := hO'.get (one_setCell HRZ.out) (fun hm => by have := hDge _ hm; omega)
                  have hc' := cell_of_one hr'
                  refine ⟨by simp [results, Try.results6, go_sem, hc'], rfl, ?_⟩
                  have h7 : Only [w2.heap.size, w.heap.size + 1 + 1] w (We.setCell ⟨w.heap.size + 1 + 1, 0, none⟩ (.bool true)) := (hOwe.mono (by simp)).setCell (.inl (by simp)) _
                  exact (h7.below (B := w.heap.size) (by simp; omega) (Nat.le_refl _)).trans (hO'.below (B := w.heap.size) (fun E hE => by have := hDge E hE; omega) (by simp; omega))
              · have t9 : (stop == g.z) = false := by simpa using hsz
                go_wp2
                refine leave_marks (v := .bool true) (D4 :: D3 :: D2 :: ds) _ HND.out (fun E hE => ?_) ?_
                · exact ((Only.refl [w.heap.size + 1 + 1] We).setCell (.inl (by simp)) _).get (HKS.out E hE) (by have := hDge E hE; simp; omega)
                · intro W' hO'
                  have hr' := hO'.get (one_setCell HRZ.out) (fun hm => by have := hDge _ hm; omega)
                  have hc' := cell_of_one hr'
                  refine ⟨by simp [results, Try.results6, go_sem, hc'], rfl, ?_⟩
                  have h7 : Only [w2.heap.size, w.heap.size + 1 + 1] w (We.setCell ⟨w.heap.size + 1 + 1, 0, none⟩ (.bool true)) := (hOwe.mono (by simp)).setCell (.inl (by simp)) _
                  exact (h7.below (B := w.heap.size) (by simp; omega) (Nat.le_refl _)).trans (hO'.below (B := w.heap.size) (fun E hE => by have := hDge E hE; omega) (by simp; omega))
set_option maxRecDepth 100000 in
set_option maxHeartbeats 2000000 in
theorem geo_zones_walk (g : Geo.G) (zone off stop : Int) (w : World) :
    Calls Try.prog 6 #[.agg (GC g), .int .i64 zone, .int .i64 off, .int .i64 stop] w fun e w' => e = .returned (.bool true) ∧ Below w.heap.size w w' := by
  cases hr : Geo.right g
  · have HA := Lib.hid (fun W => geo_anchor W)
    have HRR := Lib.hid (fun W => by have := grefright_any g W; rwa [hr] at this)
    have HI := Lib.hid (gsize (g := g))
    have HHO := Lib.hid (fun (W : World) => by have := gholds_any g zone off W; rwa [show holdsG g zone off = false by unfold holdsG; rw [hr]; rfl] at this)
    obtain ⟨WX, hWX⟩ : ∃ WX, ((w.alloc (.cells (GC g) 23)).alloc (.cells #[.int .i64 stop] 3)).alloc (.cells #[.bool false] 4) = WX := ⟨_, rfl⟩
    have hOX : Only [] w WX := by rw [← hWX]; exact (((Only.refl [] w).alloc _).alloc _).alloc _
    have zX := Nat.le_antisymm_iff.1 (show WX.heap.size = w.heap.size + 1 + 1 + 1 by rw [← hWX]; simp)
    have hx0 : WX.heap[w.heap.size]? = some (.cells (GC g) 23 (0, 0)) := by rw [← hWX]; (repeat (first | exact alloc_new _ _ (by first | (simp only [World.size_alloc]; done) | (simp only [World.size_alloc]; omega) | with_reducible rfl) | refine (alloc_old _ _ (by (try simp only [World.size_alloc]); omega)).trans ?_))
    have hx2 : WX.heap[w.heap.size + 1 + 1]? = some (.cells #[.bool false] 4 (0, 0)) := by rw [← hWX]; (repeat (first | exact alloc_new _ _ (by first | (simp only [World.size_alloc]; done) | (simp only [World.size_alloc]; omega) | with_reducible rfl) | refine (alloc_old _ _ (by (try simp only [World.size_alloc]); omega)).trans ?_))
    have HWX := Lib.hid hWX
    clear hWX hr
    generalize GC g = C at *
    go_enter Try.func6, Try.ntmps6
    go_wp2_with fail
    rw [HWX.out]
    refine (HA.out _).mono ?_
    rintro e w1 ⟨rfl, hB1⟩
    have hg1 := (hB1.block w.heap.size (by omega)).trans hx0
    have hrs1 := (hB1.block (w.heap.size + 1 + 1) (by omega)).trans hx2
    have z1 := hB1.size
    go_wp2_with (refine wpList_row_on (by rfl) 23 _ rfl w.heap.size rfl 23 _ _ _ hg1 Try.underlying23 rfl HI.out ?_)
    refine (HRR.out _).mono ?_
    rintro e w2 ⟨rfl, hB2⟩
    have hg2 := (hB2.block w.heap.size (by omega)).trans hg1
    have hrs2 := (hB2.block (w.heap.size + 1 + 1) (by omega)).trans hrs1
    have z2 := hB2.size
    go_wp2_with (refine wpList_row_on (by rfl) 23 _ rfl w.heap.size rfl 23 _ _ _ hg2 Try.underlying23 rfl HI.out ?_)
    refine (HHO.out _).mono ?_
    rintro e w3 ⟨rfl, hB3⟩
    have hrs3 := (hB3.block (w.heap.size + 1 + 1) (by omega)).trans hrs2
    have hc3 := cell_of_one hrs3
    have hf3 := free_of_one hrs3
    have HR3 := Lib.hid hrs3
    have hO3 : Only [] w w3 := ((hOX.trans (Only.of_below hB1)).trans (Only.of_below hB2)).trans (Only.of_below hB3)
    clear hg1 hg2 hrs1 hrs2 hrs3 hx0 hx2
    go_wp2
    have hc' := cell_of_one (one_setCell (u := Value.bool true) HR3.out)
    refine bodyPost_ret (v := .bool true) (by simp [results, Try.results6, go_sem, hc']) rfl ⟨rfl, ?_⟩
    exact ((hO3.mono (T := [w.heap.size + 1 + 1]) (by simp)).setCell (.inl (by simp)) _).below (B := w.heap.size) (by simp; omega) (Nat.le_refl _)
  · exact geo_zones_core g zone off stop hr w
end Go.Proofs.Yteggijkcdlboeaa
