/- Proved here: the walk of the law on all pairs of a pool. -/
import Derived.Test.YtogijlpclceanaaPlStart
import Derived.Test.YtogijlpclceanaaGeoFits
import Derived.Test.YtogijlpclceanaaConf3
import Derived.Test.YtogijlpclceanaaConf5
namespace PoolM
theorem pairOf_none {D : Nat} {z : Int} {L : List Int} (h : pairZ D z L = none) : pairOf D z L = (L, 0, 0, 15) := by unfold pairOf; rw [h]
theorem pairOf_some {D : Nat} {z : Int} {L : List Int} {x y : Int} (h : pairZ D z L = some (x, y)) : pairOf D z L = (less (less L x) y, x, y, 0) := by unfold pairOf; rw [h]
theorem less_mem {L : List Int} {x y : Int} : y ∈ less L x ↔ y ∈ L ∧ y ≠ x := by
  unfold less
  rw [List.mem_filter]
  simp
/-- a pair's zones are gone, and of unlike domains -/
theorem pair_gone {D : Nat} {z : Int} {L : List Int} {x y : Int} (h : Ok D z L) (hD : 2 ≤ D) (hp : pairZ D z L = some (x, y)) :
    x ∉ less (less L x) y ∧ y ∉ less (less L x) y ∧ (less (less L x) y).length + 2 = L.length ∧ x / z ≠ y / z ∧ (0 ≤ x ∧ x < (D : Int) * z) ∧ (0 ≤ y ∧ y < (D : Int) * z) := by
  obtain ⟨t, u, ha, hb, hb', hx, hy, hy', hne, hxd, hyd⟩ := pairZ_some h hD hp
  have hk := (domB_is (D := D) z L hD).2.2.1
  have h1 := less_len h.nd hx
  have h2 := less_len (h.filter (fun y => y != x)).nd hy'
  refine ⟨fun h => ?_, fun h => ?_, ?_, by rw [hxd, hyd]; omega, h.rng x hx, h.rng y hy⟩
  · exact (less_mem.1 (less_mem.1 h).1).2 rfl
  · exact (less_mem.1 h).2 rfl
  · have h2' : (less (less L x) y).length + 1 = (less L x).length := h2
    omega
/-- if there is no pair, all zones lie in one domain -/
theorem none_one {D : Nat} {z : Int} {L : List Int} (h : Ok D z L) (hD : 2 ≤ D) (hp : pairZ D z L = none) {y : Nat × Int} (hy : y ∈ allTo z L D) : y.1 = domA D z L := by
  obtain ⟨h1, h2, h3⟩ := allTo_mem.1 hy
  have h0 := (pairZ_none h hD).1 hp
  obtain ⟨k1, -, k2, k3⟩ := domB_is (D := D) z L hD
  by_cases e : y.1 = domA D z L
  · exact e
  · have h4 := k3 y.1 h1 e
    have h5 : y.2 ∈ dl z L y.1 := dl_mem.2 ⟨h2, h3⟩
    have h6 : cnt z L y.1 = 0 := by omega
    unfold cnt at h6
    rw [List.length_eq_zero_iff.1 h6] at h5
    simp at h5
end PoolM
namespace Go.Proofs.Ytogijlpclceanaa
open Go.Conc Go.RowKit Go.Rv Go.Shelf
set_option linter.unusedVariables false
attribute [local go_sem] Oper.semAt_some
open PoolM (dl cnt Ok less allTo giveOf dropOf takeOf pairOf countOf npairs pairZ)
theorem give_cases2 (D : Nat) (z : Int) (L : List Int) (x : Int) : (∃ L', giveOf D z L x = (L', 0) ∧ L'.length = L.length + 1) ∨ ∃ e, e ≠ 0 ∧ giveOf D z L x = (L, e) := by
  unfold giveOf
  split
  · split
    · exact .inr ⟨16, by decide, rfl⟩
    · exact .inl ⟨_, rfl, by simp⟩
  · exact .inr ⟨13, by decide, rfl⟩
set_option maxRecDepth 100000 in
set_option maxHeartbeats 8000000 in
theorem pl_all_core (g : Geo.G) (hr : Geo.right g = true) (a : Option Addr) (l : List Int) (cp : Nat) (w : World) (hI : Ints w a l) (hl : l.length ≤ 100) :
    Calls Try.prog 8 #[.agg (GC g), .slice a l.length cp] w fun e w' => e = .returned (.bool true) ∧ Below w.heap.size w w' := by
  have hs := ((Geo.right_iff g).1 hr).1
  have HA := Lib.hid (fun W => pl_anchor W)
  have HST := Lib.hid (fun W => pstart_any g hr W)
  have HGI := Lib.hid (gsize (g := g))
  have HDM := Lib.hid (fun x W => gdomain_any g x W hs)
  have HI := Lib.hid hI
  have HRI : Hid (∀ d z v, (Try.prog.info? 61).map (·.size) = some (RP d z v).size) := Lib.hid (fun _ _ _ => (zero_of_info Try.infoRP).2)
  have hz := (zero_of_info Try.infoRP).1
  have t1 : decide (100 < (l.length : Int)) = false := decide_eq_false (by omega)
  obtain ⟨W0, hW0⟩ : ∃ W0, (w.alloc (.cells (GC g) 58)).alloc (.cells #[.bool false] 4) = W0 := ⟨_, rfl⟩
  have hal0 : Below w.heap.size w W0 := by rw [← hW0]; exact ((Below.refl _ _).alloc (Nat.le_refl _) _).alloc (by simp) _
  have hgA : W0.heap[w.heap.size]? = some (.cells (GC g) 58 (0, 0)) := by rw [← hW0]; exact heap_alloc2_old w _ _
  have hrA : W0.heap[w.heap.size + 1]? = some (.cells #[.bool false] 4 (0, 0)) := by rw [← hW0]; exact heap_alloc2_new w _ _
  have hsz : w.heap.size + 1 < W0.heap.size := (Array.getElem?_eq_some_iff.1 hrA).1
  have HW0 := Lib.hid hW0
  have HGG := Lib.hid (show ∀ P : PR, P.g = g → domOf P.g = domOf g ∧ P.g.z = g.z ∧ Geo.Small g from fun P h => by rw [h]; exact ⟨rfl, rfl, hs⟩)
  clear hI hs hr hW0
  generalize hC : GC g = C at *
  clear hC
  refine calls_of_marks Try.func8 rfl ?_
  simp only [Try.ntmps8, List.size_toArray, List.length_cons, List.length_nil, Nat.reduceAdd, Nat.reduceSub, Array.replicate_succ, Array.replicate_zero, List.push_toArray, List.append_toArray, List.nil_append, List.cons_append]
  go_upto_region 1 with (fail)
  rw [HW0.out]
  go_wp2_with fail
  refine (HA.out _).mono ?_
  rintro e w0 ⟨rfl, hB0⟩
  have hg0 := (hB0.block w.heap.size (by omega)).trans hgA
  have hr0 := (hB0.block (w.heap.size + 1) hsz).trans hrA
  have hBx := hal0.trans (hB0.mono hal0.size)
  have z0 := hB0.size
  clear hal0 hgA hrA hB0
  go_wp2_with (refine wpList_row_on (by rfl) 58 _ rfl w.heap.size rfl 58 _ _ _ hg0 Try.underlying58 rfl HGI.out ?_)
  refine (HST.out _).mono ?_
  rintro e w1 ⟨P, rfl, hPg, hP, hbs, hB1⟩
  have hg1 := (hB1.block w.heap.size (by omega)).trans hg0
  have hr1 := (hB1.block (w.heap.size + 1) (by omega)).trans hr0
  have HBW1 := Lib.hid (hBx.trans (hB1.mono hBx.size))
  obtain ⟨W2, hW2⟩ : ∃ W2, w1.alloc (.cells (RP g.d g.z (.slice none 0 0)) 61) = W2 := ⟨_, rfl⟩
  have hb2 : Below w1.heap.size w1 W2 := by rw [← hW2]; exact (Below.refl _ _).alloc (Nat.le_refl _) _
  have z1 : w.heap.size + 1 < w1.heap.size := (Array.getElem?_eq_some_iff.1 hr1).1
  have HG2 := Lib.hid ((hb2.block w.heap.size (by omega)).trans hg1)
  have HR2 := Lib.hid ((hb2.block (w.heap.size + 1) z1).trans hr1)
  have HP2 := Lib.hid (hP.below hb2)
  have HBW2 := Lib.hid (HBW1.out.trans (hb2.mono HBW1.out.size))
  have HBS : Hid (∀ k ∈ P.bs, w.heap.size + 1 < k) := Lib.hid (fun k hk => by have := hbs k hk; omega)
  have HLT := Lib.hid HP2.out.lt
  have HW2 := Lib.hid hW2
  obtain ⟨hgd, hgz, hgs⟩ := HGG.out P hPg
  have HGD := Lib.hid hgd
  have HGS := Lib.hid hgs
  have z2 := HBW2.out.size
  have zw2 : w.heap.size + 1 < W2.heap.size := (Array.getElem?_eq_some_iff.1 HR2.out).1
  clear hb2 hW2 hP hbs hB1 hBx hg0 hgd hgs hr0 hr1
  go_upto_region 4 with (refine wpList_store_row rfl 61 _ _ rfl w1.heap.size (RP g.d g.z (.slice none 0 0)) rfl rfl 61 (RP 0 0 (.slice none 0 0)) (heap_alloc_new w1 _) (HRI.out _ _ _) rfl (RP_one _ _ _ _ _) ?_; rw [World.setRow_alloc_new])
  rw [HW2.out]
  clear hg1
  go_wp2
  go_loopw [8, 46] (fun v i wr => ∃ (k : Nat) (L : List Int), k ≤ l.length ∧ i = .int .i64 k ∧ v = .int .i64 (L.length : Nat) ∧ L.length ≤ k ∧ PoolIs wr P L ∧ Only P.cs W2 wr) (fun _ i _ => l.length - (intOf i).toNat)
  case atStart => exact ⟨0, [], Nat.zero_le _, rfl, rfl, Nat.le_refl _, HP2.out, Only.refl _ _⟩
  case round =>
    obtain ⟨k, L, hk, rfl, rfl, hLk, hpl, hO⟩ := hrel
    have HPL := Lib.hid hpl
    have HOR := Lib.hid hO
    have hzz := hO.size
    clear hpl hO
    by_cases hlt : k < l.length
    · obtain ⟨b, ob, y, rfl, hbl, hcz, -, -, hy⟩ := HI.out.at hlt
      have hcell := (World.cell?_of_block (a := ⟨b, ob + k, none⟩) (HOR.out.block b (by omega) (fun h => by have := HBS.out _ (PR.cs_bs h); omega))).trans ((HBW2.out.cell (p := ⟨b, ob + k, none⟩) hbl).trans hcz)
      clear hcz hy
      have HGV := Lib.hid (pgive_any wr P L HPL.out y)
      rcases give_cases2 P.qc.length P.g.z L y with ⟨L', he, hlen⟩ | ⟨e0, hne, he⟩
      · rw [he] at HGV
        have HLN := Lib.hid hlen
        clear he hlen
        generalize L.length = n at *
        go_wp2_with fail
        refine HGV.out.mono ?_
        rintro e w3 ⟨rfl, hp3, hO3⟩
        have HP3 := Lib.hid hp3
        have HO3 := Lib.hid (HOR.out.trans hO3)
        clear hp3 hO3
        go_wp2
        go_roundw
        case rel => exact ⟨k + 1, L', by omega, by go_num, by rw [HLN.out]; go_num, by rw [HLN.out]; omega, HP3.out, HO3.out⟩
        case measure => simp [intOf]; omega
      · rw [he] at HGV
        have t5 : (e0 == 0) = false := by simpa using hne
        clear he hne
        go_wp2_with fail
        refine HGV.out.mono ?_
        rintro e w3 ⟨rfl, hp3, hO3⟩
        have HP3 := Lib.hid hp3
        have HO3 := Lib.hid (HOR.out.trans hO3)
        clear hp3 hO3
        go_wp2
        go_roundw
        case rel => exact ⟨k + 1, L, by omega, by go_num, rfl, by omega, HP3.out, HO3.out⟩
        case measure => simp [intOf]; omega
    · obtain rfl : k = l.length := by omega
      have HPR := Lib.hid (ppairs_eq wr P L HPL.out)
      have h8 := HPL.out.len8
      have hD : 2 ≤ P.qc.length := by omega
      obtain ⟨np, hnp⟩ : ∃ np, npairs P.qc.length P.g.z L = np := ⟨_, rfl⟩
      have hnl : np ≤ L.length := by rw [← hnp]; exact PoolM.npairs_le
      rw [hnp] at HPR
      have HNP := Lib.hid hnp
      obtain ⟨wo, hwo⟩ : ∃ wo : World, wo = wr := ⟨_, rfl⟩
      subst hwo
      clear hnp hlt
      go_wp2_with fail
      refine HPR.out.mono ?_
      rintro e w3 ⟨rfl, hB3⟩
      have HP3 := Lib.hid (HPL.out.below hB3)
      have HO3 : Hid (Only P.cs W2 w3) := Lib.hid (HOR.out.trans (Only.of_below hB3))
      clear hB3
      go_wp2
      go_loopw [8, 60] (fun v i wy => ∃ (j : Nat) (M : List Int), j ≤ np ∧ i = .int .i64 j ∧ v = .int .i64 (M.length : Nat) ∧ npairs P.qc.length P.g.z M + j = np ∧ M.length ≤ 100 ∧ PoolIs wy P M ∧ Only P.cs W2 wy) (fun _ i _ => np - (intOf i).toNat)
      case atStart => exact ⟨0, L, Nat.zero_le _, rfl, rfl, HNP.out, by omega, HP3.out, HO3.out⟩
      case round =>
        obtain ⟨j, M, hj, rfl, rfl, hnm, hMl, hpl, hO⟩ := hrel
        have HPM := Lib.hid hpl
        have HOM := Lib.hid hO
        have hzm := hO.size
        clear hpl hO
        by_cases hlt : j < np
        · have hne : pairZ P.qc.length P.g.z M ≠ none := fun e => by rw [(PoolM.npairs_none HPM.out.ok hD).2 e] at hnm; omega
          obtain ⟨xy, hxy⟩ := Option.ne_none_iff_exists'.1 hne
          obtain ⟨x, y⟩ := xy
          have HPP := Lib.hid (ppair_any wr P M HPM.out)
          rw [PoolM.pairOf_some hxy] at HPP
          obtain ⟨hx, hy, hml, hdd, hxr, hyr⟩ := PoolM.pair_gone HPM.out.ok hD hxy
          have hst := PoolM.pairZ_step HPM.out.ok hD hxy
          have HDX : Hid (domOf g x = x / P.g.z) := Lib.hid (by rw [← HGD.out]; unfold domOf; rw [if_pos (by rw [← HPM.out.len]; exact hxr)])
          have HDY : Hid (domOf g y = y / P.g.z) := Lib.hid (by rw [← HGD.out]; unfold domOf; rw [if_pos (by rw [← HPM.out.len]; exact hyr)])
          have HHX : Hid (∀ W, PoolIs W P (less (less M x) y) → Calls Try.prog 36 #[.pointer (some ⟨P.p, 0, none⟩), .int .i64 x] W fun e w' => e = .returned (.bool false) ∧ PoolIs w' P (less (less M x) y) ∧ Only P.cs W w') := Lib.hid (fun W hW => by have := phas_any W P _ hW x; rwa [decide_eq_false hx] at this)
          have HHY : Hid (∀ W, PoolIs W P (less (less M x) y) → Calls Try.prog 36 #[.pointer (some ⟨P.p, 0, none⟩), .int .i64 y] W fun e w' => e = .returned (.bool false) ∧ PoolIs w' P (less (less M x) y) ∧ Only P.cs W w') := Lib.hid (fun W hW => by have := phas_any W P _ hW y; rwa [decide_eq_false hy] at this)
          have HD1 : Hid (∀ W, Calls Try.prog 31 #[.agg C, .int .i64 x] W fun e w' => e = .returned (.int .i64 (x / P.g.z)) ∧ Below W.heap.size W w') := Lib.hid (fun W => by have := HDM.out x W; rwa [HDX.out] at this)
          have HD2 : Hid (∀ W, Calls Try.prog 31 #[.agg C, .int .i64 y] W fun e w' => e = .returned (.int .i64 (y / P.g.z)) ∧ Below W.heap.size W w') := Lib.hid (fun W => by have := HDM.out y W; rwa [HDY.out] at this)
          obtain ⟨M', hM'⟩ : ∃ M', less (less M x) y = M' := ⟨_, rfl⟩
          rw [hM'] at HPP hml hst HHX HHY
          obtain ⟨dx, hdx⟩ : ∃ dx, x / P.g.z = dx := ⟨_, rfl⟩
          obtain ⟨dy, hdy⟩ : ∃ dy, y / P.g.z = dy := ⟨_, rfl⟩
          rw [hdx] at HD1 hdd
          rw [hdy] at HD2 hdd
          have HML := Lib.hid hml
          have HNM : Hid (npairs P.qc.length P.g.z M' + (j + 1) = np) := Lib.hid (by omega)
          have HM2 : Hid ((M'.length : Int) = (M.length : Int) - 2) := Lib.hid (by omega)
          have HM1 : Hid (M'.length ≤ 100) := Lib.hid (by omega)
          have hm2 : 2 ≤ M.length := by omega
          have t5 : (dx == dy) = false := by simpa using hdd
          clear hne hxy hx hy hst hxr hyr hM' hdx hdy HDX HDY hml hnm hdd
          go_wp2_with fail
          refine HPP.out.mono ?_
          rintro e w4 ⟨rfl, hp4, hO4⟩
          have HP4 := Lib.hid hp4
          have HO4 := Lib.hid (HOM.out.trans hO4)
          have HG4 := Lib.hid (HO4.out.get HG2.out (fun h => by have := HBS.out _ (PR.cs_bs h); omega))
          have zg4 : w.heap.size < w4.heap.size := (Array.getElem?_eq_some_iff.1 HG4.out).1
          have HGN : Hid (w.heap.size ∉ P.cs) := Lib.hid (fun h => by have := HBS.out _ (PR.cs_bs h); omega)
          clear hp4 hO4
          obtain ⟨ml, hmm⟩ : ∃ ml, M.length = ml := ⟨_, rfl⟩
          rw [hmm] at HM2 hm2 hMl ⊢
          clear hmm
          go_wp2
          refine wp_region_stage 20 [.int .i64 0, .bool false, .bool false, .agg C, .int .i64 x, .int .i64 dx, .agg C, .int .i64 y, .int .i64 dy, .bool false, .bool false, .bool false, .pointer (some ⟨P.p, 0, none⟩), .int .i64 x, .bool false, .bool false, .bool false, .pointer (some ⟨P.p, 0, none⟩), .int .i64 y, .bool false] [14, 15, 16, 19] [0, 0, 0, 0, 0, 0, 0, 0, 0, 0, 0, 0, 0, 0, 1, 2, 3, 3, 3, 4] (fun _ W => PoolIs W P M' ∧ Only P.cs w4 W) ?raA (by kernel_rfl) (by kernel_rfl) (by kernel_rfl) ?rahA ?rah0 ?rahb ?raho ?rahend
          case rahA =>
            intro vv
            simp only [putRules, Nat.reduceAdd]
            rfl
          case rah0 =>
            exact ⟨HP4.out.only (Only.refl [] _).drew (by simp), (Only.refl _ _).drew⟩
          case rahb =>
            intro s W W' ⟨h1, h2⟩ hB
            exact ⟨h1.below hB, h2.trans (Only.of_below hB)⟩
          case raho =>
            refine ⟨?_, ?_, ?_, ?_, ?_, ?_, ?_, ?_, ?_, ?_, ?_, ?_, ?_, ?_, ?_, ?_, ?_, ?_, ?_, ?_, trivial⟩
            · intro vv W K s hlo hI hd HK
              simp only [confRules, conf5Rules] at HK
              clear hd
              go_wp2
              refine HK.out _ _ (Below.refl _ _) ?_
              rfl
            · intro vv W K s hlo hI hd HK
              simp only [confRules, conf5Rules] at hd HK
              have h0 := hd
              clear hd
              simp only [h0] at HK ⊢
              clear h0
              go_wp2
              refine HK.out _ _ (Below.refl _ _) ?_
              rfl
            · intro vv W K s hlo hI hd HK
              simp only [confRules, conf5Rules] at hd HK
              have h1 := hd
              clear hd
              simp only [h1] at HK ⊢
              clear h1
              go_wp2
              refine HK.out _ _ (Below.refl _ _) ?_
              rfl
            · intro vv W K s hlo hI hd HK
              simp only [confRules, conf5Rules] at hd HK
              have h2 := hd
              clear hd
              simp only [h2] at HK ⊢
              clear h2
              refine wpList_guard_yes (by rfl) ?_
              have hT := hI.2.get HG4.out HGN.out
              go_wp2_with (refine wpList_row_on (by rfl) 58 _ rfl w.heap.size rfl 58 _ _ _ hT Try.underlying58 rfl HGI.out ?_)
              refine HK.out _ _ (Below.refl _ _) ?_
              rfl
            · intro vv W K s hlo hI hd HK
              simp only [confRules, conf5Rules] at hd HK
              have h2 := hd
              clear hd
              simp only [h2] at HK ⊢
              clear h2
              refine wpList_guard_yes (by rfl) ?_
              go_wp2
              refine HK.out _ _ (Below.refl _ _) ?_
              rfl
            · intro vv W K s hlo hI hd HK
              simp only [confRules, conf5Rules] at hd HK
              obtain ⟨h3, h4, h2, _⟩ := hd
              simp only [h3, h4, h2] at HK ⊢
              clear h3 h4 h2
              refine wpList_guard_yes (by rfl) ?_
              go_wp2_with (refine (HD1.out _).mono ?_; rintro e w9 ⟨rfl, hB9⟩)
              refine HK.out _ _ hB9 ?_
              rfl
            · intro vv W K s hlo hI hd HK
              simp only [confRules, conf5Rules] at hd HK
              have h2 := hd
              clear hd
              simp only [h2] at HK ⊢
              clear h2
              refine wpList_guard_yes (by rfl) ?_
              have hT := hI.2.get HG4.out HGN.out
              go_wp2_with (refine wpList_row_on (by rfl) 58 _ rfl w.heap.size rfl 58 _ _ _ hT Try.underlying58 rfl HGI.out ?_)
              refine HK.out _ _ (Below.refl _ _) ?_
              rfl
            · intro vv W K s hlo hI hd HK
              simp only [confRules, conf5Rules] at hd HK
              have h2 := hd
              clear hd
              simp only [h2] at HK ⊢
              clear h2
              refine wpList_guard_yes (by rfl) ?_
              go_wp2
              refine HK.out _ _ (Below.refl _ _) ?_
              rfl
            · intro vv W K s hlo hI hd HK
              simp only [confRules, conf5Rules] at hd HK
              obtain ⟨h6, h7, h5, h2⟩ := hd
              simp only [h6, h7, h5, h2] at HK ⊢
              clear h6 h7 h5 h2
              refine wpList_guard_yes (by rfl) ?_
              go_wp2_with (refine (HD2.out _).mono ?_; rintro e w9 ⟨rfl, hB9⟩)
              refine HK.out _ _ hB9 ?_
              rfl
            · intro vv W K s hlo hI hd HK
              simp only [confRules, conf5Rules] at hd HK
              obtain ⟨h5, h8, h2⟩ := hd
              simp only [h5, h8, h2] at HK ⊢
              clear h5 h8 h2
              refine wpList_guard_yes (by rfl) ?_
              go_wp2
              refine HK.out _ _ (Below.refl _ _) ?_
              first | rfl | exact congrArg Value.bool (by simp)
            · intro vv W K s hlo hI hd HK
              simp only [confRules, conf5Rules] at hd HK
              obtain ⟨h2, h9⟩ := hd
              simp only [h2, h9] at HK ⊢
              clear h2 h9
              go_wp2
              refine HK.out _ _ (Below.refl _ _) ?_
              rfl
            · intro vv W K s hlo hI hd HK
              simp only [confRules, conf5Rules] at hd HK
              obtain ⟨h10, h8⟩ := hd
              simp only [h10, h8] at HK ⊢
              clear h10 h8
              go_wp2
              refine HK.out _ _ (Below.refl _ _) ?_
              rfl
            · intro vv W K s hlo hI hd HK
              simp only [confRules, conf5Rules] at hd HK
              have h11 := hd
              clear hd
              simp only [h11] at HK ⊢
              clear h11
              refine wpList_guard_yes (by rfl) ?_
              go_wp2
              refine HK.out _ _ (Below.refl _ _) ?_
              rfl
            · intro vv W K s hlo hI hd HK
              simp only [confRules, conf5Rules] at hd HK
              have h11 := hd
              clear hd
              simp only [h11] at HK ⊢
              clear h11
              refine wpList_guard_yes (by rfl) ?_
              go_wp2
              refine HK.out _ _ (Below.refl _ _) ?_
              rfl
            · intro vv W K hI hd HK
              simp only [confRules, conf5Rules] at hd HK
              obtain ⟨h12, h13, h11, _⟩ := hd
              simp only [h12, h13, h11] at HK ⊢
              clear h12 h13 h11
              refine wpList_guard_yes (by rfl) ?_
              obtain ⟨h1, h2⟩ := hI
              go_wp2_with (refine (HHX.out _ h1).mono ?_; rintro e w9 ⟨rfl, h9, hO9⟩)
              refine HK.out _ _ ⟨h9, h2.trans hO9⟩ ?_
              rfl
            · intro vv W K hI hd HK
              simp only [confRules, conf5Rules] at hd HK
              obtain ⟨h11, h14⟩ := hd
              simp only [h11, h14] at HK ⊢
              clear h11 h14
              go_wp2
              refine HK.out _ _ hI ?_
              rfl
            · intro vv W K hI hd HK
              simp only [confRules, conf5Rules] at hd HK
              obtain ⟨h15, h14⟩ := hd
              simp only [h15, h14] at HK ⊢
              clear h15 h14
              go_wp2
              refine HK.out _ _ hI ?_
              rfl
            · intro vv W K s hlo hI hd HK
              simp only [confRules, conf5Rules] at hd HK
              have h16 := hd
              clear hd
              simp only [h16] at HK ⊢
              clear h16
              refine wpList_guard_yes (by rfl) ?_
              go_wp2
              refine HK.out _ _ (Below.refl _ _) ?_
              rfl
            · intro vv W K s hlo hI hd HK
              simp only [confRules, conf5Rules] at hd HK
              have h16 := hd
              clear hd
              simp only [h16] at HK ⊢
              clear h16
              refine wpList_guard_yes (by rfl) ?_
              go_wp2
              refine HK.out _ _ (Below.refl _ _) ?_
              rfl
            · intro vv W K hI hd HK
              simp only [confRules, conf5Rules] at hd HK
              obtain ⟨h17, h18, h16, _⟩ := hd
              simp only [h17, h18, h16] at HK ⊢
              clear h17 h18 h16
              refine wpList_guard_yes (by rfl) ?_
              obtain ⟨h1, h2⟩ := hI
              go_wp2_with (refine (HHY.out _ h1).mono ?_; rintro e w9 ⟨rfl, h9, hO9⟩)
              refine HK.out _ _ ⟨h9, h2.trans hO9⟩ ?_
              rfl
          case rahend =>
            intro vv W hI hf
            have e16 := hf 16 (by decide)
            have e19 := hf 19 (by decide)
            simp only [conf5Rules] at e16 e19
            simp only [e16, e19, dropRules]
            clear hf e16 e19
            obtain ⟨hp5, hO5⟩ := hI
            have HP5 := Lib.hid hp5
            have HO5 := Lib.hid (HO4.out.trans hO5)
            clear hp5 hO5
            go_wp2
            go_roundw
            case rel => exact ⟨j + 1, M', by omega, by go_num, by rw [HM2.out], HNM.out, HM1.out, HP5.out, HO5.out⟩
            case measure => simp [intOf]; omega
        · obtain rfl : j = np := by omega
          have hn0 : npairs P.qc.length P.g.z M = 0 := by omega
          have hpz := (PoolM.npairs_none HPM.out.ok hD).1 hn0
          have HPP := Lib.hid (fun (W : World) (h : PoolIs W P M) => by have := ppair_any W P M h; rw [PoolM.pairOf_none hpz] at this; exact this)
          have HNN := Lib.hid (fun (W : World) (h : PoolIs W P M) => by have := ppairs_eq W P M h; rw [hn0] at this; exact this)
          have HONE : Hid (∀ y ∈ allTo P.g.z M P.qc.length, y.1 = PoolM.domA P.qc.length P.g.z M) := Lib.hid (fun y hy => PoolM.none_one HPM.out.ok hD hpz hy)
          have HAL := Lib.hid (HPM.out.ok.all_len)
          have hda := (PoolM.domA_is (D := P.qc.length) P.g.z M hD).1
          obtain ⟨da, hdae⟩ : ∃ da, PoolM.domA P.qc.length P.g.z M = da := ⟨_, rfl⟩
          rw [hdae] at HONE hda
          have HPA := Lib.hid (fun W => pall_any (some ⟨P.p, 0, none⟩) W)
          obtain ⟨ml, hmm⟩ : ∃ ml, M.length = ml := ⟨_, rfl⟩
          rw [hmm] at HAL hMl ⊢
          clear hn0 hpz hnm hdae hmm
          obtain ⟨wp, hwp⟩ : ∃ wp : World, wp = wr := ⟨_, rfl⟩
          subst hwp
          go_wp2_with fail
          refine (HPA.out _).mono ?_
          rintro e w4 ⟨rfl, rfl⟩
          obtain ⟨WL, hWL⟩ : ∃ WL, ((wp.alloc (.cells #[.int .i64 0] 3)).alloc (.cells #[.int .i64 (-1)] 3)).alloc (.cells #[.pointer (some ⟨P.p, 0, none⟩)] 59) = WL := ⟨_, rfl⟩
          have hOL : Only [] wp WL := by rw [← hWL]; exact (((Only.refl [] wp).alloc _).alloc _).alloc _
          have zL : WL.heap.size = wp.heap.size + 1 + 1 + 1 := by rw [← hWL]; simp
          have hb0 : WL.heap[wp.heap.size]? = some (.cells #[.int .i64 0] 3 (0, 0)) := by rw [← hWL]; (repeat (first | exact alloc_new _ _ (by simp) | refine (alloc_old _ _ (by (try simp only [World.size_alloc]); omega)).trans ?_))
          have hb1 : WL.heap[wp.heap.size + 1]? = some (.cells #[.int .i64 (-1)] 3 (0, 0)) := by rw [← hWL]; (repeat (first | exact alloc_new _ _ (by simp) | refine (alloc_old _ _ (by (try simp only [World.size_alloc]); omega)).trans ?_))
          have hb2 : WL.heap[wp.heap.size + 1 + 1]? = some (.cells #[.pointer (some ⟨P.p, 0, none⟩)] 59 (0, 0)) := by rw [← hWL]; (repeat (first | exact alloc_new _ _ (by simp) | refine (alloc_old _ _ (by (try simp only [World.size_alloc]); omega)).trans ?_))
          have hsz2 : ((wp.alloc (.cells #[.int .i64 0] 3)).alloc (.cells #[.int .i64 (-1)] 3)).heap.size = wp.heap.size + 1 + 1 := by simp
          have hn1 : (-1 : Int) = -1 := rfl
          rw [hWL, hsz2]
          clear hWL hsz2 hn1
          have HPL2 := Lib.hid (HPM.out.only hOL (by simp))
          have HOL2 : Hid (Only P.cs W2 WL) := Lib.hid (HOM.out.trans (hOL.mono (by simp)))
          have HRL := Lib.hid (HOL2.out.get HR2.out (fun h => by have := HBS.out _ (PR.cs_bs h); omega))
          have HCL : Hid (∀ k ∈ P.cs, k < WL.heap.size) := Lib.hid (fun k hk => HPL2.out.lt k (PR.cs_bs hk))
          have HBL : Hid (∀ k ∈ P.bs, k < wp.heap.size) := Lib.hid (fun k hk => HPM.out.lt k hk)
          have HNE : Hid (∀ i, wp.heap.size ≤ i → i ∉ P.bs ∧ i ∉ P.cs) := Lib.hid (fun i hi => ⟨fun h => by have := HBL.out i h; omega, fun h => by have := HBL.out i (PR.cs_bs h); omega⟩)
          have HRN : Hid (w.heap.size + 1 ∉ P.bs ∧ w.heap.size + 1 ∉ P.cs) := Lib.hid ⟨fun h => by have := HBS.out _ h; omega, fun h => by have := HBS.out _ (PR.cs_bs h); omega⟩
          have HSQ := Lib.hid (pall1_stops 7 (wp.heap.size + 1 + 1) P M WL hb2 HPL2.out)
          have HTT : Hid (∀ k ∈ [wp.heap.size, wp.heap.size + 1], k < WL.heap.size ∧ k ∉ P.bs) := Lib.hid (fun k hk => by
            have : k = wp.heap.size ∨ k = wp.heap.size + 1 := by simpa using hk
            exact ⟨by omega, (HNE.out k (by omega)).1⟩)
          have HCM : Hid (∀ k ∈ P.cs, k ∈ wp.heap.size :: (wp.heap.size + 1) :: P.cs) := Lib.hid (fun k hk => by simp [hk])
          obtain ⟨lastV, hlv⟩ : ∃ lastV : List (Nat × Int) → Int, lastV = fun pre => if pre.length = 0 then -1 else (da : Int) := ⟨_, rfl⟩
          have HI0 : Hid (WL.heap[wp.heap.size]? = some (.cells #[.int .i64 (([] : List (Nat × Int)).length : Nat)] 3 (0, 0)) ∧ WL.heap[wp.heap.size + 1]? = some (.cells #[.int .i64 (lastV [])] 3 (0, 0)) ∧ PoolIs WL P M ∧ Only (wp.heap.size :: (wp.heap.size + 1) :: P.cs) WL WL) := Lib.hid ⟨hb0, by rw [hlv]; exact hb1, HPL2.out, Only.refl _ _⟩
          have HAI : Hid (AbT WL.heap.size P.cs (fun (pre : List (Nat × Int)) W => W.heap[wp.heap.size]? = some (.cells #[.int .i64 (pre.length : Nat)] 3 (0, 0)) ∧ W.heap[wp.heap.size + 1]? = some (.cells #[.int .i64 (lastV pre)] 3 (0, 0)) ∧ PoolIs W P M ∧ Only (wp.heap.size :: (wp.heap.size + 1) :: P.cs) WL W)) := Lib.hid
            ((AbT.row (b := wp.heap.size) (fun (pre : List (Nat × Int)) => #[.int .i64 (pre.length : Nat)]) (HNE.out _ (by omega)).2).and ((AbT.row (b := wp.heap.size + 1) (fun (pre : List (Nat × Int)) => #[.int .i64 (lastV pre)]) (HNE.out _ (by omega)).2).and ((AbT.pool HCL.out).and (AbT.only (Nat.le_refl _) HCM.out))))
          have HLV := Lib.hid hlv
          clear hb0 hb1 hb2 hlv
          go_wp2
          refine (wpIn_wide (n := 8)).1 (wpIn_rangeT1 rfl (by omega) (gf := 50) (lb := #[.pointer (some ⟨wp.heap.size + 1 + 1, 0, none⟩)]) rfl trivial (enters_of Try.func50 (by kernel_rfl) rfl)
            HSQ.out (Below.refl _ _) (fun _ => rfl) [wp.heap.size, wp.heap.size + 1] HTT.out HCL.out
            (fun pre W => W.heap[wp.heap.size]? = some (.cells #[.int .i64 (pre.length : Nat)] 3 (0, 0)) ∧ W.heap[wp.heap.size + 1]? = some (.cells #[.int .i64 (lastV pre)] 3 (0, 0)) ∧ PoolIs W P M ∧ Only (wp.heap.size :: (wp.heap.size + 1) :: P.cs) WL W)
            (fun _ _ _ => False)
            HAI.out (fun _ => AbT.pure _ _ _) HI0.out ?fr ?assign ?body ?done ?stop)
          case assign =>
            intro rr pre x W2 K2 _ hI hK2
            have HK2 := Lib.hid hK2
            clear hK2
            unfold pzV
            gi_wp2
            exact HK2.out W2 (Only.refl _ _)
          case body =>
            rintro rr pre x Wb _ hrr ⟨hl2, hs2, hP2, hO2⟩ hlen hsp
            have hxd : (x.1 : Int) = da := by have := HONE.out x (hsp.subset (by simp)); omega
            have hpl : pre.length < ml := by
              have := hsp.length_le
              rw [HAL.out, List.length_append] at this
              simp at this
              omega
            have HLN : Hid (lastV (pre ++ [x]) = da) := Lib.hid (by rw [HLV.out]; simp)
            have HP2' := Lib.hid hP2
            have HO2' := Lib.hid hO2
            have HL2 := Lib.hid hl2
            have HS2 := Lib.hid hs2
            have hcl := cell_of_one hl2
            have hcs := cell_of_one hs2
            have hfl := free_of_one hl2
            have hfs := free_of_one hs2
            have hne12 : (wp.heap.size = wp.heap.size + 1) = False := by simp
            have HEND : Hid (Only [wp.heap.size, wp.heap.size + 1] Wb ((Wb.setCell ⟨wp.heap.size + 1, 0, none⟩ (.int .i64 (x.1 : Nat))).setCell ⟨wp.heap.size, 0, none⟩ (.int .i64 ((pre.length : Int) + 1))) ∧
                (((Wb.setCell ⟨wp.heap.size + 1, 0, none⟩ (.int .i64 (x.1 : Nat))).setCell ⟨wp.heap.size, 0, none⟩ (.int .i64 ((pre.length : Int) + 1))).heap[wp.heap.size]? = some (.cells #[.int .i64 ((pre ++ [x]).length : Nat)] 3 (0, 0)) ∧
                ((Wb.setCell ⟨wp.heap.size + 1, 0, none⟩ (.int .i64 (x.1 : Nat))).setCell ⟨wp.heap.size, 0, none⟩ (.int .i64 ((pre.length : Int) + 1))).heap[wp.heap.size + 1]? = some (.cells #[.int .i64 (lastV (pre ++ [x]))] 3 (0, 0)) ∧
                PoolIs ((Wb.setCell ⟨wp.heap.size + 1, 0, none⟩ (.int .i64 (x.1 : Nat))).setCell ⟨wp.heap.size, 0, none⟩ (.int .i64 ((pre.length : Int) + 1))) P M ∧ Only (wp.heap.size :: (wp.heap.size + 1) :: P.cs) WL ((Wb.setCell ⟨wp.heap.size + 1, 0, none⟩ (.int .i64 (x.1 : Nat))).setCell ⟨wp.heap.size, 0, none⟩ (.int .i64 ((pre.length : Int) + 1))))) := Lib.hid (by
              have h0 : Only [wp.heap.size, wp.heap.size + 1] Wb ((Wb.setCell ⟨wp.heap.size + 1, 0, none⟩ (.int .i64 (x.1 : Nat))).setCell ⟨wp.heap.size, 0, none⟩ (.int .i64 ((pre.length : Int) + 1))) := ((Only.refl _ _).setCell (.inl (by simp)) _).setCell (.inl (by simp)) _
              have h1 : (Wb.setCell ⟨wp.heap.size + 1, 0, none⟩ (.int .i64 (x.1 : Nat))).heap[wp.heap.size]? = some (.cells #[.int .i64 (pre.length : Nat)] 3 (0, 0)) := (Below.heap_setCell _ _ _ _ (by simp)).trans hl2
              refine ⟨h0, ?_, ?_, hP2.only h0 (fun k hk => (HTT.out k hk).2), (hO2.setCell (.inl (by simp)) _).setCell (.inl (by simp)) _⟩
              · rw [one_setCell h1, List.length_append, List.length_singleton]; rfl
              · rw [HLN.out, ← hxd]
                exact (Below.heap_setCell _ _ _ _ (by simp)).trans (one_setCell hs2))
            have HXD := Lib.hid hxd
            clear hl2 hs2 hP2 hO2 hlen hsp hxd
            by_cases h0 : pre.length = 0
            · have t6 : decide (0 < (pre.length : Int)) = false := decide_eq_false (by omega)
              have t6n : decide (0 < pre.length) = false := decide_eq_false (by omega)
              have t6m : ¬ 0 < pre.length := by omega
              clear h0
              gi_wp2
              exact HEND.out
            · have t6 : decide (0 < (pre.length : Int)) = true := decide_eq_true (by omega)
              have t6n : decide (0 < pre.length) = true := decide_eq_true (by omega)
              have t6m : 0 < pre.length := by omega
              have hlp : lastV pre = (x.1 : Int) := by rw [HLV.out, HXD.out]; exact if_neg h0
              rw [hlp] at hcs
              have t7 : ((x.1 : Int) != (x.1 : Int)) = false := by simp
              clear h0 hlp
              gi_wp2
              exact HEND.out
          case done =>
            rintro D ys Wd hD rfl ⟨hl2, hs2, hP2, hO2⟩ hKD
            rw [HAL.out] at hl2
            have HL2 := Lib.hid hl2
            have HP2' := Lib.hid hP2
            have HKD := Lib.hid hKD
            have hOd : Only (wp.heap.size :: (wp.heap.size + 1) :: P.cs) WL Wd := hO2
            have HRD := Lib.hid (hOd.get HRL.out (by intro h; rcases List.mem_cons.1 h with e | h; omega; rcases List.mem_cons.1 h with e | h; omega; exact HRN.out.2 h))
            have HOD : Hid (Only P.cs W2 Wd) := Lib.hid (HOL2.out.trans' hOd (by intro k hk; rcases List.mem_cons.1 hk with e | hk; exact .inr (by omega); rcases List.mem_cons.1 hk with e | hk; exact .inr (by omega); exact .inl hk))
            have hDD : D < Wd.heap.size := (Array.getElem?_eq_some_iff.1 hKD).1
            clear hl2 hs2 hP2 hO2 hKD hOd
            go_wp2_with fail
            refine (HPP.out _ HP2'.out).mono ?_
            rintro e w5 ⟨rfl, hp5, hO5⟩
            have HP5 := Lib.hid hp5
            have HL5 := Lib.hid (hO5.get HL2.out (HNE.out _ (by omega)).2)
            have HR5 := Lib.hid (hO5.get HRD.out HRN.out.2)
            have HKD5 := Lib.hid (hO5.get HKD.out (fun h => by have := HCL.out D h; omega))
            have HO5 := Lib.hid (HOD.out.trans hO5)
            have hcl := cell_of_one HL5.out
            clear hp5 hO5
            go_wp2_with fail
            refine (HNN.out _ HP5.out).mono ?_
            rintro e w6 ⟨rfl, hB6⟩
            have zl5 := (Array.getElem?_eq_some_iff.1 HL5.out).1
            have zr5 := (Array.getElem?_eq_some_iff.1 HR5.out).1
            have zd5 := (Array.getElem?_eq_some_iff.1 HKD5.out).1
            have hr6 := (hB6.block _ zr5).trans HR5.out
            have HR6 := Lib.hid hr6
            have HKD6 := Lib.hid ((hB6.block _ zd5).trans HKD5.out)
            have HO6 : Hid (Only P.cs W2 w6) := Lib.hid (HO5.out.trans (Only.of_below hB6))
            have hcr := cell_of_one hr6
            have hfr := free_of_one hr6
            clear hr6 hB6 hcl
            go_wp2
            refine leave_marks (v := .bool true) [D] _ (by simp) ?_ ?_
            · intro E hE
              obtain rfl : E = D := by simpa using hE
              exact ((Only.refl [w.heap.size + 1] _).setCell (.inl (by simp)) _).get HKD6.out (by simp; omega)
            · intro W' hO'
              have hr' := hO'.get (one_setCell HR6.out) (by simp; omega)
              have hc' := cell_of_one hr'
              refine ⟨by simp [results, Try.results8, go_sem, hc'], rfl, ?_⟩
              have h1 : Below w.heap.size w w6 := HBW2.out.trans (HO6.out.below (fun k hk => by have := HBS.out k (PR.cs_bs hk); omega) z2)
              have h2 : Only [w.heap.size + 1] w6 (w6.setCell ⟨w.heap.size + 1, 0, none⟩ (.bool true)) := (Only.refl _ _).setCell (.inl (by simp)) _
              have h3 : Below w.heap.size w (w6.setCell ⟨w.heap.size + 1, 0, none⟩ (.bool true)) := h1.trans (h2.below (by simp) h1.size)
              exact h3.trans (hO'.below (by simp; omega) h3.size)
          case stop =>
            rintro D cx pre Wd _ _ h _
            exact h.elim
set_option maxRecDepth 100000 in
set_option maxHeartbeats 2000000 in
theorem pl_all_walk (g : Geo.G) (a : Option Addr) (l : List Int) (cp : Nat) (w : World) (hI : Ints w a l) (h63 : l.length ≤ 9223372036854775807) :
    Calls Try.prog 8 #[.agg (GC g), .slice a l.length cp] w fun e w' => e = .returned (.bool true) ∧ Below w.heap.size w w' := by
  cases hr : Geo.right g
  · have HST := Lib.hid (fun W => pstart_no g hr W)
    have HRT : Hid (∀ W, Calls Try.prog 29 #[.agg (GC g)] W fun e w' => e = .returned (.bool false) ∧ Below W.heap.size W w') := Lib.hid (fun W => by have := gright_any g W; rwa [hr] at this)
    have HA := Lib.hid (fun W => pl_anchor W)
    have HGI := Lib.hid (gsize (g := g))
    have HRI : Hid (∀ d z v, (Try.prog.info? 61).map (·.size) = some (RP d z v).size) := Lib.hid (fun _ _ _ => (zero_of_info Try.infoRP).2)
    have hz := (zero_of_info Try.infoRP).1
    obtain ⟨W0, hW0⟩ : ∃ W0, (w.alloc (.cells (GC g) 58)).alloc (.cells #[.bool false] 4) = W0 := ⟨_, rfl⟩
    have hal0 : Below w.heap.size w W0 := by rw [← hW0]; exact ((Below.refl _ _).alloc (Nat.le_refl _) _).alloc (by simp) _
    have hgA : W0.heap[w.heap.size]? = some (.cells (GC g) 58 (0, 0)) := by rw [← hW0]; exact heap_alloc2_old w _ _
    have hrA : W0.heap[w.heap.size + 1]? = some (.cells #[.bool false] 4 (0, 0)) := by rw [← hW0]; exact heap_alloc2_new w _ _
    have hsz : w.heap.size + 1 < W0.heap.size := (Array.getElem?_eq_some_iff.1 hrA).1
    have HW0 := Lib.hid hW0
    clear hr hI hW0
    generalize hC : GC g = C at *
    clear hC
    refine calls_of_marks Try.func8 rfl ?_
    simp only [Try.ntmps8, List.size_toArray, List.length_cons, List.length_nil, Nat.reduceAdd, Nat.reduceSub, Array.replicate_succ, Array.replicate_zero, List.push_toArray, List.append_toArray, List.nil_append, List.cons_append]
    go_upto_region 1 with (fail)
    rw [HW0.out]
    go_wp2_with fail
    refine (HA.out _).mono ?_
    rintro e w0 ⟨rfl, hB0⟩
    have hg0 := (hB0.block w.heap.size (by omega)).trans hgA
    have hr0 := (hB0.block (w.heap.size + 1) hsz).trans hrA
    have hBx := hal0.trans (hB0.mono hal0.size)
    have z0 := hB0.size
    clear hal0 hgA hrA hB0
    go_wp2_with (refine wpList_row_on (by rfl) 58 _ rfl w.heap.size rfl 58 _ _ _ hg0 Try.underlying58 rfl HGI.out ?_)
    refine (HST.out _).mono ?_
    rintro e w1 ⟨rfl, hB1⟩
    have hg1 := (hB1.block w.heap.size (by omega)).trans hg0
    have hr1 := (hB1.block (w.heap.size + 1) (by omega)).trans hr0
    have HBW1 := Lib.hid (hBx.trans (hB1.mono hBx.size))
    have z1 : w.heap.size + 1 < w1.heap.size := (Array.getElem?_eq_some_iff.1 hr1).1
    obtain ⟨W2, hW2⟩ : ∃ W2, w1.alloc (.cells (RP 0 0 (.slice none 0 0)) 61) = W2 := ⟨_, rfl⟩
    have hb2 : Below w1.heap.size w1 W2 := by rw [← hW2]; exact (Below.refl _ _).alloc (Nat.le_refl _) _
    have HG2 := Lib.hid ((hb2.block w.heap.size (by omega)).trans hg1)
    have HR2 := Lib.hid ((hb2.block (w.heap.size + 1) z1).trans hr1)
    have HBW2 := Lib.hid (HBW1.out.trans (hb2.mono HBW1.out.size))
    have HW2 := Lib.hid hW2
    have zw2 : w.heap.size + 1 < W2.heap.size := (Array.getElem?_eq_some_iff.1 HR2.out).1
    clear hb2 hW2 hB1 hBx hg0 hg1 hr0 hr1
    go_upto_region 4 with (refine wpList_store_row rfl 61 _ _ rfl w1.heap.size (RP 0 0 (.slice none 0 0)) rfl rfl 61 (RP 0 0 (.slice none 0 0)) (heap_alloc_new w1 _) (HRI.out _ _ _) rfl (RP_one _ _ _ _ _) ?_; rw [World.setRow_alloc_new])
    rw [HW2.out]
    go_wp2_with (refine wpList_row_on (by rfl) 58 _ rfl w.heap.size rfl 58 _ _ _ HG2.out Try.underlying58 rfl HGI.out ?_)
    refine (HRT.out _).mono ?_
    rintro e w3 ⟨rfl, hB3⟩
    have HR3 := Lib.hid ((hB3.block (w.heap.size + 1) zw2).trans HR2.out)
    have HBB := Lib.hid (HBW2.out.trans (hB3.mono HBW2.out.size))
    have hcr := cell_of_one HR3.out
    have hfr := free_of_one HR3.out
    clear hB3
    go_wp2
    refine leave_marks (v := .bool true) [] _ (by simp) (by simp) ?_
    intro W' hO'
    have hr' := hO'.get (one_setCell HR3.out) (by simp)
    have hc' := cell_of_one hr'
    refine ⟨by simp [results, Try.results8, go_sem, hc'], rfl, ?_⟩
    have h2 : Only [w.heap.size + 1] w3 (w3.setCell ⟨w.heap.size + 1, 0, none⟩ (.bool true)) := (Only.refl _ _).setCell (.inl (by simp)) _
    have h3 : Below w.heap.size w (w3.setCell ⟨w.heap.size + 1, 0, none⟩ (.bool true)) := HBB.out.trans (h2.below (by simp) HBB.out.size)
    exact h3.trans (hO'.below (by simp) h3.size)
  · by_cases hl : l.length ≤ 100
    · exact pl_all_core g hr a l cp w hI hl
    have t1 : decide (100 < (l.length : Int)) = true := decide_eq_true (by omega)
    have HST := Lib.hid (fun W => pstart_any g hr W)
    have HRT : Hid (∀ W, Calls Try.prog 29 #[.agg (GC g)] W fun e w' => e = .returned (.bool true) ∧ Below W.heap.size W w') := Lib.hid (fun W => by have := gright_any g W; rwa [hr] at this)
    have HA := Lib.hid (fun W => pl_anchor W)
    have HGI := Lib.hid (gsize (g := g))
    have HRI : Hid (∀ d z v, (Try.prog.info? 61).map (·.size) = some (RP d z v).size) := Lib.hid (fun _ _ _ => (zero_of_info Try.infoRP).2)
    have hz := (zero_of_info Try.infoRP).1
    obtain ⟨W0, hW0⟩ : ∃ W0, (w.alloc (.cells (GC g) 58)).alloc (.cells #[.bool false] 4) = W0 := ⟨_, rfl⟩
    have hal0 : Below w.heap.size w W0 := by rw [← hW0]; exact ((Below.refl _ _).alloc (Nat.le_refl _) _).alloc (by simp) _
    have hgA : W0.heap[w.heap.size]? = some (.cells (GC g) 58 (0, 0)) := by rw [← hW0]; exact heap_alloc2_old w _ _
    have hrA : W0.heap[w.heap.size + 1]? = some (.cells #[.bool false] 4 (0, 0)) := by rw [← hW0]; exact heap_alloc2_new w _ _
    have hsz : w.heap.size + 1 < W0.heap.size := (Array.getElem?_eq_some_iff.1 hrA).1
    have HW0 := Lib.hid hW0
    clear hr hI hW0
    generalize hC : GC g = C at *
    clear hC
    refine calls_of_marks Try.func8 rfl ?_
    simp only [Try.ntmps8, List.size_toArray, List.length_cons, List.length_nil, Nat.reduceAdd, Nat.reduceSub, Array.replicate_succ, Array.replicate_zero, List.push_toArray, List.append_toArray, List.nil_append, List.cons_append]
    go_upto_region 1 with (fail)
    rw [HW0.out]
    go_wp2_with fail
    refine (HA.out _).mono ?_
    rintro e w0 ⟨rfl, hB0⟩
    have hg0 := (hB0.block w.heap.size (by omega)).trans hgA
    have hr0 := (hB0.block (w.heap.size + 1) hsz).trans hrA
    have hBx := hal0.trans (hB0.mono hal0.size)
    have z0 := hB0.size
    clear hal0 hgA hrA hB0
    go_wp2_with (refine wpList_row_on (by rfl) 58 _ rfl w.heap.size rfl 58 _ _ _ hg0 Try.underlying58 rfl HGI.out ?_)
    refine (HST.out _).mono ?_
    rintro e w1 ⟨P, rfl, -, -, -, hB1⟩
    have hg1 := (hB1.block w.heap.size (by omega)).trans hg0
    have hr1 := (hB1.block (w.heap.size + 1) (by omega)).trans hr0
    have HBW1 := Lib.hid (hBx.trans (hB1.mono hBx.size))
    have z1 : w.heap.size + 1 < w1.heap.size := (Array.getElem?_eq_some_iff.1 hr1).1
    obtain ⟨W2, hW2⟩ : ∃ W2, w1.alloc (.cells (RP g.d g.z (.slice none 0 0)) 61) = W2 := ⟨_, rfl⟩
    have hb2 : Below w1.heap.size w1 W2 := by rw [← hW2]; exact (Below.refl _ _).alloc (Nat.le_refl _) _
    have HG2 := Lib.hid ((hb2.block w.heap.size (by omega)).trans hg1)
    have HR2 := Lib.hid ((hb2.block (w.heap.size + 1) z1).trans hr1)
    have HBW2 := Lib.hid (HBW1.out.trans (hb2.mono HBW1.out.size))
    have HW2 := Lib.hid hW2
    have zw2 : w.heap.size + 1 < W2.heap.size := (Array.getElem?_eq_some_iff.1 HR2.out).1
    clear hb2 hW2 hB1 hBx hg0 hg1 hr0 hr1
    go_upto_region 4 with (refine wpList_store_row rfl 61 _ _ rfl w1.heap.size (RP g.d g.z (.slice none 0 0)) rfl rfl 61 (RP 0 0 (.slice none 0 0)) (heap_alloc_new w1 _) (HRI.out _ _ _) rfl (RP_one _ _ _ _ _) ?_; rw [World.setRow_alloc_new])
    rw [HW2.out]
    go_wp2_with (refine wpList_row_on (by rfl) 58 _ rfl w.heap.size rfl 58 _ _ _ HG2.out Try.underlying58 rfl HGI.out ?_)
    refine (HRT.out _).mono ?_
    rintro e w3 ⟨rfl, hB3⟩
    have HR3 := Lib.hid ((hB3.block (w.heap.size + 1) zw2).trans HR2.out)
    have HBB := Lib.hid (HBW2.out.trans (hB3.mono HBW2.out.size))
    have hcr := cell_of_one HR3.out
    have hfr := free_of_one HR3.out
    clear hB3
    go_wp2
    refine leave_marks (v := .bool true) [] _ (by simp) (by simp) ?_
    intro W' hO'
    have hr' := hO'.get (one_setCell HR3.out) (by simp)
    have hc' := cell_of_one hr'
    refine ⟨by simp [results, Try.results8, go_sem, hc'], rfl, ?_⟩
    have h2 : Only [w.heap.size + 1] w3 (w3.setCell ⟨w.heap.size + 1, 0, none⟩ (.bool true)) := (Only.refl _ _).setCell (.inl (by simp)) _
    have h3 : Below w.heap.size w (w3.setCell ⟨w.heap.size + 1, 0, none⟩ (.bool true)) := HBB.out.trans (h2.below (by simp) HBB.out.size)
    exact h3.trans (hO'.below (by simp) h3.size)
end Go.Proofs.Ytogijlpclceanaa
