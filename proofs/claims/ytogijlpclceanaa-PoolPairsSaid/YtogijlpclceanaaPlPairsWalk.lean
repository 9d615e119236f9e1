/- Proved here: the walk of the law on the pairs of a pool. -/
import Derived.Test.YtogijlpclceanaaPlOps
import Derived.Test.YtogijlpclceanaaConfU
import Derived.Test.YtogijlpclceanaaConf5
import Derived.Deep.Cut
import Derived.Deep.CutRange
import Derived.Deep.CutBlock
namespace Go.Proofs.Ytogijlpclceanaa
open Go.Conc Go.RowKit Go.Rv Go.Shelf
set_option linter.unusedVariables false
attribute [local go_sem] Oper.semAt_some
open PoolM (dl cnt Ok less giveOf dropOf takeOf pairOf countOf npairs pairZ stepOf)
set_option maxRecDepth 100000 in
set_option maxHeartbeats 8000000 in
theorem pl_pairs_core (g : Geo.G) (hr : Geo.right g = true) (a : Option Addr) (l : List (Int × Int)) (cp : Nat) (x y : Int) (w : World) (hI : StepsP w a l) (hl : l.length ≤ 60) :
    Calls Try.prog 10 #[.agg (GC g), .slice a l.length cp, .int .i64 x, .int .i64 y] w fun e w' => e = .returned (.bool true) ∧ Below w.heap.size w w' := by
  have hs := ((Geo.right_iff g).1 hr).1
  have HA := Lib.hid (fun W => pl_anchor W)
  have HST := Lib.hid (fun W => pstart_any g hr W)
  have HGI := Lib.hid (gsize (g := g))
  have HDM := Lib.hid (fun x W => gdomain_any g x W hs)
  have HI := Lib.hid hI
  have HRI : Hid (∀ d z v, (Try.prog.info? 61).map (·.size) = some (RP d z v).size) := Lib.hid (fun _ _ _ => (zero_of_info Try.infoRP).2)
  have HOI : Hid (∀ i j, (Try.prog.info? 74).map (·.size) = some (opV i j).size) := Lib.hid (fun _ _ => by kernel_rfl)
  have hz := (zero_of_info Try.infoRP).1
  have t1 : decide (60 < (l.length : Int)) = false := decide_eq_false (by omega)
  have hal := (Below.refl w.heap.size w).alloc (Nat.le_refl _) (.cells (GC g) 58)
  have hnew := heap_alloc_new w (.cells (GC g) 58)
  have hsz : w.heap.size < (w.alloc (.cells (GC g) 58)).heap.size := by simp
  have HGG := Lib.hid (show ∀ P : PR, P.g = g → domOf P.g = domOf g ∧ P.g.z = g.z ∧ P.g.d = g.d from fun P h => by rw [h]; exact ⟨rfl, rfl, rfl⟩)
  clear hI hs hr
  generalize hC : GC g = C at *
  clear hC
  go_enter Try.func10, Try.ntmps10
  go_wp2_with fail
  refine (HA.out _).mono ?_
  rintro e w0 ⟨rfl, hB0⟩
  have hg0 := (hB0.block w.heap.size hsz).trans hnew
  have hBx := hal.trans (hB0.mono hal.size)
  have z0 := hB0.size
  clear hal hnew hB0
  go_wp2_with (refine wpList_row_on (by rfl) 58 _ rfl w.heap.size rfl 58 _ _ _ hg0 Try.underlying58 rfl HGI.out ?_)
  refine (HST.out _).mono ?_
  rintro e w1 ⟨P, rfl, hPg, hP, hbs, hB1⟩
  have hg1 := (hB1.block w.heap.size (by omega)).trans hg0
  have HBW1 := Lib.hid (hBx.trans (hB1.mono hBx.size))
  obtain ⟨q, hq⟩ : ∃ q, w1.heap.size = q := ⟨_, rfl⟩
  have HQL : Hid (∀ k ∈ P.bs, k < q) := Lib.hid (fun k hk => by rw [← hq]; exact hP.lt k hk)
  obtain ⟨W2, hW2⟩ : ∃ W2, w1.alloc (.cells (RP g.d g.z (.slice none 0 0)) 61) = W2 := ⟨_, rfl⟩
  have hb2 : Below w1.heap.size w1 W2 := by rw [← hW2]; exact (Below.refl _ _).alloc (Nat.le_refl _) _
  have hrow2 : W2.heap[q]? = some (.cells (RP g.d g.z (.slice none 0 0)) 61 (0, 0)) := by rw [← hW2, ← hq]; exact heap_alloc_new w1 _
  have z1 : w.heap.size < w1.heap.size := (Array.getElem?_eq_some_iff.1 hg1).1
  have HG2 := Lib.hid ((hb2.block w.heap.size z1).trans hg1)
  have HP2 := Lib.hid (hP.below hb2)
  have HBW2 := Lib.hid (HBW1.out.trans (hb2.mono HBW1.out.size))
  have HBS : Hid (∀ k ∈ P.bs, w.heap.size < k) := Lib.hid (fun k hk => by have := hbs k hk; omega)
  have zq : q < W2.heap.size := (Array.getElem?_eq_some_iff.1 hrow2).1
  have hW2q : w1.alloc (.cells (RP g.d g.z (.slice none 0 0)) 61) = W2 := hW2
  have HW2 := Lib.hid hW2
  obtain ⟨hgd, hgz, hgdd⟩ := HGG.out P hPg
  have HGD := Lib.hid hgd
  have hlen := hP.len
  rw [← hgdd, ← hgz, ← hlen] at hrow2
  have HR2 := Lib.hid hrow2
  have z2 := HBW2.out.size
  have zw2 : w.heap.size < W2.heap.size := (Array.getElem?_eq_some_iff.1 HG2.out).1
  have zwq : w.heap.size < q := by omega
  have HQ := Lib.hid hq
  clear hb2 hW2 hP hbs hB1 hBx hg0 hgd hrow2 hW2q hq hlen hgz hgdd hPg
  go_upto_region 6 with (refine wpList_store_row rfl 61 _ _ rfl w1.heap.size (RP g.d g.z (.slice none 0 0)) rfl rfl 61 (RP 0 0 (.slice none 0 0)) (heap_alloc_new w1 _) (HRI.out _ _ _) rfl (RP_one _ _ _ _ _) ?_; rw [World.setRow_alloc_new])
  rw [HW2.out, HQ.out]
  clear hg1 HQ HW2
  go_wp2
  go_loopw [36] (fun i wr => ∃ (k : Nat) (L : List Int) (v : Value), k ≤ l.length ∧ i = .int .i64 k ∧ IntsC wr v L ∧ OffB q v L ∧ wr.heap[q]? = some (.cells (RP P.qc.length P.g.z v) 61 (0, 0)) ∧ PoolIs wr P L ∧ Only (q :: P.cs) W2 wr) (fun i _ => l.length - (intOf i).toNat)
  case atStart => exact ⟨0, [], _, Nat.zero_le _, rfl, ⟨none, 0, rfl, Ints.nil _ _, fun _ => rfl, Nat.le_refl _, by omega⟩, fun h => absurd rfl h, HR2.out, HP2.out, Only.refl _ _⟩
  case round =>
    obtain ⟨k, L, v, hk, rfl, hv, hoff, hrow, hpl, hO⟩ := hrel
    have HPL := Lib.hid hpl
    have HV := Lib.hid hv
    have HOFF := Lib.hid hoff
    have HROW := Lib.hid hrow
    have HGN : Hid (w.heap.size ∉ q :: P.cs) := Lib.hid (fun h => by
      rcases List.mem_cons.1 h with e | h
      · omega
      · have := HBS.out _ (PR.cs_bs h); omega)
    have hg := hO.get HG2.out HGN.out
    have HGR := Lib.hid hg
    have HOR := Lib.hid hO
    have hzz := hO.size
    clear hpl hv hoff hrow hg hO
    by_cases hlt : k < l.length
    · obtain ⟨s, hsx⟩ : ∃ s, l[k]? = some s := ⟨_, List.getElem?_eq_getElem hlt⟩
      obtain ⟨b, o, rfl, hbl, hcs⟩ := HI.out.resolve_left (by intro e; rw [e] at hlt; simp at hlt)
      obtain ⟨hx1, hx2⟩ := hcs k s hsx
      have HNB : Hid (b ∉ q :: P.cs) := Lib.hid (fun h => by
        rcases List.mem_cons.1 h with e | h
        · omega
        · have := HBS.out _ (PR.cs_bs h); omega)
      have hc1 := (World.cell?_of_block (a := ⟨b, o + k * 2, none⟩) (HOR.out.block b (by omega) HNB.out)).trans ((HBW2.out.cell (p := ⟨b, o + k * 2, none⟩) hbl).trans hx1)
      have hc2 := (World.cell?_of_block (a := ⟨b, o + k * 2 + 1, none⟩) (HOR.out.block b (by omega) HNB.out)).trans ((HBW2.out.cell (p := ⟨b, o + k * 2 + 1, none⟩) hbl).trans hx2)
      clear hx1 hx2 hcs hsx
      obtain ⟨kind, xv⟩ := s
      simp only at hc1 hc2
      have hal := (Below.refl wr.heap.size wr).alloc (Nat.le_refl _) (.cells (opV kind xv) 74)
      have hnb := heap_alloc_new wr (.cells (opV kind xv) 74)
      obtain ⟨WA, hWA⟩ : ∃ WA, wr.alloc (.cells (opV kind xv) 74) = WA := ⟨_, rfl⟩
      have HWA := Lib.hid hWA
      have hqr : q < wr.heap.size := (Array.getElem?_eq_some_iff.1 HROW.out).1
      rw [hWA] at hal hnb
      have hROWA := (hal.block q hqr).trans HROW.out
      have HPA := Lib.hid (HPL.out.below hal)
      have HVA := Lib.hid (HV.out.belowP hal)
      have HOA : Hid (Only (q :: P.cs) W2 WA) := Lib.hid (HOR.out.trans (Only.of_below hal))
      have HSTEP := Lib.hid (pstep_any WA P L v kind xv HPA.out HVA.out)
      have hqA : q < WA.heap.size := (Array.getElem?_eq_some_iff.1 hROWA).1
      clear hal hWA
      go_upto_region 11 with (fail)
      rw [show (wr.alloc (.cells #[.int .i64 kind, .int .i64 xv] 74)) = WA from HWA.out]
      go_wp2_with (first | (refine wpList_row_on (by rfl) 61 _ rfl q rfl 61 _ _ _ hROWA Try.underlying61 rfl (HRI.out _ _ _) ?_) | (refine wpList_row_on (by rfl) 74 _ rfl wr.heap.size rfl 74 _ _ _ hnb Try.underlying74 rfl (HOI.out _ _) ?_))
      refine HSTEP.out.mono ?_
      rintro e w3 ⟨v', rfl, hv', hp3, hO3, hns⟩
      have hqc : q ∉ P.cs := fun h => by have := HQL.out q (PR.cs_bs h); omega
      have hrow3 := hO3.get hROWA hqc
      have HSH' := Lib.hid (IntsC.shape hv')
      have HOFF3 := Lib.hid (HOFF.out.step HVA.out hv' hns hqA)
      have hO5 := only_setRow w3 q (RP P.qc.length P.g.z v')
      have HV5 := Lib.hid (hv'.apart hO5 HOFF3.out)
      have HP5 := Lib.hid (hp3.only hO5 (fun k hk hm => by
        obtain rfl : k = q := by simpa using hk
        have := HQL.out _ hm
        omega))
      have HR5 : Hid ((w3.setRow q (RP P.qc.length P.g.z v')).heap[q]? = some (.cells (RP P.qc.length P.g.z v') 61 (0, 0))) := Lib.hid (setRow_heap _ _ _ _ _ _ hrow3)
      have HO5 : Hid (Only (q :: P.cs) W2 (w3.setRow q (RP P.qc.length P.g.z v'))) := Lib.hid ((HOA.out.trans (hO3.mono (fun k hk => .inl (by simp [hk])))).trans (hO5.mono (fun k hk => .inl (by simp at hk; simp [hk]))))
      clear hv' hp3 hO3 hns hO5 hROWA hnb
      go_upto_region 12 with (refine wpList_store_row rfl 61 _ _ rfl q (RP P.qc.length P.g.z v') rfl rfl 61 _ hrow3 (HRI.out _ _ _) rfl (rp_one _ _ HSH'.out) ?_)
      clear hrow3
      go_wp2
      go_roundw
      case rel => exact ⟨k + 1, _, v', by omega, by go_num, HV5.out, HOFF3.out, HR5.out, HP5.out, HO5.out⟩
      case measure => simp [intOf]; omega
    · obtain rfl : k = l.length := by omega
      have hD2 : 2 ≤ P.qc.length := by have := HPL.out.len8; omega
      have HPP := Lib.hid (ppairs_eq wr P L HPL.out)
      have hnle : npairs P.qc.length P.g.z L ≤ 32768 := by
        have h1 := PoolM.npairs_le (D := P.qc.length) (z := P.g.z) (L := L)
        have h2 := HPL.out.ok.len
        have h3 := HPL.out.len8
        have h4 := HPL.out.cap1
        have h5 : P.qc.length * P.g.z.toNat ≤ 8 * 4096 := Nat.mul_le_mul (by omega) h4
        omega
      obtain ⟨n, hn⟩ : ∃ n, npairs P.qc.length P.g.z L = n := ⟨_, rfl⟩
      rw [hn] at HPP hnle
      have HN := Lib.hid hn
      clear hn
      go_wp2_with fail
      refine HPP.out.mono ?_
      rintro e w3 ⟨rfl, hB3⟩
      have HP3 := Lib.hid (HPL.out.below hB3)
      have HO3 : Hid (Only (q :: P.cs) W2 w3) := Lib.hid (HOR.out.trans (Only.of_below hB3))
      have HG3 := Lib.hid (HO3.out.get HG2.out HGN.out)
      clear hB3 HPP HI HV HOFF HROW HGR HOR
      have HPA := Lib.hid (ppair_any w3 P L HP3.out)
      obtain ⟨M', y', z', e', hR⟩ : ∃ M' y' z' e', pairOf P.qc.length P.g.z L = (M', y', z', e') := ⟨_, _, _, _, rfl⟩
      rw [hR] at HPA
      have HR := Lib.hid hR
      clear hR
      go_wp2_with fail
      refine HPA.out.mono ?_
      rintro e w4 ⟨rfl, hp4, hO4⟩
      have HP4 := Lib.hid hp4
      have hqc : q ∉ P.cs := fun h => by have := HQL.out q (PR.cs_bs h); omega
      have HGC : Hid (w.heap.size ∉ P.cs) := Lib.hid (fun h => HGN.out (by simp [h]))
      have HO4 := Lib.hid hO4
      have HG4 := Lib.hid (hO4.get HG3.out HGC.out)
      clear hp4 hO4 HPA
      go_upto_if 59 with (fail)
      go_cut [] from 60 to 85 (fun wx => ∃ M : List Int, PoolIs wx P M ∧ npairs P.qc.length P.g.z M = n ∧ Only P.cs w4 wx)
      case first =>
        cases hp : pairZ P.qc.length P.g.z L with
        | none =>
          have hR := HR.out
          rw [PoolM.pairOf_none hp] at hR
          simp only [Prod.mk.injEq] at hR
          obtain ⟨rfl, rfl, rfl, rfl⟩ := hR
          have h0 := (PoolM.npairs_none HPL.out.ok hD2).2 hp
          rw [HN.out] at h0
          subst h0
          clear hp
          go_wp2
          go_meet
          case rel => exact ⟨_, HP4.out, HN.out, Only.refl _ _⟩
        | some yz =>
          obtain ⟨ya, za⟩ := yz
          have hR := HR.out
          rw [PoolM.pairOf_some hp] at hR
          simp only [Prod.mk.injEq] at hR
          obtain ⟨rfl, rfl, rfl, rfl⟩ := hR
          obtain ⟨gy, gz, -, gne, gyr, gzr⟩ := PoolM.pair_gone HPL.out.ok hD2 hp
          have hst := PoolM.pairZ_step HPL.out.ok hD2 hp
          have hbk := PoolM.pair_back HPL.out.ok hD2 hp
          rw [HN.out] at hst hbk
          obtain ⟨m, hm⟩ : ∃ m, npairs P.qc.length P.g.z (less (less L ya) za) = m := ⟨_, rfl⟩
          obtain ⟨M1, hM1⟩ : ∃ M1, less (less L ya) za = M1 := ⟨_, rfl⟩
          rw [hM1] at HP4 gy gz hbk hm
          rw [hM1, hm] at hst
          have e1 := PoolM.give_ok gyr gy
          have e2 := PoolM.give_ok (L := M1 ++ [ya]) gzr (by simp; exact ⟨gz, fun h => gne (by rw [h])⟩)
          have HPM : Hid (∀ W, PoolIs W P M1 → Calls Try.prog 34 #[.pointer (some ⟨P.p, 0, none⟩)] W fun e w' => e = .returned (.int .i64 (m : Nat)) ∧ Below W.heap.size W w') := Lib.hid (fun W hW => by have := ppairs_eq W P M1 hW; rwa [hm] at this)
          have HPN : Hid (∀ W, PoolIs W P (M1 ++ [ya] ++ [za]) → Calls Try.prog 34 #[.pointer (some ⟨P.p, 0, none⟩)] W fun e w' => e = .returned (.int .i64 (n : Nat)) ∧ Below W.heap.size W w') := Lib.hid (fun W hW => by have := ppairs_eq W P _ hW; rwa [hbk] at this)
          have HG1 : Hid (∀ W, PoolIs W P M1 → Calls Try.prog 30 #[.pointer (some ⟨P.p, 0, none⟩), .int .i64 ya] W fun e w' => e = .returned (.int .i64 0) ∧ PoolIs w' P (M1 ++ [ya]) ∧ Only P.cs W w') := Lib.hid (fun W hW => by have := pgive_any W P M1 hW ya; rwa [e1] at this)
          have HG2' : Hid (∀ W, PoolIs W P (M1 ++ [ya]) → Calls Try.prog 30 #[.pointer (some ⟨P.p, 0, none⟩), .int .i64 za] W fun e w' => e = .returned (.int .i64 0) ∧ PoolIs w' P (M1 ++ [ya] ++ [za]) ∧ Only P.cs W w') := Lib.hid (fun W hW => by have := pgive_any W P _ hW za; rwa [e2] at this)
          have hdne : domOf g ya ≠ domOf g za := by
            rw [← HGD.out]
            unfold domOf
            rw [if_pos (by rw [← HPL.out.len]; exact gyr), if_pos (by rw [← HPL.out.len]; exact gzr)]
            exact gne
          have HBK := Lib.hid hbk
          have HD1 := Lib.hid (fun W => HDM.out ya W)
          have HD2 := Lib.hid (fun W => HDM.out za W)
          have HMN : Hid ((m : Int) = (n : Int) - 1) := Lib.hid (by omega)
          have hn1 : 1 ≤ n := by omega
          have t5 : (domOf g ya == domOf g za) = false := by simpa using hdne
          generalize domOf g ya = dy at *
          generalize domOf g za = dz at *
          clear hst hm hM1 hbk gy gz gne gyr gzr e1 e2 hdne hp
          have z4 : w.heap.size < w4.heap.size := (Array.getElem?_eq_some_iff.1 HG4.out).1
          go_upto_region 18 with (fail)
          refine wp_region_conf2 13 [Fact.eq (.pointer (some ⟨P.p, 0, none⟩)), Fact.eq (.int .i64 ((m : Nat))), Fact.eq (.int .i64 ((n : Nat))), Fact.eq (.int .i64 ((n : Int) - 1)), Fact.eq (.bool false), Fact.eq (.bool false), Fact.eq (.agg C), Fact.eq (.int .i64 (ya)), Fact.eq (.int .i64 (dy)), Fact.eq (.agg C), Fact.eq (.int .i64 (za)), Fact.eq (.int .i64 (dz)), Fact.eq (.bool false)] ?rzA (by kernel_rfl) (by kernel_rfl) ?rzhA ?rzho ?rzhend
          case rzhA =>
            intro vv
            simp only [putRules, Nat.reduceAdd]
            rfl
          case rzho =>
            refine ⟨?_, ?_, ?_, ?_, ?_, ?_, ?_, ?_, ?_, ?_, ?_, ?_, ?_, trivial⟩
            · intro vv W K hB hd HK
              simp only [confRules] at HK
              clear hd
              go_wp2
              refine HK.out _ _ (Below.refl _ _) ?_
              rfl
            · intro vv W K hB hd HK
              simp only [confRules] at hd HK
              have h0 := hd
              clear hd
              simp only [h0] at HK ⊢
              clear h0
              go_wp2_with (refine (HPM.out _ (HP4.out.below hB)).mono ?_; rintro e w9 ⟨rfl, hB9⟩)
              refine HK.out _ _ hB9 ?_
              rfl
            · intro vv W K hB hd HK
              simp only [confRules] at HK
              clear hd
              go_wp2
              refine HK.out _ _ (Below.refl _ _) ?_
              rfl
            · intro vv W K hB hd HK
              simp only [confRules] at hd HK
              have h2 := hd
              clear hd
              simp only [h2] at HK ⊢
              clear h2
              go_wp2
              refine HK.out _ _ (Below.refl _ _) ?_
              rfl
            · intro vv W K hB hd HK
              simp only [confRules] at hd HK
              obtain ⟨h1, h3⟩ := hd
              simp only [h1, h3] at HK ⊢
              clear h1 h3
              go_wp2
              refine HK.out _ _ (Below.refl _ _) ?_
              exact congrArg Value.bool (by rw [HMN.out]; simp)
            · intro vv W K hB hd HK
              simp only [confRules] at hd HK
              obtain ⟨h4, h1⟩ := hd
              simp only [h4, h1] at HK ⊢
              clear h4 h1
              go_wp2
              refine HK.out _ _ (Below.refl _ _) ?_
              rfl
            · intro vv W K hB hd HK
              simp only [confRules] at hd HK
              have h5 := hd
              clear hd
              simp only [h5] at HK ⊢
              clear h5
              refine wpList_guard_yes (by rfl) ?_
              have hT := (hB.block w.heap.size z4).trans HG4.out
              go_wp2_with (refine wpList_row_on (by rfl) 58 _ rfl w.heap.size rfl 58 _ _ _ hT Try.underlying58 rfl HGI.out ?_)
              refine HK.out _ _ (Below.refl _ _) ?_
              rfl
            · intro vv W K hB hd HK
              simp only [confRules] at hd HK
              have h5 := hd
              clear hd
              simp only [h5] at HK ⊢
              clear h5
              refine wpList_guard_yes (by rfl) ?_
              go_wp2
              refine HK.out _ _ (Below.refl _ _) ?_
              rfl
            · intro vv W K hB hd HK
              simp only [confRules] at hd HK
              obtain ⟨h6, h7, h5, _⟩ := hd
              simp only [h6, h7, h5] at HK ⊢
              clear h6 h7 h5
              refine wpList_guard_yes (by rfl) ?_
              go_wp2_with (refine (HD1.out _).mono ?_; rintro e w9 ⟨rfl, hB9⟩)
              refine HK.out _ _ hB9 ?_
              rfl
            · intro vv W K hB hd HK
              simp only [confRules] at hd HK
              have h5 := hd
              clear hd
              simp only [h5] at HK ⊢
              clear h5
              refine wpList_guard_yes (by rfl) ?_
              have hT := (hB.block w.heap.size z4).trans HG4.out
              go_wp2_with (refine wpList_row_on (by rfl) 58 _ rfl w.heap.size rfl 58 _ _ _ hT Try.underlying58 rfl HGI.out ?_)
              refine HK.out _ _ (Below.refl _ _) ?_
              rfl
            · intro vv W K hB hd HK
              simp only [confRules] at hd HK
              have h5 := hd
              clear hd
              simp only [h5] at HK ⊢
              clear h5
              refine wpList_guard_yes (by rfl) ?_
              go_wp2
              refine HK.out _ _ (Below.refl _ _) ?_
              rfl
            · intro vv W K hB hd HK
              simp only [confRules] at hd HK
              obtain ⟨h9, h10, h8, h5⟩ := hd
              simp only [h9, h10, h8, h5] at HK ⊢
              clear h9 h10 h8 h5
              refine wpList_guard_yes (by rfl) ?_
              go_wp2_with (refine (HD2.out _).mono ?_; rintro e w9 ⟨rfl, hB9⟩)
              refine HK.out _ _ hB9 ?_
              rfl
            · intro vv W K hB hd HK
              simp only [confRules] at hd HK
              obtain ⟨h8, h11, h5⟩ := hd
              simp only [h8, h11, h5] at HK ⊢
              clear h8 h11 h5
              refine wpList_guard_yes (by rfl) ?_
              go_wp2
              refine HK.out _ _ (Below.refl _ _) ?_
              first | rfl | exact congrArg Value.bool (by simp)
          case rzhend =>
            intro vv W hB hf
            have e5 := hf 5 (by decide)
            have e12 := hf 12 (by decide)
            simp only [endRules] at e5 e12
            simp only [e5, e12, dropRules]
            clear hf e5 e12
            have HP5 := Lib.hid (HP4.out.below hB)
            have HO5 : Hid (Only P.cs w4 W) := Lib.hid (Only.of_below hB)
            clear hB
            go_wp2_with fail
            refine (HG1.out _ HP5.out).mono ?_
            rintro e w6 ⟨rfl, h6, hO6⟩
            have HP6 := Lib.hid h6
            have HO6 := Lib.hid (HO5.out.trans hO6)
            clear h6 hO6
            go_wp2_with fail
            refine (HG2'.out _ HP6.out).mono ?_
            rintro e w7 ⟨rfl, h7, hO7⟩
            have HP7 := Lib.hid h7
            have HO7 := Lib.hid (HO6.out.trans hO7)
            clear h7 hO7
            go_wp2_with fail
            refine (HPN.out _ HP7.out).mono ?_
            rintro e w8 ⟨rfl, hB8⟩
            have HP8 := Lib.hid (HP7.out.below hB8)
            have HO8 : Hid (Only P.cs w4 w8) := Lib.hid (HO7.out.trans (Only.of_below hB8))
            clear hB8
            go_wp2
            go_meet
            case rel => exact ⟨_, HP8.out, HBK.out, HO8.out⟩
      case rest =>
        obtain ⟨M, hpm, hnm, hOc⟩ := hcut
        have HPC := Lib.hid hpm
        have HNM := Lib.hid hnm
        have HGc := Lib.hid (hOc.get HG4.out HGC.out)
        have HBW : Hid (Below w.heap.size w wc) := Lib.hid (HBW2.out.trans (((HO3.out.trans ((HO4.out.trans hOc).mono (fun k hk => .inl (by simp [hk]))))).below (fun k hk => by
          rcases List.mem_cons.1 hk with e | hk
          · omega
          · have := HBS.out k (PR.cs_bs hk); omega) z2))
        have zc : w.heap.size < wc.heap.size := (Array.getElem?_eq_some_iff.1 HGc.out).1
        have HCB : Hid (∀ k ∈ P.cs, w.heap.size ≤ k) := Lib.hid (fun k hk => by have := HBS.out k (PR.cs_bs hk); omega)
        have HDA := Lib.hid (fun W => HDM.out x W)
        have HDB := Lib.hid (fun W => HDM.out y W)
        have HDX : Hid (∀ u, ¬ domOf g u < 0 → domOf g u = u / P.g.z) := Lib.hid (fun u h => by
          rw [← HGD.out] at h ⊢
          have hz1 := HPC.out.ok.z1
          unfold domOf at h ⊢
          split at h
          · rename_i h2; rw [if_pos h2]
          · omega)
        clear hpm hnm hOc HO3 HO4 HG3 HG4 HP3 HP4 HR HN HPL
        by_cases ha : domOf g x < 0
        · have f1 : decide (domOf g x < 0) = true := decide_eq_true ha
          clear ha
          generalize domOf g x = da at *
          go_upto_region 26 with (fail)
          refine wp_region_conf2 30 [Fact.eq (.agg C), Fact.eq (.int .i64 (x)), Fact.eq (.int .i64 (da)), Fact.eq (.bool true), Fact.eq (.bool true), Fact.eq (undef), Fact.eq (undef), Fact.eq (undef), Fact.eq (undef), Fact.eq (.bool true), Fact.eq (.bool true), Fact.eq (undef), Fact.eq (undef), Fact.eq (undef), Fact.eq (undef), Fact.eq (undef), Fact.eq (undef), Fact.eq (undef), Fact.eq (.bool true), Fact.eq (.bool true), Fact.eq (undef), Fact.eq (undef), Fact.eq (undef), Fact.eq (undef), Fact.eq (.bool true), Fact.eq (.bool true), Fact.eq (undef), Fact.eq (undef), Fact.eq (undef), Fact.eq (undef)] ?raA (by kernel_rfl) (by kernel_rfl) ?rahA ?raho ?rahend
          case rahA =>
            intro vv
            simp only [putRules, Nat.reduceAdd]
            rfl
          case raho =>
            refine ⟨?_, ?_, ?_, ?_, ?_, ?_, ?_, ?_, ?_, ?_, ?_, ?_, ?_, ?_, ?_, ?_, ?_, ?_, ?_, ?_, ?_, ?_, ?_, ?_, ?_, ?_, ?_, ?_, ?_, ?_, trivial⟩
            · intro vv W K hB hd HK
              simp only [confRules] at HK
              clear hd
              have hT := (hB.block w.heap.size zc).trans HGc.out
              go_wp2_with (refine wpList_row_on (by rfl) 58 _ rfl w.heap.size rfl 58 _ _ _ hT Try.underlying58 rfl HGI.out ?_)
              refine HK.out _ _ (Below.refl _ _) ?_
              rfl
            · intro vv W K hB hd HK
              simp only [confRules] at HK
              clear hd
              go_wp2
              refine HK.out _ _ (Below.refl _ _) ?_
              rfl
            · intro vv W K hB hd HK
              simp only [confRules] at hd HK
              obtain ⟨h0, h1⟩ := hd
              simp only [h0, h1] at HK ⊢
              clear h0 h1
              go_wp2_with (refine (HDA.out _).mono ?_; rintro e w9 ⟨rfl, hB9⟩)
              refine HK.out _ _ hB9 ?_
              rfl
            · intro vv W K hB hd HK
              simp only [confRules] at hd HK
              have h2 := hd
              clear hd
              simp only [h2] at HK ⊢
              clear h2
              go_wp2
              refine HK.out _ _ (Below.refl _ _) ?_
              first | rfl | exact congrArg Value.bool (by simp)
            · intro vv W K hB hd HK
              simp only [confRules] at hd HK
              obtain ⟨h3, h2⟩ := hd
              simp only [h3, h2] at HK ⊢
              clear h3 h2
              go_wp2
              refine HK.out _ _ (Below.refl _ _) ?_
              rfl
            · intro vv W K hB hd HK
              simp only [confRules] at hd HK
              have h4 := hd
              clear hd
              simp only [h4] at HK ⊢
              clear h4
              refine wpList_guard_no (by rfl) ?_
              refine HK.out _ _ (Below.refl _ _) ?_
              rfl
            · intro vv W K hB hd HK
              simp only [confRules] at hd HK
              have h4 := hd
              clear hd
              simp only [h4] at HK ⊢
              clear h4
              refine wpList_guard_no (by rfl) ?_
              refine HK.out _ _ (Below.refl _ _) ?_
              rfl
            · intro vv W K hB hd HK
              simp only [confRules] at hd HK
              obtain ⟨h5, h6, h4, _⟩ := hd
              simp only [h5, h6, h4] at HK ⊢
              clear h5 h6 h4
              refine wpList_guard_no (by rfl) ?_
              refine HK.out _ _ (Below.refl _ _) ?_
              rfl
            · intro vv W K hB hd HK
              simp only [confRules] at hd HK
              obtain ⟨h7, h4⟩ := hd
              simp only [h7, h4] at HK ⊢
              clear h7 h4
              refine wpList_guard_no (by rfl) ?_
              refine HK.out _ _ (Below.refl _ _) ?_
              rfl
            · intro vv W K hB hd HK
              simp only [confRules] at hd HK
              obtain ⟨h4, h8⟩ := hd
              simp only [h4, h8] at HK ⊢
              clear h4 h8
              go_wp2
              refine HK.out _ _ (Below.refl _ _) ?_
              rfl
            · intro vv W K hB hd HK
              simp only [confRules] at hd HK
              obtain ⟨h9, h7⟩ := hd
              simp only [h9, h7] at HK ⊢
              clear h9 h7
              go_wp2
              refine HK.out _ _ (Below.refl _ _) ?_
              rfl
            · intro vv W K hB hd HK
              simp only [confRules] at hd HK
              have h10 := hd
              clear hd
              simp only [h10] at HK ⊢
              clear h10
              refine wpList_guard_no (by rfl) ?_
              refine HK.out _ _ (Below.refl _ _) ?_
              rfl
            · intro vv W K hB hd HK
              simp only [confRules] at hd HK
              have h10 := hd
              clear hd
              simp only [h10] at HK ⊢
              clear h10
              refine wpList_guard_no (by rfl) ?_
              refine HK.out _ _ (Below.refl _ _) ?_
              rfl
            · intro vv W K hB hd HK
              simp only [confRules] at hd HK
              obtain ⟨h11, h12, h10, _⟩ := hd
              simp only [h11, h12, h10] at HK ⊢
              clear h11 h12 h10
              refine wpList_guard_no (by rfl) ?_
              refine HK.out _ _ (Below.refl _ _) ?_
              rfl
            · intro vv W K hB hd HK
              simp only [confRules] at hd HK
              have h10 := hd
              clear hd
              simp only [h10] at HK ⊢
              clear h10
              refine wpList_guard_no (by rfl) ?_
              refine HK.out _ _ (Below.refl _ _) ?_
              rfl
            · intro vv W K hB hd HK
              simp only [confRules] at hd HK
              have h10 := hd
              clear hd
              simp only [h10] at HK ⊢
              clear h10
              refine wpList_guard_no (by rfl) ?_
              refine HK.out _ _ (Below.refl _ _) ?_
              rfl
            · intro vv W K hB hd HK
              simp only [confRules] at hd HK
              obtain ⟨h14, h15, h13, h10⟩ := hd
              simp only [h14, h15, h13, h10] at HK ⊢
              clear h14 h15 h13 h10
              refine wpList_guard_no (by rfl) ?_
              refine HK.out _ _ (Below.refl _ _) ?_
              rfl
            · intro vv W K hB hd HK
              simp only [confRules] at hd HK
              obtain ⟨h13, h16, h10⟩ := hd
              simp only [h13, h16, h10] at HK ⊢
              clear h13 h16 h10
              refine wpList_guard_no (by rfl) ?_
              refine HK.out _ _ (Below.refl _ _) ?_
              rfl
            · intro vv W K hB hd HK
              simp only [confRules] at hd HK
              obtain ⟨h10, h17⟩ := hd
              simp only [h10, h17] at HK ⊢
              clear h10 h17
              go_wp2
              refine HK.out _ _ (Below.refl _ _) ?_
              rfl
            · intro vv W K hB hd HK
              simp only [confRules] at hd HK
              obtain ⟨h18, h16⟩ := hd
              simp only [h18, h16] at HK ⊢
              clear h18 h16
              go_wp2
              refine HK.out _ _ (Below.refl _ _) ?_
              rfl
            · intro vv W K hB hd HK
              simp only [confRules] at hd HK
              have h19 := hd
              clear hd
              simp only [h19] at HK ⊢
              clear h19
              refine wpList_guard_no (by rfl) ?_
              refine HK.out _ _ (Below.refl _ _) ?_
              rfl
            · intro vv W K hB hd HK
              simp only [confRules] at hd HK
              have h19 := hd
              clear hd
              simp only [h19] at HK ⊢
              clear h19
              refine wpList_guard_no (by rfl) ?_
              refine HK.out _ _ (Below.refl _ _) ?_
              rfl
            · intro vv W K hB hd HK
              simp only [confRules] at hd HK
              obtain ⟨h20, h21, h19, _⟩ := hd
              simp only [h20, h21, h19] at HK ⊢
              clear h20 h21 h19
              refine wpList_guard_no (by rfl) ?_
              refine HK.out _ _ (Below.refl _ _) ?_
              rfl
            · intro vv W K hB hd HK
              simp only [confRules] at hd HK
              obtain ⟨h22, h19⟩ := hd
              simp only [h22, h19] at HK ⊢
              clear h22 h19
              refine wpList_guard_no (by rfl) ?_
              refine HK.out _ _ (Below.refl _ _) ?_
              rfl
            · intro vv W K hB hd HK
              simp only [confRules] at hd HK
              obtain ⟨h19, h23⟩ := hd
              simp only [h19, h23] at HK ⊢
              clear h19 h23
              go_wp2
              refine HK.out _ _ (Below.refl _ _) ?_
              rfl
            · intro vv W K hB hd HK
              simp only [confRules] at hd HK
              obtain ⟨h24, h22⟩ := hd
              simp only [h24, h22] at HK ⊢
              clear h24 h22
              go_wp2
              refine HK.out _ _ (Below.refl _ _) ?_
              rfl
            · intro vv W K hB hd HK
              simp only [confRules] at hd HK
              have h25 := hd
              clear hd
              simp only [h25] at HK ⊢
              clear h25
              refine wpList_guard_no (by rfl) ?_
              refine HK.out _ _ (Below.refl _ _) ?_
              rfl
            · intro vv W K hB hd HK
              simp only [confRules] at hd HK
              have h25 := hd
              clear hd
              simp only [h25] at HK ⊢
              clear h25
              refine wpList_guard_no (by rfl) ?_
              refine HK.out _ _ (Below.refl _ _) ?_
              rfl
            · intro vv W K hB hd HK
              simp only [confRules] at hd HK
              obtain ⟨h26, h27, h25, _⟩ := hd
              simp only [h26, h27, h25] at HK ⊢
              clear h26 h27 h25
              refine wpList_guard_no (by rfl) ?_
              refine HK.out _ _ (Below.refl _ _) ?_
              rfl
            · intro vv W K hB hd HK
              simp only [confRules] at hd HK
              obtain ⟨h28, h25⟩ := hd
              simp only [h28, h25] at HK ⊢
              clear h28 h25
              refine wpList_guard_no (by rfl) ?_
              refine HK.out _ _ (Below.refl _ _) ?_
              rfl
          case rahend =>
            intro vv W hB hf
            have e25 := hf 25 (by decide)
            have e29 := hf 29 (by decide)
            simp only [endRules] at e25 e29
            simp only [e25, e29, dropRules]
            clear hf e25 e29
            have HBE := Lib.hid (HBW.out.trans (hB.mono (by omega)))
            clear hB
            go_wp2
            go_ret
            exact ⟨rfl, HBE.out⟩
        by_cases hb : domOf g y < 0
        · have f1 : decide (domOf g x < 0) = false := decide_eq_false ha
          have f2 : decide (domOf g y < 0) = true := decide_eq_true hb
          clear ha hb
          generalize domOf g x = da at *
          generalize domOf g y = db at *
          go_upto_region 26 with (fail)
          refine wp_region_conf2 30 [Fact.eq (.agg C), Fact.eq (.int .i64 (x)), Fact.eq (.int .i64 (da)), Fact.eq (.bool false), Fact.eq (.bool false), Fact.eq (.agg C), Fact.eq (.int .i64 (y)), Fact.eq (.int .i64 (db)), Fact.eq (.bool true), Fact.eq (.bool true), Fact.eq (.bool true), Fact.eq (undef), Fact.eq (undef), Fact.eq (undef), Fact.eq (undef), Fact.eq (undef), Fact.eq (undef), Fact.eq (undef), Fact.eq (.bool true), Fact.eq (.bool true), Fact.eq (undef), Fact.eq (undef), Fact.eq (undef), Fact.eq (undef), Fact.eq (.bool true), Fact.eq (.bool true), Fact.eq (undef), Fact.eq (undef), Fact.eq (undef), Fact.eq (undef)] ?rbA (by kernel_rfl) (by kernel_rfl) ?rbhA ?rbho ?rbhend
          case rbhA =>
            intro vv
            simp only [putRules, Nat.reduceAdd]
            rfl
          case rbho =>
            refine ⟨?_, ?_, ?_, ?_, ?_, ?_, ?_, ?_, ?_, ?_, ?_, ?_, ?_, ?_, ?_, ?_, ?_, ?_, ?_, ?_, ?_, ?_, ?_, ?_, ?_, ?_, ?_, ?_, ?_, ?_, trivial⟩
            · intro vv W K hB hd HK
              simp only [confRules] at HK
              clear hd
              have hT := (hB.block w.heap.size zc).trans HGc.out
              go_wp2_with (refine wpList_row_on (by rfl) 58 _ rfl w.heap.size rfl 58 _ _ _ hT Try.underlying58 rfl HGI.out ?_)
              refine HK.out _ _ (Below.refl _ _) ?_
              rfl
            · intro vv W K hB hd HK
              simp only [confRules] at HK
              clear hd
              go_wp2
              refine HK.out _ _ (Below.refl _ _) ?_
              rfl
            · intro vv W K hB hd HK
              simp only [confRules] at hd HK
              obtain ⟨h0, h1⟩ := hd
              simp only [h0, h1] at HK ⊢
              clear h0 h1
              go_wp2_with (refine (HDA.out _).mono ?_; rintro e w9 ⟨rfl, hB9⟩)
              refine HK.out _ _ hB9 ?_
              rfl
            · intro vv W K hB hd HK
              simp only [confRules] at hd HK
              have h2 := hd
              clear hd
              simp only [h2] at HK ⊢
              clear h2
              go_wp2
              refine HK.out _ _ (Below.refl _ _) ?_
              first | rfl | exact congrArg Value.bool (by simp)
            · intro vv W K hB hd HK
              simp only [confRules] at hd HK
              obtain ⟨h3, h2⟩ := hd
              simp only [h3, h2] at HK ⊢
              clear h3 h2
              go_wp2
              refine HK.out _ _ (Below.refl _ _) ?_
              rfl
            · intro vv W K hB hd HK
              simp only [confRules] at hd HK
              have h4 := hd
              clear hd
              simp only [h4] at HK ⊢
              clear h4
              refine wpList_guard_yes (by rfl) ?_
              have hT := (hB.block w.heap.size zc).trans HGc.out
              go_wp2_with (refine wpList_row_on (by rfl) 58 _ rfl w.heap.size rfl 58 _ _ _ hT Try.underlying58 rfl HGI.out ?_)
              refine HK.out _ _ (Below.refl _ _) ?_
              rfl
            · intro vv W K hB hd HK
              simp only [confRules] at hd HK
              have h4 := hd
              clear hd
              simp only [h4] at HK ⊢
              clear h4
              refine wpList_guard_yes (by rfl) ?_
              go_wp2
              refine HK.out _ _ (Below.refl _ _) ?_
              rfl
            · intro vv W K hB hd HK
              simp only [confRules] at hd HK
              obtain ⟨h5, h6, h4, _⟩ := hd
              simp only [h5, h6, h4] at HK ⊢
              clear h5 h6 h4
              refine wpList_guard_yes (by rfl) ?_
              go_wp2_with (refine (HDB.out _).mono ?_; rintro e w9 ⟨rfl, hB9⟩)
              refine HK.out _ _ hB9 ?_
              rfl
            · intro vv W K hB hd HK
              simp only [confRules] at hd HK
              obtain ⟨h7, h4⟩ := hd
              simp only [h7, h4] at HK ⊢
              clear h7 h4
              refine wpList_guard_yes (by rfl) ?_
              go_wp2
              refine HK.out _ _ (Below.refl _ _) ?_
              first | rfl | exact congrArg Value.bool (by simp)
            · intro vv W K hB hd HK
              simp only [confRules] at hd HK
              obtain ⟨h4, h8⟩ := hd
              simp only [h4, h8] at HK ⊢
              clear h4 h8
              go_wp2
              refine HK.out _ _ (Below.refl _ _) ?_
              rfl
            · intro vv W K hB hd HK
              simp only [confRules] at hd HK
              obtain ⟨h9, h7⟩ := hd
              simp only [h9, h7] at HK ⊢
              clear h9 h7
              go_wp2
              refine HK.out _ _ (Below.refl _ _) ?_
              rfl
            · intro vv W K hB hd HK
              simp only [confRules] at hd HK
              have h10 := hd
              clear hd
              simp only [h10] at HK ⊢
              clear h10
              refine wpList_guard_no (by rfl) ?_
              refine HK.out _ _ (Below.refl _ _) ?_
              rfl
            · intro vv W K hB hd HK
              simp only [confRules] at hd HK
              have h10 := hd
              clear hd
              simp only [h10] at HK ⊢
              clear h10
              refine wpList_guard_no (by rfl) ?_
              refine HK.out _ _ (Below.refl _ _) ?_
              rfl
            · intro vv W K hB hd HK
              simp only [confRules] at hd HK
              obtain ⟨h11, h12, h10, _⟩ := hd
              simp only [h11, h12, h10] at HK ⊢
              clear h11 h12 h10
              refine wpList_guard_no (by rfl) ?_
              refine HK.out _ _ (Below.refl _ _) ?_
              rfl
            · intro vv W K hB hd HK
              simp only [confRules] at hd HK
              have h10 := hd
              clear hd
              simp only [h10] at HK ⊢
              clear h10
              refine wpList_guard_no (by rfl) ?_
              refine HK.out _ _ (Below.refl _ _) ?_
              rfl
            · intro vv W K hB hd HK
              simp only [confRules] at hd HK
              have h10 := hd
              clear hd
              simp only [h10] at HK ⊢
              clear h10
              refine wpList_guard_no (by rfl) ?_
              refine HK.out _ _ (Below.refl _ _) ?_
              rfl
            · intro vv W K hB hd HK
              simp only [confRules] at hd HK
              obtain ⟨h14, h15, h13, h10⟩ := hd
              simp only [h14, h15, h13, h10] at HK ⊢
              clear h14 h15 h13 h10
              refine wpList_guard_no (by rfl) ?_
              refine HK.out _ _ (Below.refl _ _) ?_
              rfl
            · intro vv W K hB hd HK
              simp only [confRules] at hd HK
              obtain ⟨h13, h16, h10⟩ := hd
              simp only [h13, h16, h10] at HK ⊢
              clear h13 h16 h10
              refine wpList_guard_no (by rfl) ?_
              refine HK.out _ _ (Below.refl _ _) ?_
              rfl
            · intro vv W K hB hd HK
              simp only [confRules] at hd HK
              obtain ⟨h10, h17⟩ := hd
              simp only [h10, h17] at HK ⊢
              clear h10 h17
              go_wp2
              refine HK.out _ _ (Below.refl _ _) ?_
              rfl
            · intro vv W K hB hd HK
              simp only [confRules] at hd HK
              obtain ⟨h18, h16⟩ := hd
              simp only [h18, h16] at HK ⊢
              clear h18 h16
              go_wp2
              refine HK.out _ _ (Below.refl _ _) ?_
              rfl
            · intro vv W K hB hd HK
              simp only [confRules] at hd HK
              have h19 := hd
              clear hd
              simp only [h19] at HK ⊢
              clear h19
              refine wpList_guard_no (by rfl) ?_
              refine HK.out _ _ (Below.refl _ _) ?_
              rfl
            · intro vv W K hB hd HK
              simp only [confRules] at hd HK
              have h19 := hd
              clear hd
              simp only [h19] at HK ⊢
              clear h19
              refine wpList_guard_no (by rfl) ?_
              refine HK.out _ _ (Below.refl _ _) ?_
              rfl
            · intro vv W K hB hd HK
              simp only [confRules] at hd HK
              obtain ⟨h20, h21, h19, _⟩ := hd
              simp only [h20, h21, h19] at HK ⊢
              clear h20 h21 h19
              refine wpList_guard_no (by rfl) ?_
              refine HK.out _ _ (Below.refl _ _) ?_
              rfl
            · intro vv W K hB hd HK
              simp only [confRules] at hd HK
              obtain ⟨h22, h19⟩ := hd
              simp only [h22, h19] at HK ⊢
              clear h22 h19
              refine wpList_guard_no (by rfl) ?_
              refine HK.out _ _ (Below.refl _ _) ?_
              rfl
            · intro vv W K hB hd HK
              simp only [confRules] at hd HK
              obtain ⟨h19, h23⟩ := hd
              simp only [h19, h23] at HK ⊢
              clear h19 h23
              go_wp2
              refine HK.out _ _ (Below.refl _ _) ?_
              rfl
            · intro vv W K hB hd HK
              simp only [confRules] at hd HK
              obtain ⟨h24, h22⟩ := hd
              simp only [h24, h22] at HK ⊢
              clear h24 h22
              go_wp2
              refine HK.out _ _ (Below.refl _ _) ?_
              rfl
            · intro vv W K hB hd HK
              simp only [confRules] at hd HK
              have h25 := hd
              clear hd
              simp only [h25] at HK ⊢
              clear h25
              refine wpList_guard_no (by rfl) ?_
              refine HK.out _ _ (Below.refl _ _) ?_
              rfl
            · intro vv W K hB hd HK
              simp only [confRules] at hd HK
              have h25 := hd
              clear hd
              simp only [h25] at HK ⊢
              clear h25
              refine wpList_guard_no (by rfl) ?_
              refine HK.out _ _ (Below.refl _ _) ?_
              rfl
            · intro vv W K hB hd HK
              simp only [confRules] at hd HK
              obtain ⟨h26, h27, h25, _⟩ := hd
              simp only [h26, h27, h25] at HK ⊢
              clear h26 h27 h25
              refine wpList_guard_no (by rfl) ?_
              refine HK.out _ _ (Below.refl _ _) ?_
              rfl
            · intro vv W K hB hd HK
              simp only [confRules] at hd HK
              obtain ⟨h28, h25⟩ := hd
              simp only [h28, h25] at HK ⊢
              clear h28 h25
              refine wpList_guard_no (by rfl) ?_
              refine HK.out _ _ (Below.refl _ _) ?_
              rfl
          case rbhend =>
            intro vv W hB hf
            have e25 := hf 25 (by decide)
            have e29 := hf 29 (by decide)
            simp only [endRules] at e25 e29
            simp only [e25, e29, dropRules]
            clear hf e25 e29
            have HBE := Lib.hid (HBW.out.trans (hB.mono (by omega)))
            clear hB
            go_wp2
            go_ret
            exact ⟨rfl, HBE.out⟩
        by_cases hab : domOf g x = domOf g y
        · have f1 : decide (domOf g x < 0) = false := decide_eq_false ha
          have f2 : decide (domOf g y < 0) = false := decide_eq_false hb
          have f3 : (domOf g x == domOf g y) = true := by simpa using hab
          clear ha hb hab
          generalize domOf g x = da at *
          generalize domOf g y = db at *
          go_upto_region 26 with (fail)
          refine wp_region_conf2 30 [Fact.eq (.agg C), Fact.eq (.int .i64 (x)), Fact.eq (.int .i64 (da)), Fact.eq (.bool false), Fact.eq (.bool false), Fact.eq (.agg C), Fact.eq (.int .i64 (y)), Fact.eq (.int .i64 (db)), Fact.eq (.bool false), Fact.eq (.bool false), Fact.eq (.bool false), Fact.eq (.agg C), Fact.eq (.int .i64 (x)), Fact.eq (.int .i64 (da)), Fact.eq (.agg C), Fact.eq (.int .i64 (y)), Fact.eq (.int .i64 (db)), Fact.eq (.bool true), Fact.eq (.bool true), Fact.eq (.bool true), Fact.eq (undef), Fact.eq (undef), Fact.eq (undef), Fact.eq (undef), Fact.eq (.bool true), Fact.eq (.bool true), Fact.eq (undef), Fact.eq (undef), Fact.eq (undef), Fact.eq (undef)] ?rcA (by kernel_rfl) (by kernel_rfl) ?rchA ?rcho ?rchend
          case rchA =>
            intro vv
            simp only [putRules, Nat.reduceAdd]
            rfl
          case rcho =>
            refine ⟨?_, ?_, ?_, ?_, ?_, ?_, ?_, ?_, ?_, ?_, ?_, ?_, ?_, ?_, ?_, ?_, ?_, ?_, ?_, ?_, ?_, ?_, ?_, ?_, ?_, ?_, ?_, ?_, ?_, ?_, trivial⟩
            · intro vv W K hB hd HK
              simp only [confRules] at HK
              clear hd
              have hT := (hB.block w.heap.size zc).trans HGc.out
              go_wp2_with (refine wpList_row_on (by rfl) 58 _ rfl w.heap.size rfl 58 _ _ _ hT Try.underlying58 rfl HGI.out ?_)
              refine HK.out _ _ (Below.refl _ _) ?_
              rfl
            · intro vv W K hB hd HK
              simp only [confRules] at HK
              clear hd
              go_wp2
              refine HK.out _ _ (Below.refl _ _) ?_
              rfl
            · intro vv W K hB hd HK
              simp only [confRules] at hd HK
              obtain ⟨h0, h1⟩ := hd
              simp only [h0, h1] at HK ⊢
              clear h0 h1
              go_wp2_with (refine (HDA.out _).mono ?_; rintro e w9 ⟨rfl, hB9⟩)
              refine HK.out _ _ hB9 ?_
              rfl
            · intro vv W K hB hd HK
              simp only [confRules] at hd HK
              have h2 := hd
              clear hd
              simp only [h2] at HK ⊢
              clear h2
              go_wp2
              refine HK.out _ _ (Below.refl _ _) ?_
              first | rfl | exact congrArg Value.bool (by simp)
            · intro vv W K hB hd HK
              simp only [confRules] at hd HK
              obtain ⟨h3, h2⟩ := hd
              simp only [h3, h2] at HK ⊢
              clear h3 h2
              go_wp2
              refine HK.out _ _ (Below.refl _ _) ?_
              rfl
            · intro vv W K hB hd HK
              simp only [confRules] at hd HK
              have h4 := hd
              clear hd
              simp only [h4] at HK ⊢
              clear h4
              refine wpList_guard_yes (by rfl) ?_
              have hT := (hB.block w.heap.size zc).trans HGc.out
              go_wp2_with (refine wpList_row_on (by rfl) 58 _ rfl w.heap.size rfl 58 _ _ _ hT Try.underlying58 rfl HGI.out ?_)
              refine HK.out _ _ (Below.refl _ _) ?_
              rfl
            · intro vv W K hB hd HK
              simp only [confRules] at hd HK
              have h4 := hd
              clear hd
              simp only [h4] at HK ⊢
              clear h4
              refine wpList_guard_yes (by rfl) ?_
              go_wp2
              refine HK.out _ _ (Below.refl _ _) ?_
              rfl
            · intro vv W K hB hd HK
              simp only [confRules] at hd HK
              obtain ⟨h5, h6, h4, _⟩ := hd
              simp only [h5, h6, h4] at HK ⊢
              clear h5 h6 h4
              refine wpList_guard_yes (by rfl) ?_
              go_wp2_with (refine (HDB.out _).mono ?_; rintro e w9 ⟨rfl, hB9⟩)
              refine HK.out _ _ hB9 ?_
              rfl
            · intro vv W K hB hd HK
              simp only [confRules] at hd HK
              obtain ⟨h7, h4⟩ := hd
              simp only [h7, h4] at HK ⊢
              clear h7 h4
              refine wpList_guard_yes (by rfl) ?_
              go_wp2
              refine HK.out _ _ (Below.refl _ _) ?_
              first | rfl | exact congrArg Value.bool (by simp)
            · intro vv W K hB hd HK
              simp only [confRules] at hd HK
              obtain ⟨h4, h8⟩ := hd
              simp only [h4, h8] at HK ⊢
              clear h4 h8
              go_wp2
              refine HK.out _ _ (Below.refl _ _) ?_
              rfl
            · intro vv W K hB hd HK
              simp only [confRules] at hd HK
              obtain ⟨h9, h7⟩ := hd
              simp only [h9, h7] at HK ⊢
              clear h9 h7
              go_wp2
              refine HK.out _ _ (Below.refl _ _) ?_
              rfl
            · intro vv W K hB hd HK
              simp only [confRules] at hd HK
              have h10 := hd
              clear hd
              simp only [h10] at HK ⊢
              clear h10
              refine wpList_guard_yes (by rfl) ?_
              have hT := (hB.block w.heap.size zc).trans HGc.out
              go_wp2_with (refine wpList_row_on (by rfl) 58 _ rfl w.heap.size rfl 58 _ _ _ hT Try.underlying58 rfl HGI.out ?_)
              refine HK.out _ _ (Below.refl _ _) ?_
              rfl
            · intro vv W K hB hd HK
              simp only [confRules] at hd HK
              have h10 := hd
              clear hd
              simp only [h10] at HK ⊢
              clear h10
              refine wpList_guard_yes (by rfl) ?_
              go_wp2
              refine HK.out _ _ (Below.refl _ _) ?_
              rfl
            · intro vv W K hB hd HK
              simp only [confRules] at hd HK
              obtain ⟨h11, h12, h10, _⟩ := hd
              simp only [h11, h12, h10] at HK ⊢
              clear h11 h12 h10
              refine wpList_guard_yes (by rfl) ?_
              go_wp2_with (refine (HDA.out _).mono ?_; rintro e w9 ⟨rfl, hB9⟩)
              refine HK.out _ _ hB9 ?_
              rfl
            · intro vv W K hB hd HK
              simp only [confRules] at hd HK
              have h10 := hd
              clear hd
              simp only [h10] at HK ⊢
              clear h10
              refine wpList_guard_yes (by rfl) ?_
              have hT := (hB.block w.heap.size zc).trans HGc.out
              go_wp2_with (refine wpList_row_on (by rfl) 58 _ rfl w.heap.size rfl 58 _ _ _ hT Try.underlying58 rfl HGI.out ?_)
              refine HK.out _ _ (Below.refl _ _) ?_
              rfl
            · intro vv W K hB hd HK
              simp only [confRules] at hd HK
              have h10 := hd
              clear hd
              simp only [h10] at HK ⊢
              clear h10
              refine wpList_guard_yes (by rfl) ?_
              go_wp2
              refine HK.out _ _ (Below.refl _ _) ?_
              rfl
            · intro vv W K hB hd HK
              simp only [confRules] at hd HK
              obtain ⟨h14, h15, h13, h10⟩ := hd
              simp only [h14, h15, h13, h10] at HK ⊢
              clear h14 h15 h13 h10
              refine wpList_guard_yes (by rfl) ?_
              go_wp2_with (refine (HDB.out _).mono ?_; rintro e w9 ⟨rfl, hB9⟩)
              refine HK.out _ _ hB9 ?_
              rfl
            · intro vv W K hB hd HK
              simp only [confRules] at hd HK
              obtain ⟨h13, h16, h10⟩ := hd
              simp only [h13, h16, h10] at HK ⊢
              clear h13 h16 h10
              refine wpList_guard_yes (by rfl) ?_
              go_wp2
              refine HK.out _ _ (Below.refl _ _) ?_
              first | rfl | exact congrArg Value.bool (by simp)
            · intro vv W K hB hd HK
              simp only [confRules] at hd HK
              obtain ⟨h10, h17⟩ := hd
              simp only [h10, h17] at HK ⊢
              clear h10 h17
              go_wp2
              refine HK.out _ _ (Below.refl _ _) ?_
              rfl
            · intro vv W K hB hd HK
              simp only [confRules] at hd HK
              obtain ⟨h18, h16⟩ := hd
              simp only [h18, h16] at HK ⊢
              clear h18 h16
              go_wp2
              refine HK.out _ _ (Below.refl _ _) ?_
              rfl
            · intro vv W K hB hd HK
              simp only [confRules] at hd HK
              have h19 := hd
              clear hd
              simp only [h19] at HK ⊢
              clear h19
              refine wpList_guard_no (by rfl) ?_
              refine HK.out _ _ (Below.refl _ _) ?_
              rfl
            · intro vv W K hB hd HK
              simp only [confRules] at hd HK
              have h19 := hd
              clear hd
              simp only [h19] at HK ⊢
              clear h19
              refine wpList_guard_no (by rfl) ?_
              refine HK.out _ _ (Below.refl _ _) ?_
              rfl
            · intro vv W K hB hd HK
              simp only [confRules] at hd HK
              obtain ⟨h20, h21, h19, _⟩ := hd
              simp only [h20, h21, h19] at HK ⊢
              clear h20 h21 h19
              refine wpList_guard_no (by rfl) ?_
              refine HK.out _ _ (Below.refl _ _) ?_
              rfl
            · intro vv W K hB hd HK
              simp only [confRules] at hd HK
              obtain ⟨h22, h19⟩ := hd
              simp only [h22, h19] at HK ⊢
              clear h22 h19
              refine wpList_guard_no (by rfl) ?_
              refine HK.out _ _ (Below.refl _ _) ?_
              rfl
            · intro vv W K hB hd HK
              simp only [confRules] at hd HK
              obtain ⟨h19, h23⟩ := hd
              simp only [h19, h23] at HK ⊢
              clear h19 h23
              go_wp2
              refine HK.out _ _ (Below.refl _ _) ?_
              rfl
            · intro vv W K hB hd HK
              simp only [confRules] at hd HK
              obtain ⟨h24, h22⟩ := hd
              simp only [h24, h22] at HK ⊢
              clear h24 h22
              go_wp2
              refine HK.out _ _ (Below.refl _ _) ?_
              rfl
            · intro vv W K hB hd HK
              simp only [confRules] at hd HK
              have h25 := hd
              clear hd
              simp only [h25] at HK ⊢
              clear h25
              refine wpList_guard_no (by rfl) ?_
              refine HK.out _ _ (Below.refl _ _) ?_
              rfl
            · intro vv W K hB hd HK
              simp only [confRules] at hd HK
              have h25 := hd
              clear hd
              simp only [h25] at HK ⊢
              clear h25
              refine wpList_guard_no (by rfl) ?_
              refine HK.out _ _ (Below.refl _ _) ?_
              rfl
            · intro vv W K hB hd HK
              simp only [confRules] at hd HK
              obtain ⟨h26, h27, h25, _⟩ := hd
              simp only [h26, h27, h25] at HK ⊢
              clear h26 h27 h25
              refine wpList_guard_no (by rfl) ?_
              refine HK.out _ _ (Below.refl _ _) ?_
              rfl
            · intro vv W K hB hd HK
              simp only [confRules] at hd HK
              obtain ⟨h28, h25⟩ := hd
              simp only [h28, h25] at HK ⊢
              clear h28 h25
              refine wpList_guard_no (by rfl) ?_
              refine HK.out _ _ (Below.refl _ _) ?_
              rfl
          case rchend =>
            intro vv W hB hf
            have e25 := hf 25 (by decide)
            have e29 := hf 29 (by decide)
            simp only [endRules] at e25 e29
            simp only [e25, e29, dropRules]
            clear hf e25 e29
            have HBE := Lib.hid (HBW.out.trans (hB.mono (by omega)))
            clear hB
            go_wp2
            go_ret
            exact ⟨rfl, HBE.out⟩
        have f1 : decide (domOf g x < 0) = false := decide_eq_false ha
        have f2 : decide (domOf g y < 0) = false := decide_eq_false hb
        have f3 : (domOf g x == domOf g y) = false := by simpa using hab
        have hxy : x / P.g.z ≠ y / P.g.z := by rw [← HDX.out x ha, ← HDX.out y hb]; exact hab
        clear ha hb hab
        generalize domOf g x = da at *
        generalize domOf g y = db at *
        have HGA := Lib.hid (fun W (hW : PoolIs W P M) => pgive_any W P M hW x)
        rcases PoolM.give_cases P.qc.length P.g.z M x with ⟨-, -, he⟩ | ⟨e0, hne, he⟩
        · have HGB := Lib.hid (fun W (hW : PoolIs W P (M ++ [x])) => pgive_any W P (M ++ [x]) hW y)
          rw [he] at HGA
          clear he
          rcases PoolM.give_cases P.qc.length P.g.z (M ++ [x]) y with ⟨-, -, he⟩ | ⟨e0, hne, he⟩
          · rw [he] at HGB
            have h2m := PoolM.two_more (D := P.qc.length) (z := P.g.z) (L := M) hD2 hxy
            have HPP := Lib.hid (fun W (hW : PoolIs W P (M ++ [x] ++ [y])) => ppairs_eq W P _ hW)
            rw [HNM.out] at h2m
            generalize npairs P.qc.length P.g.z (M ++ [x] ++ [y]) = n2 at *
            have f5 : decide ((n : Int) < (n2 : Int)) = true := decide_eq_true (by omega)
            have f6 : decide (n < n2) = true := decide_eq_true (by omega)
            clear he hxy h2m
            go_upto_region 26 with (fail)
            refine wp_region_stage 30 [.agg C, .int .i64 (x), .int .i64 (da), .bool false, .bool false, .agg C, .int .i64 (y), .int .i64 (db), .bool false, .bool false, .bool false, .agg C, .int .i64 (x), .int .i64 (da), .agg C, .int .i64 (y), .int .i64 (db), .bool false, .bool false, .bool false, .pointer (some ⟨P.p, 0, none⟩), .int .i64 (x), .int .i64 (0), .bool false, .bool false, .bool false, .pointer (some ⟨P.p, 0, none⟩), .int .i64 (y), .int .i64 (0), .bool false] [22, 23, 24, 25, 28] [0, 0, 0, 0, 0, 0, 0, 0, 0, 0, 0, 0, 0, 0, 0, 0, 0, 0, 0, 0, 0, 0, 1, 2, 3, 4, 4, 4, 5, 5] (fun s W => PoolIs W P (match s with | 0 => M | 5 => M ++ [x] ++ [y] | _ => M ++ [x]) ∧ Only P.cs wc W) ?rfA (by kernel_rfl) (by kernel_rfl) (by kernel_rfl) ?rfhA ?rfh0 ?rfhb ?rfho ?rfhend
            case rfhA =>
              intro vv
              simp only [putRules, Nat.reduceAdd]
              rfl
            case rfh0 =>
              exact ⟨HPC.out.only (Only.refl [] _).drew (by simp), (Only.refl _ _).drew⟩
            case rfhb =>
              intro s W W' ⟨h1, h2⟩ hB
              exact ⟨h1.below hB, h2.trans (Only.of_below hB)⟩
            case rfho =>
              refine ⟨?_, ?_, ?_, ?_, ?_, ?_, ?_, ?_, ?_, ?_, ?_, ?_, ?_, ?_, ?_, ?_, ?_, ?_, ?_, ?_, ?_, ?_, ?_, ?_, ?_, ?_, ?_, ?_, ?_, ?_, trivial⟩
              · intro vv W K s hlo hI hd HK
                simp only [confRules, conf5Rules] at HK
                clear hd
                have hT := hI.2.get HGc.out HGC.out
                go_wp2_with (refine wpList_row_on (by rfl) 58 _ rfl w.heap.size rfl 58 _ _ _ hT Try.underlying58 rfl HGI.out ?_)
                refine HK.out _ _ (Below.refl _ _) ?_
                rfl
              · intro vv W K s hlo hI hd HK
                simp only [confRules, conf5Rules] at HK
                clear hd
                go_wp2
                refine HK.out _ _ (Below.refl _ _) ?_
                rfl
              · intro vv W K s hlo hI hd HK
                simp only [confRules, conf5Rules] at hd HK
                obtain ⟨h0, h1⟩ := hd
                simp only [h0, h1] at HK ⊢
                clear h0 h1
                go_wp2_with (refine (HDA.out _).mono ?_; rintro e w9 ⟨rfl, hB9⟩)
                refine HK.out _ _ hB9 ?_
                rfl
              · intro vv W K s hlo hI hd HK
                simp only [confRules, conf5Rules] at hd HK
                have h2 := hd
                clear hd
                simp only [h2] at HK ⊢
                clear h2
                go_wp2
                refine HK.out _ _ (Below.refl _ _) ?_
                first | rfl | exact congrArg Value.bool (by simp)
              · intro vv W K s hlo hI hd HK
                simp only [confRules, conf5Rules] at hd HK
                obtain ⟨h3, h2⟩ := hd
                simp only [h3, h2] at HK ⊢
                clear h3 h2
                go_wp2
                refine HK.out _ _ (Below.refl _ _) ?_
                rfl
              · intro vv W K s hlo hI hd HK
                simp only [confRules, conf5Rules] at hd HK
                have h4 := hd
                clear hd
                simp only [h4] at HK ⊢
                clear h4
                refine wpList_guard_yes (by rfl) ?_
                have hT := hI.2.get HGc.out HGC.out
                go_wp2_with (refine wpList_row_on (by rfl) 58 _ rfl w.heap.size rfl 58 _ _ _ hT Try.underlying58 rfl HGI.out ?_)
                refine HK.out _ _ (Below.refl _ _) ?_
                rfl
              · intro vv W K s hlo hI hd HK
                simp only [confRules, conf5Rules] at hd HK
                have h4 := hd
                clear hd
                simp only [h4] at HK ⊢
                clear h4
                refine wpList_guard_yes (by rfl) ?_
                go_wp2
                refine HK.out _ _ (Below.refl _ _) ?_
                rfl
              · intro vv W K s hlo hI hd HK
                simp only [confRules, conf5Rules] at hd HK
                obtain ⟨h5, h6, h4, _⟩ := hd
                simp only [h5, h6, h4] at HK ⊢
                clear h5 h6 h4
                refine wpList_guard_yes (by rfl) ?_
                go_wp2_with (refine (HDB.out _).mono ?_; rintro e w9 ⟨rfl, hB9⟩)
                refine HK.out _ _ hB9 ?_
                rfl
              · intro vv W K s hlo hI hd HK
                simp only [confRules, conf5Rules] at hd HK
                obtain ⟨h7, h4⟩ := hd
                simp only [h7, h4] at HK ⊢
                clear h7 h4
                refine wpList_guard_yes (by rfl) ?_
                go_wp2
                refine HK.out _ _ (Below.refl _ _) ?_
                first | rfl | exact congrArg Value.bool (by simp)
              · intro vv W K s hlo hI hd HK
                simp only [confRules, conf5Rules] at hd HK
                obtain ⟨h4, h8⟩ := hd
                simp only [h4, h8] at HK ⊢
                clear h4 h8
                go_wp2
                refine HK.out _ _ (Below.refl _ _) ?_
                rfl
              · intro vv W K s hlo hI hd HK
                simp only [confRules, conf5Rules] at hd HK
                obtain ⟨h9, h7⟩ := hd
                simp only [h9, h7] at HK ⊢
                clear h9 h7
                go_wp2
                refine HK.out _ _ (Below.refl _ _) ?_
                rfl
              · intro vv W K s hlo hI hd HK
                simp only [confRules, conf5Rules] at hd HK
                have h10 := hd
                clear hd
                simp only [h10] at HK ⊢
                clear h10
                refine wpList_guard_yes (by rfl) ?_
                have hT := hI.2.get HGc.out HGC.out
                go_wp2_with (refine wpList_row_on (by rfl) 58 _ rfl w.heap.size rfl 58 _ _ _ hT Try.underlying58 rfl HGI.out ?_)
                refine HK.out _ _ (Below.refl _ _) ?_
                rfl
              · intro vv W K s hlo hI hd HK
                simp only [confRules, conf5Rules] at hd HK
                have h10 := hd
                clear hd
                simp only [h10] at HK ⊢
                clear h10
                refine wpList_guard_yes (by rfl) ?_
                go_wp2
                refine HK.out _ _ (Below.refl _ _) ?_
                rfl
              · intro vv W K s hlo hI hd HK
                simp only [confRules, conf5Rules] at hd HK
                obtain ⟨h11, h12, h10, _⟩ := hd
                simp only [h11, h12, h10] at HK ⊢
                clear h11 h12 h10
                refine wpList_guard_yes (by rfl) ?_
                go_wp2_with (refine (HDA.out _).mono ?_; rintro e w9 ⟨rfl, hB9⟩)
                refine HK.out _ _ hB9 ?_
                rfl
              · intro vv W K s hlo hI hd HK
                simp only [confRules, conf5Rules] at hd HK
                have h10 := hd
                clear hd
                simp only [h10] at HK ⊢
                clear h10
                refine wpList_guard_yes (by rfl) ?_
                have hT := hI.2.get HGc.out HGC.out
                go_wp2_with (refine wpList_row_on (by rfl) 58 _ rfl w.heap.size rfl 58 _ _ _ hT Try.underlying58 rfl HGI.out ?_)
                refine HK.out _ _ (Below.refl _ _) ?_
                rfl
              · intro vv W K s hlo hI hd HK
                simp only [confRules, conf5Rules] at hd HK
                have h10 := hd
                clear hd
                simp only [h10] at HK ⊢
                clear h10
                refine wpList_guard_yes (by rfl) ?_
                go_wp2
                refine HK.out _ _ (Below.refl _ _) ?_
                rfl
              · intro vv W K s hlo hI hd HK
                simp only [confRules, conf5Rules] at hd HK
                obtain ⟨h14, h15, h13, h10⟩ := hd
                simp only [h14, h15, h13, h10] at HK ⊢
                clear h14 h15 h13 h10
                refine wpList_guard_yes (by rfl) ?_
                go_wp2_with (refine (HDB.out _).mono ?_; rintro e w9 ⟨rfl, hB9⟩)
                refine HK.out _ _ hB9 ?_
                rfl
              · intro vv W K s hlo hI hd HK
                simp only [confRules, conf5Rules] at hd HK
                obtain ⟨h13, h16, h10⟩ := hd
                simp only [h13, h16, h10] at HK ⊢
                clear h13 h16 h10
                refine wpList_guard_yes (by rfl) ?_
                go_wp2
                refine HK.out _ _ (Below.refl _ _) ?_
                first | rfl | exact congrArg Value.bool (by simp)
              · intro vv W K s hlo hI hd HK
                simp only [confRules, conf5Rules] at hd HK
                obtain ⟨h10, h17⟩ := hd
                simp only [h10, h17] at HK ⊢
                clear h10 h17
                go_wp2
                refine HK.out _ _ (Below.refl _ _) ?_
                rfl
              · intro vv W K s hlo hI hd HK
                simp only [confRules, conf5Rules] at hd HK
                obtain ⟨h18, h16⟩ := hd
                simp only [h18, h16] at HK ⊢
                clear h18 h16
                go_wp2
                refine HK.out _ _ (Below.refl _ _) ?_
                rfl
              · intro vv W K s hlo hI hd HK
                simp only [confRules, conf5Rules] at hd HK
                have h19 := hd
                clear hd
                simp only [h19] at HK ⊢
                clear h19
                refine wpList_guard_yes (by rfl) ?_
                go_wp2
                refine HK.out _ _ (Below.refl _ _) ?_
                rfl
              · intro vv W K s hlo hI hd HK
                simp only [confRules, conf5Rules] at hd HK
                have h19 := hd
                clear hd
                simp only [h19] at HK ⊢
                clear h19
                refine wpList_guard_yes (by rfl) ?_
                go_wp2
                refine HK.out _ _ (Below.refl _ _) ?_
                rfl
              · intro vv W K hI hd HK
                simp only [confRules, conf5Rules] at hd HK
                obtain ⟨h20, h21, h19, _⟩ := hd
                simp only [h20, h21, h19] at HK ⊢
                clear h20 h21 h19
                refine wpList_guard_yes (by rfl) ?_
                obtain ⟨h1, h2⟩ := hI
                go_wp2_with (refine (HGA.out _ h1).mono ?_; rintro e w9 ⟨rfl, h9, hO9⟩)
                refine HK.out _ _ ⟨h9, h2.trans hO9⟩ ?_
                rfl
              · intro vv W K hI hd HK
                simp only [confRules, conf5Rules] at hd HK
                obtain ⟨h22, h19⟩ := hd
                simp only [h22, h19] at HK ⊢
                clear h22 h19
                refine wpList_guard_yes (by rfl) ?_
                go_wp2
                refine HK.out _ _ hI ?_
                first | rfl | exact congrArg Value.bool (by simp)
              · intro vv W K hI hd HK
                simp only [confRules, conf5Rules] at hd HK
                obtain ⟨h19, h23⟩ := hd
                simp only [h19, h23] at HK ⊢
                clear h19 h23
                go_wp2
                refine HK.out _ _ hI ?_
                first | rfl | exact congrArg Value.bool (by simp)
              · intro vv W K hI hd HK
                simp only [confRules, conf5Rules] at hd HK
                obtain ⟨h24, h22⟩ := hd
                simp only [h24, h22] at HK ⊢
                clear h24 h22
                go_wp2
                refine HK.out _ _ hI ?_
                first | rfl | exact congrArg Value.bool (by simp)
              · intro vv W K s hlo hI hd HK
                simp only [confRules, conf5Rules] at hd HK
                have h25 := hd
                clear hd
                simp only [h25] at HK ⊢
                clear h25
                refine wpList_guard_yes (by rfl) ?_
                go_wp2
                refine HK.out _ _ (Below.refl _ _) ?_
                rfl
              · intro vv W K s hlo hI hd HK
                simp only [confRules, conf5Rules] at hd HK
                have h25 := hd
                clear hd
                simp only [h25] at HK ⊢
                clear h25
                refine wpList_guard_yes (by rfl) ?_
                go_wp2
                refine HK.out _ _ (Below.refl _ _) ?_
                rfl
              · intro vv W K hI hd HK
                simp only [confRules, conf5Rules] at hd HK
                obtain ⟨h26, h27, h25, _⟩ := hd
                simp only [h26, h27, h25] at HK ⊢
                clear h26 h27 h25
                refine wpList_guard_yes (by rfl) ?_
                obtain ⟨h1, h2⟩ := hI
                go_wp2_with (refine (HGB.out _ h1).mono ?_; rintro e w9 ⟨rfl, h9, hO9⟩)
                refine HK.out _ _ ⟨h9, h2.trans hO9⟩ ?_
                rfl
              · intro vv W K s hlo hI hd HK
                simp only [confRules, conf5Rules] at hd HK
                obtain ⟨h28, h25⟩ := hd
                simp only [h28, h25] at HK ⊢
                clear h28 h25
                refine wpList_guard_yes (by rfl) ?_
                go_wp2
                refine HK.out _ _ (Below.refl _ _) ?_
                first | rfl | exact congrArg Value.bool (by simp)
            case rfhend =>
              intro vv W hI hf
              have e25 := hf 25 (by decide)
              have e29 := hf 29 (by decide)
              simp only [conf5Rules] at e25 e29
              simp only [e25, e29, dropRules]
              clear hf e25 e29
              obtain ⟨h1, h2⟩ := hI
              have HP5 : Hid (PoolIs W P (M ++ [x] ++ [y])) := Lib.hid h1
              have HBE := Lib.hid (HBW.out.trans (h2.below HCB.out HBW.out.size))
              clear h1 h2
              go_wp2_with fail
              refine (HPP.out _ HP5.out).mono ?_
              rintro e w9 ⟨rfl, hB9⟩
              have HBF := Lib.hid (HBE.out.trans (hB9.mono HBE.out.size))
              clear hB9
              go_wp2
              go_ret
              exact ⟨rfl, HBF.out⟩
          · rw [he] at HGB
            have f4 : (e0 != 0) = true := by simpa using hne
            clear he hxy hne
            go_upto_region 26 with (fail)
            refine wp_region_stage 30 [.agg C, .int .i64 (x), .int .i64 (da), .bool false, .bool false, .agg C, .int .i64 (y), .int .i64 (db), .bool false, .bool false, .bool false, .agg C, .int .i64 (x), .int .i64 (da), .agg C, .int .i64 (y), .int .i64 (db), .bool false, .bool false, .bool false, .pointer (some ⟨P.p, 0, none⟩), .int .i64 (x), .int .i64 (0), .bool false, .bool false, .bool false, .pointer (some ⟨P.p, 0, none⟩), .int .i64 (y), .int .i64 (e0), .bool true] [22, 23, 24, 25, 28] [0, 0, 0, 0, 0, 0, 0, 0, 0, 0, 0, 0, 0, 0, 0, 0, 0, 0, 0, 0, 0, 0, 1, 2, 3, 4, 4, 4, 5, 5] (fun s W => PoolIs W P (match s with | 0 => M | _ => M ++ [x]) ∧ Only P.cs wc W) ?reA (by kernel_rfl) (by kernel_rfl) (by kernel_rfl) ?rehA ?reh0 ?rehb ?reho ?rehend
            case rehA =>
              intro vv
              simp only [putRules, Nat.reduceAdd]
              rfl
            case reh0 =>
              exact ⟨HPC.out.only (Only.refl [] _).drew (by simp), (Only.refl _ _).drew⟩
            case rehb =>
              intro s W W' ⟨h1, h2⟩ hB
              exact ⟨h1.below hB, h2.trans (Only.of_below hB)⟩
            case reho =>
              refine ⟨?_, ?_, ?_, ?_, ?_, ?_, ?_, ?_, ?_, ?_, ?_, ?_, ?_, ?_, ?_, ?_, ?_, ?_, ?_, ?_, ?_, ?_, ?_, ?_, ?_, ?_, ?_, ?_, ?_, ?_, trivial⟩
              · intro vv W K s hlo hI hd HK
                simp only [confRules, conf5Rules] at HK
                clear hd
                have hT := hI.2.get HGc.out HGC.out
                go_wp2_with (refine wpList_row_on (by rfl) 58 _ rfl w.heap.size rfl 58 _ _ _ hT Try.underlying58 rfl HGI.out ?_)
                refine HK.out _ _ (Below.refl _ _) ?_
                rfl
              · intro vv W K s hlo hI hd HK
                simp only [confRules, conf5Rules] at HK
                clear hd
                go_wp2
                refine HK.out _ _ (Below.refl _ _) ?_
                rfl
              · intro vv W K s hlo hI hd HK
                simp only [confRules, conf5Rules] at hd HK
                obtain ⟨h0, h1⟩ := hd
                simp only [h0, h1] at HK ⊢
                clear h0 h1
                go_wp2_with (refine (HDA.out _).mono ?_; rintro e w9 ⟨rfl, hB9⟩)
                refine HK.out _ _ hB9 ?_
                rfl
              · intro vv W K s hlo hI hd HK
                simp only [confRules, conf5Rules] at hd HK
                have h2 := hd
                clear hd
                simp only [h2] at HK ⊢
                clear h2
                go_wp2
                refine HK.out _ _ (Below.refl _ _) ?_
                first | rfl | exact congrArg Value.bool (by simp)
              · intro vv W K s hlo hI hd HK
                simp only [confRules, conf5Rules] at hd HK
                obtain ⟨h3, h2⟩ := hd
                simp only [h3, h2] at HK ⊢
                clear h3 h2
                go_wp2
                refine HK.out _ _ (Below.refl _ _) ?_
                rfl
              · intro vv W K s hlo hI hd HK
                simp only [confRules, conf5Rules] at hd HK
                have h4 := hd
                clear hd
                simp only [h4] at HK ⊢
                clear h4
                refine wpList_guard_yes (by rfl) ?_
                have hT := hI.2.get HGc.out HGC.out
                go_wp2_with (refine wpList_row_on (by rfl) 58 _ rfl w.heap.size rfl 58 _ _ _ hT Try.underlying58 rfl HGI.out ?_)
                refine HK.out _ _ (Below.refl _ _) ?_
                rfl
              · intro vv W K s hlo hI hd HK
                simp only [confRules, conf5Rules] at hd HK
                have h4 := hd
                clear hd
                simp only [h4] at HK ⊢
                clear h4
                refine wpList_guard_yes (by rfl) ?_
                go_wp2
                refine HK.out _ _ (Below.refl _ _) ?_
                rfl
              · intro vv W K s hlo hI hd HK
                simp only [confRules, conf5Rules] at hd HK
                obtain ⟨h5, h6, h4, _⟩ := hd
                simp only [h5, h6, h4] at HK ⊢
                clear h5 h6 h4
                refine wpList_guard_yes (by rfl) ?_
                go_wp2_with (refine (HDB.out _).mono ?_; rintro e w9 ⟨rfl, hB9⟩)
                refine HK.out _ _ hB9 ?_
                rfl
              · intro vv W K s hlo hI hd HK
                simp only [confRules, conf5Rules] at hd HK
                obtain ⟨h7, h4⟩ := hd
                simp only [h7, h4] at HK ⊢
                clear h7 h4
                refine wpList_guard_yes (by rfl) ?_
                go_wp2
                refine HK.out _ _ (Below.refl _ _) ?_
                first | rfl | exact congrArg Value.bool (by simp)
              · intro vv W K s hlo hI hd HK
                simp only [confRules, conf5Rules] at hd HK
                obtain ⟨h4, h8⟩ := hd
                simp only [h4, h8] at HK ⊢
                clear h4 h8
                go_wp2
                refine HK.out _ _ (Below.refl _ _) ?_
                rfl
              · intro vv W K s hlo hI hd HK
                simp only [confRules, conf5Rules] at hd HK
                obtain ⟨h9, h7⟩ := hd
                simp only [h9, h7] at HK ⊢
                clear h9 h7
                go_wp2
                refine HK.out _ _ (Below.refl _ _) ?_
                rfl
              · intro vv W K s hlo hI hd HK
                simp only [confRules, conf5Rules] at hd HK
                have h10 := hd
                clear hd
                simp only [h10] at HK ⊢
                clear h10
                refine wpList_guard_yes (by rfl) ?_
                have hT := hI.2.get HGc.out HGC.out
                go_wp2_with (refine wpList_row_on (by rfl) 58 _ rfl w.heap.size rfl 58 _ _ _ hT Try.underlying58 rfl HGI.out ?_)
                refine HK.out _ _ (Below.refl _ _) ?_
                rfl
              · intro vv W K s hlo hI hd HK
                simp only [confRules, conf5Rules] at hd HK
                have h10 := hd
                clear hd
                simp only [h10] at HK ⊢
                clear h10
                refine wpList_guard_yes (by rfl) ?_
                go_wp2
                refine HK.out _ _ (Below.refl _ _) ?_
                rfl
              · intro vv W K s hlo hI hd HK
                simp only [confRules, conf5Rules] at hd HK
                obtain ⟨h11, h12, h10, _⟩ := hd
                simp only [h11, h12, h10] at HK ⊢
                clear h11 h12 h10
                refine wpList_guard_yes (by rfl) ?_
                go_wp2_with (refine (HDA.out _).mono ?_; rintro e w9 ⟨rfl, hB9⟩)
                refine HK.out _ _ hB9 ?_
                rfl
              · intro vv W K s hlo hI hd HK
                simp only [confRules, conf5Rules] at hd HK
                have h10 := hd
                clear hd
                simp only [h10] at HK ⊢
                clear h10
                refine wpList_guard_yes (by rfl) ?_
                have hT := hI.2.get HGc.out HGC.out
                go_wp2_with (refine wpList_row_on (by rfl) 58 _ rfl w.heap.size rfl 58 _ _ _ hT Try.underlying58 rfl HGI.out ?_)
                refine HK.out _ _ (Below.refl _ _) ?_
                rfl
              · intro vv W K s hlo hI hd HK
                simp only [confRules, conf5Rules] at hd HK
                have h10 := hd
                clear hd
                simp only [h10] at HK ⊢
                clear h10
                refine wpList_guard_yes (by rfl) ?_
                go_wp2
                refine HK.out _ _ (Below.refl _ _) ?_
                rfl
              · intro vv W K s hlo hI hd HK
                simp only [confRules, conf5Rules] at hd HK
                obtain ⟨h14, h15, h13, h10⟩ := hd
                simp only [h14, h15, h13, h10] at HK ⊢
                clear h14 h15 h13 h10
                refine wpList_guard_yes (by rfl) ?_
                go_wp2_with (refine (HDB.out _).mono ?_; rintro e w9 ⟨rfl, hB9⟩)
                refine HK.out _ _ hB9 ?_
                rfl
              · intro vv W K s hlo hI hd HK
                simp only [confRules, conf5Rules] at hd HK
                obtain ⟨h13, h16, h10⟩ := hd
                simp only [h13, h16, h10] at HK ⊢
                clear h13 h16 h10
                refine wpList_guard_yes (by rfl) ?_
                go_wp2
                refine HK.out _ _ (Below.refl _ _) ?_
                first | rfl | exact congrArg Value.bool (by simp)
              · intro vv W K s hlo hI hd HK
                simp only [confRules, conf5Rules] at hd HK
                obtain ⟨h10, h17⟩ := hd
                simp only [h10, h17] at HK ⊢
                clear h10 h17
                go_wp2
                refine HK.out _ _ (Below.refl _ _) ?_
                rfl
              · intro vv W K s hlo hI hd HK
                simp only [confRules, conf5Rules] at hd HK
                obtain ⟨h18, h16⟩ := hd
                simp only [h18, h16] at HK ⊢
                clear h18 h16
                go_wp2
                refine HK.out _ _ (Below.refl _ _) ?_
                rfl
              · intro vv W K s hlo hI hd HK
                simp only [confRules, conf5Rules] at hd HK
                have h19 := hd
                clear hd
                simp only [h19] at HK ⊢
                clear h19
                refine wpList_guard_yes (by rfl) ?_
                go_wp2
                refine HK.out _ _ (Below.refl _ _) ?_
                rfl
              · intro vv W K s hlo hI hd HK
                simp only [confRules, conf5Rules] at hd HK
                have h19 := hd
                clear hd
                simp only [h19] at HK ⊢
                clear h19
                refine wpList_guard_yes (by rfl) ?_
                go_wp2
                refine HK.out _ _ (Below.refl _ _) ?_
                rfl
              · intro vv W K hI hd HK
                simp only [confRules, conf5Rules] at hd HK
                obtain ⟨h20, h21, h19, _⟩ := hd
                simp only [h20, h21, h19] at HK ⊢
                clear h20 h21 h19
                refine wpList_guard_yes (by rfl) ?_
                obtain ⟨h1, h2⟩ := hI
                go_wp2_with (refine (HGA.out _ h1).mono ?_; rintro e w9 ⟨rfl, h9, hO9⟩)
                refine HK.out _ _ ⟨h9, h2.trans hO9⟩ ?_
                rfl
              · intro vv W K hI hd HK
                simp only [confRules, conf5Rules] at hd HK
                obtain ⟨h22, h19⟩ := hd
                simp only [h22, h19] at HK ⊢
                clear h22 h19
                refine wpList_guard_yes (by rfl) ?_
                go_wp2
                refine HK.out _ _ hI ?_
                first | rfl | exact congrArg Value.bool (by simp)
              · intro vv W K hI hd HK
                simp only [confRules, conf5Rules] at hd HK
                obtain ⟨h19, h23⟩ := hd
                simp only [h19, h23] at HK ⊢
                clear h19 h23
                go_wp2
                refine HK.out _ _ hI ?_
                first | rfl | exact congrArg Value.bool (by simp)
              · intro vv W K hI hd HK
                simp only [confRules, conf5Rules] at hd HK
                obtain ⟨h24, h22⟩ := hd
                simp only [h24, h22] at HK ⊢
                clear h24 h22
                go_wp2
                refine HK.out _ _ hI ?_
                first | rfl | exact congrArg Value.bool (by simp)
              · intro vv W K s hlo hI hd HK
                simp only [confRules, conf5Rules] at hd HK
                have h25 := hd
                clear hd
                simp only [h25] at HK ⊢
                clear h25
                refine wpList_guard_yes (by rfl) ?_
                go_wp2
                refine HK.out _ _ (Below.refl _ _) ?_
                rfl
              · intro vv W K s hlo hI hd HK
                simp only [confRules, conf5Rules] at hd HK
                have h25 := hd
                clear hd
                simp only [h25] at HK ⊢
                clear h25
                refine wpList_guard_yes (by rfl) ?_
                go_wp2
                refine HK.out _ _ (Below.refl _ _) ?_
                rfl
              · intro vv W K hI hd HK
                simp only [confRules, conf5Rules] at hd HK
                obtain ⟨h26, h27, h25, _⟩ := hd
                simp only [h26, h27, h25] at HK ⊢
                clear h26 h27 h25
                refine wpList_guard_yes (by rfl) ?_
                obtain ⟨h1, h2⟩ := hI
                go_wp2_with (refine (HGB.out _ h1).mono ?_; rintro e w9 ⟨rfl, h9, hO9⟩)
                refine HK.out _ _ ⟨h9, h2.trans hO9⟩ ?_
                rfl
              · intro vv W K s hlo hI hd HK
                simp only [confRules, conf5Rules] at hd HK
                obtain ⟨h28, h25⟩ := hd
                simp only [h28, h25] at HK ⊢
                clear h28 h25
                refine wpList_guard_yes (by rfl) ?_
                go_wp2
                refine HK.out _ _ (Below.refl _ _) ?_
                first | rfl | exact congrArg Value.bool (by simp)
            case rehend =>
              intro vv W hI hf
              have e25 := hf 25 (by decide)
              have e29 := hf 29 (by decide)
              simp only [conf5Rules] at e25 e29
              simp only [e25, e29, dropRules]
              clear hf e25 e29
              obtain ⟨h1, h2⟩ := hI
              have HBE := Lib.hid (HBW.out.trans (h2.below HCB.out HBW.out.size))
              clear h1 h2
              go_wp2
              go_ret
              exact ⟨rfl, HBE.out⟩
        · rw [he] at HGA
          have f4 : (e0 != 0) = true := by simpa using hne
          clear he hxy hne
          go_upto_region 26 with (fail)
          refine wp_region_stage 30 [.agg C, .int .i64 (x), .int .i64 (da), .bool false, .bool false, .agg C, .int .i64 (y), .int .i64 (db), .bool false, .bool false, .bool false, .agg C, .int .i64 (x), .int .i64 (da), .agg C, .int .i64 (y), .int .i64 (db), .bool false, .bool false, .bool false, .pointer (some ⟨P.p, 0, none⟩), .int .i64 (x), .int .i64 (e0), .bool true, .bool true, .bool true, undef, undef, undef, undef] [22] [0, 0, 0, 0, 0, 0, 0, 0, 0, 0, 0, 0, 0, 0, 0, 0, 0, 0, 0, 0, 0, 0, 1, 1, 1, 1, 1, 1, 1, 1] (fun _ W => PoolIs W P M ∧ Only P.cs wc W) ?rdA (by kernel_rfl) (by kernel_rfl) (by kernel_rfl) ?rdhA ?rdh0 ?rdhb ?rdho ?rdhend
          case rdhA =>
            intro vv
            simp only [putRules, Nat.reduceAdd]
            rfl
          case rdh0 =>
            exact ⟨HPC.out.only (Only.refl [] _).drew (by simp), (Only.refl _ _).drew⟩
          case rdhb =>
            intro s W W' ⟨h1, h2⟩ hB
            exact ⟨h1.below hB, h2.trans (Only.of_below hB)⟩
          case rdho =>
            refine ⟨?_, ?_, ?_, ?_, ?_, ?_, ?_, ?_, ?_, ?_, ?_, ?_, ?_, ?_, ?_, ?_, ?_, ?_, ?_, ?_, ?_, ?_, ?_, ?_, ?_, ?_, ?_, ?_, ?_, ?_, trivial⟩
            · intro vv W K s hlo hI hd HK
              simp only [confRules, conf5Rules] at HK
              clear hd
              have hT := hI.2.get HGc.out HGC.out
              go_wp2_with (refine wpList_row_on (by rfl) 58 _ rfl w.heap.size rfl 58 _ _ _ hT Try.underlying58 rfl HGI.out ?_)
              refine HK.out _ _ (Below.refl _ _) ?_
              rfl
            · intro vv W K s hlo hI hd HK
              simp only [confRules, conf5Rules] at HK
              clear hd
              go_wp2
              refine HK.out _ _ (Below.refl _ _) ?_
              rfl
            · intro vv W K s hlo hI hd HK
              simp only [confRules, conf5Rules] at hd HK
              obtain ⟨h0, h1⟩ := hd
              simp only [h0, h1] at HK ⊢
              clear h0 h1
              go_wp2_with (refine (HDA.out _).mono ?_; rintro e w9 ⟨rfl, hB9⟩)
              refine HK.out _ _ hB9 ?_
              rfl
            · intro vv W K s hlo hI hd HK
              simp only [confRules, conf5Rules] at hd HK
              have h2 := hd
              clear hd
              simp only [h2] at HK ⊢
              clear h2
              go_wp2
              refine HK.out _ _ (Below.refl _ _) ?_
              first | rfl | exact congrArg Value.bool (by simp)
            · intro vv W K s hlo hI hd HK
              simp only [confRules, conf5Rules] at hd HK
              obtain ⟨h3, h2⟩ := hd
              simp only [h3, h2] at HK ⊢
              clear h3 h2
              go_wp2
              refine HK.out _ _ (Below.refl _ _) ?_
              rfl
            · intro vv W K s hlo hI hd HK
              simp only [confRules, conf5Rules] at hd HK
              have h4 := hd
              clear hd
              simp only [h4] at HK ⊢
              clear h4
              refine wpList_guard_yes (by rfl) ?_
              have hT := hI.2.get HGc.out HGC.out
              go_wp2_with (refine wpList_row_on (by rfl) 58 _ rfl w.heap.size rfl 58 _ _ _ hT Try.underlying58 rfl HGI.out ?_)
              refine HK.out _ _ (Below.refl _ _) ?_
              rfl
            · intro vv W K s hlo hI hd HK
              simp only [confRules, conf5Rules] at hd HK
              have h4 := hd
              clear hd
              simp only [h4] at HK ⊢
              clear h4
              refine wpList_guard_yes (by rfl) ?_
              go_wp2
              refine HK.out _ _ (Below.refl _ _) ?_
              rfl
            · intro vv W K s hlo hI hd HK
              simp only [confRules, conf5Rules] at hd HK
              obtain ⟨h5, h6, h4, _⟩ := hd
              simp only [h5, h6, h4] at HK ⊢
              clear h5 h6 h4
              refine wpList_guard_yes (by rfl) ?_
              go_wp2_with (refine (HDB.out _).mono ?_; rintro e w9 ⟨rfl, hB9⟩)
              refine HK.out _ _ hB9 ?_
              rfl
            · intro vv W K s hlo hI hd HK
              simp only [confRules, conf5Rules] at hd HK
              obtain ⟨h7, h4⟩ := hd
              simp only [h7, h4] at HK ⊢
              clear h7 h4
              refine wpList_guard_yes (by rfl) ?_
              go_wp2
              refine HK.out _ _ (Below.refl _ _) ?_
              first | rfl | exact congrArg Value.bool (by simp)
            · intro vv W K s hlo hI hd HK
              simp only [confRules, conf5Rules] at hd HK
              obtain ⟨h4, h8⟩ := hd
              simp only [h4, h8] at HK ⊢
              clear h4 h8
              go_wp2
              refine HK.out _ _ (Below.refl _ _) ?_
              rfl
            · intro vv W K s hlo hI hd HK
              simp only [confRules, conf5Rules] at hd HK
              obtain ⟨h9, h7⟩ := hd
              simp only [h9, h7] at HK ⊢
              clear h9 h7
              go_wp2
              refine HK.out _ _ (Below.refl _ _) ?_
              rfl
            · intro vv W K s hlo hI hd HK
              simp only [confRules, conf5Rules] at hd HK
              have h10 := hd
              clear hd
              simp only [h10] at HK ⊢
              clear h10
              refine wpList_guard_yes (by rfl) ?_
              have hT := hI.2.get HGc.out HGC.out
              go_wp2_with (refine wpList_row_on (by rfl) 58 _ rfl w.heap.size rfl 58 _ _ _ hT Try.underlying58 rfl HGI.out ?_)
              refine HK.out _ _ (Below.refl _ _) ?_
              rfl
            · intro vv W K s hlo hI hd HK
              simp only [confRules, conf5Rules] at hd HK
              have h10 := hd
              clear hd
              simp only [h10] at HK ⊢
              clear h10
              refine wpList_guard_yes (by rfl) ?_
              go_wp2
              refine HK.out _ _ (Below.refl _ _) ?_
              rfl
            · intro vv W K s hlo hI hd HK
              simp only [confRules, conf5Rules] at hd HK
              obtain ⟨h11, h12, h10, _⟩ := hd
              simp only [h11, h12, h10] at HK ⊢
              clear h11 h12 h10
              refine wpList_guard_yes (by rfl) ?_
              go_wp2_with (refine (HDA.out _).mono ?_; rintro e w9 ⟨rfl, hB9⟩)
              refine HK.out _ _ hB9 ?_
              rfl
            · intro vv W K s hlo hI hd HK
              simp only [confRules, conf5Rules] at hd HK
              have h10 := hd
              clear hd
              simp only [h10] at HK ⊢
              clear h10
              refine wpList_guard_yes (by rfl) ?_
              have hT := hI.2.get HGc.out HGC.out
              go_wp2_with (refine wpList_row_on (by rfl) 58 _ rfl w.heap.size rfl 58 _ _ _ hT Try.underlying58 rfl HGI.out ?_)
              refine HK.out _ _ (Below.refl _ _) ?_
              rfl
            · intro vv W K s hlo hI hd HK
              simp only [confRules, conf5Rules] at hd HK
              have h10 := hd
              clear hd
              simp only [h10] at HK ⊢
              clear h10
              refine wpList_guard_yes (by rfl) ?_
              go_wp2
              refine HK.out _ _ (Below.refl _ _) ?_
              rfl
            · intro vv W K s hlo hI hd HK
              simp only [confRules, conf5Rules] at hd HK
              obtain ⟨h14, h15, h13, h10⟩ := hd
              simp only [h14, h15, h13, h10] at HK ⊢
              clear h14 h15 h13 h10
              refine wpList_guard_yes (by rfl) ?_
              go_wp2_with (refine (HDB.out _).mono ?_; rintro e w9 ⟨rfl, hB9⟩)
              refine HK.out _ _ hB9 ?_
              rfl
            · intro vv W K s hlo hI hd HK
              simp only [confRules, conf5Rules] at hd HK
              obtain ⟨h13, h16, h10⟩ := hd
              simp only [h13, h16, h10] at HK ⊢
              clear h13 h16 h10
              refine wpList_guard_yes (by rfl) ?_
              go_wp2
              refine HK.out _ _ (Below.refl _ _) ?_
              first | rfl | exact congrArg Value.bool (by simp)
            · intro vv W K s hlo hI hd HK
              simp only [confRules, conf5Rules] at hd HK
              obtain ⟨h10, h17⟩ := hd
              simp only [h10, h17] at HK ⊢
              clear h10 h17
              go_wp2
              refine HK.out _ _ (Below.refl _ _) ?_
              rfl
            · intro vv W K s hlo hI hd HK
              simp only [confRules, conf5Rules] at hd HK
              obtain ⟨h18, h16⟩ := hd
              simp only [h18, h16] at HK ⊢
              clear h18 h16
              go_wp2
              refine HK.out _ _ (Below.refl _ _) ?_
              rfl
            · intro vv W K s hlo hI hd HK
              simp only [confRules, conf5Rules] at hd HK
              have h19 := hd
              clear hd
              simp only [h19] at HK ⊢
              clear h19
              refine wpList_guard_yes (by rfl) ?_
              go_wp2
              refine HK.out _ _ (Below.refl _ _) ?_
              rfl
            · intro vv W K s hlo hI hd HK
              simp only [confRules, conf5Rules] at hd HK
              have h19 := hd
              clear hd
              simp only [h19] at HK ⊢
              clear h19
              refine wpList_guard_yes (by rfl) ?_
              go_wp2
              refine HK.out _ _ (Below.refl _ _) ?_
              rfl
            · intro vv W K hI hd HK
              simp only [confRules, conf5Rules] at hd HK
              obtain ⟨h20, h21, h19, _⟩ := hd
              simp only [h20, h21, h19] at HK ⊢
              clear h20 h21 h19
              refine wpList_guard_yes (by rfl) ?_
              obtain ⟨h1, h2⟩ := hI
              go_wp2_with (refine (HGA.out _ h1).mono ?_; rintro e w9 ⟨rfl, h9, hO9⟩)
              refine HK.out _ _ ⟨h9, h2.trans hO9⟩ ?_
              rfl
            · intro vv W K s hlo hI hd HK
              simp only [confRules, conf5Rules] at hd HK
              obtain ⟨h22, h19⟩ := hd
              simp only [h22, h19] at HK ⊢
              clear h22 h19
              refine wpList_guard_yes (by rfl) ?_
              go_wp2
              refine HK.out _ _ (Below.refl _ _) ?_
              first | rfl | exact congrArg Value.bool (by simp)
            · intro vv W K s hlo hI hd HK
              simp only [confRules, conf5Rules] at hd HK
              obtain ⟨h19, h23⟩ := hd
              simp only [h19, h23] at HK ⊢
              clear h19 h23
              go_wp2
              refine HK.out _ _ (Below.refl _ _) ?_
              rfl
            · intro vv W K s hlo hI hd HK
              simp only [confRules, conf5Rules] at hd HK
              obtain ⟨h24, h22⟩ := hd
              simp only [h24, h22] at HK ⊢
              clear h24 h22
              go_wp2
              refine HK.out _ _ (Below.refl _ _) ?_
              rfl
            · intro vv W K s hlo hI hd HK
              simp only [confRules, conf5Rules] at hd HK
              have h25 := hd
              clear hd
              simp only [h25] at HK ⊢
              clear h25
              refine wpList_guard_no (by rfl) ?_
              refine HK.out _ _ (Below.refl _ _) ?_
              rfl
            · intro vv W K s hlo hI hd HK
              simp only [confRules, conf5Rules] at hd HK
              have h25 := hd
              clear hd
              simp only [h25] at HK ⊢
              clear h25
              refine wpList_guard_no (by rfl) ?_
              refine HK.out _ _ (Below.refl _ _) ?_
              rfl
            · intro vv W K s hlo hI hd HK
              simp only [confRules, conf5Rules] at hd HK
              obtain ⟨h26, h27, h25, _⟩ := hd
              simp only [h26, h27, h25] at HK ⊢
              clear h26 h27 h25
              refine wpList_guard_no (by rfl) ?_
              refine HK.out _ _ (Below.refl _ _) ?_
              rfl
            · intro vv W K s hlo hI hd HK
              simp only [confRules, conf5Rules] at hd HK
              obtain ⟨h28, h25⟩ := hd
              simp only [h28, h25] at HK ⊢
              clear h28 h25
              refine wpList_guard_no (by rfl) ?_
              refine HK.out _ _ (Below.refl _ _) ?_
              rfl
          case rdhend =>
            intro vv W hI hf
            have e25 := hf 25 (by decide)
            have e29 := hf 29 (by decide)
            simp only [conf5Rules] at e25 e29
            simp only [e25, e29, dropRules]
            clear hf e25 e29
            obtain ⟨h1, h2⟩ := hI
            have HBE := Lib.hid (HBW.out.trans (h2.below HCB.out HBW.out.size))
            clear h1 h2
            go_wp2
            go_ret
            exact ⟨rfl, HBE.out⟩
set_option maxRecDepth 100000 in
set_option maxHeartbeats 2000000 in
theorem pl_pairs_walk (g : Geo.G) (a : Option Addr) (l : List (Int × Int)) (cp : Nat) (x y : Int) (w : World) (hI : StepsP w a l) :
    Calls Try.prog 10 #[.agg (GC g), .slice a l.length cp, .int .i64 x, .int .i64 y] w fun e w' => e = .returned (.bool true) ∧ Below w.heap.size w w' := by
  have HA := Lib.hid (fun W => pl_anchor W)
  have hal := (Below.refl w.heap.size w).alloc (Nat.le_refl _) (.cells (GC g) 58)
  by_cases hl : l.length ≤ 60
  · cases hr : Geo.right g
    · have HST := Lib.hid (fun W => pstart_no g hr W)
      have HRT : Hid (∀ W, Calls Try.prog 29 #[.agg (GC g)] W fun e w' => e = .returned (.bool false) ∧ Below W.heap.size W w') := Lib.hid (fun W => by have := gright_any g W; rwa [hr] at this)
      have HGI := Lib.hid (gsize (g := g))
      have HRI : Hid (∀ d z v, (Try.prog.info? 61).map (·.size) = some (RP d z v).size) := Lib.hid (fun _ _ _ => (zero_of_info Try.infoRP).2)
      have hz := (zero_of_info Try.infoRP).1
      have t1 : decide (60 < (l.length : Int)) = false := decide_eq_false (by omega)
      have hnew := heap_alloc_new w (.cells (GC g) 58)
      have hsz : w.heap.size < (w.alloc (.cells (GC g) 58)).heap.size := by simp
      clear hr hI
      generalize hC : GC g = C at *
      clear hC
      go_enter Try.func10, Try.ntmps10
      go_wp2_with fail
      refine (HA.out _).mono ?_
      rintro e w0 ⟨rfl, hB0⟩
      have hg0 := (hB0.block w.heap.size hsz).trans hnew
      have hBx := hal.trans (hB0.mono hal.size)
      have z0 := hB0.size
      clear hal hnew hB0
      go_wp2_with (refine wpList_row_on (by rfl) 58 _ rfl w.heap.size rfl 58 _ _ _ hg0 Try.underlying58 rfl HGI.out ?_)
      refine (HST.out _).mono ?_
      rintro e w1 ⟨rfl, hB1⟩
      have hg1 := (hB1.block w.heap.size (by omega)).trans hg0
      have HBW1 := Lib.hid (hBx.trans (hB1.mono hBx.size))
      have z1 : w.heap.size < w1.heap.size := (Array.getElem?_eq_some_iff.1 hg1).1
      obtain ⟨W2, hW2⟩ : ∃ W2, w1.alloc (.cells (RP 0 0 (.slice none 0 0)) 61) = W2 := ⟨_, rfl⟩
      have hb2 : Below w1.heap.size w1 W2 := by rw [← hW2]; exact (Below.refl _ _).alloc (Nat.le_refl _) _
      have HG2 := Lib.hid ((hb2.block w.heap.size z1).trans hg1)
      have HBW2 := Lib.hid (HBW1.out.trans (hb2.mono HBW1.out.size))
      have HW2 := Lib.hid hW2
      clear hb2 hW2 hB1 hBx hg0 hg1
      go_upto_region 6 with (refine wpList_store_row rfl 61 _ _ rfl w1.heap.size (RP 0 0 (.slice none 0 0)) rfl rfl 61 (RP 0 0 (.slice none 0 0)) (heap_alloc_new w1 _) (HRI.out _ _ _) rfl (RP_one _ _ _ _ _) ?_; rw [World.setRow_alloc_new])
      rw [HW2.out]
      go_wp2_with (refine wpList_row_on (by rfl) 58 _ rfl w.heap.size rfl 58 _ _ _ HG2.out Try.underlying58 rfl HGI.out ?_)
      refine (HRT.out _).mono ?_
      rintro e w3 ⟨rfl, hB3⟩
      have hBB := HBW2.out.trans (hB3.mono HBW2.out.size)
      clear hB3
      go_wp2
      go_ret
      exact ⟨rfl, hBB⟩
    · exact pl_pairs_core g hr a l cp x y w hI hl
  · have t1 : decide (60 < (l.length : Int)) = true := decide_eq_true (by omega)
    clear hI
    generalize hC : GC g = C at *
    clear hC
    go_enter Try.func10, Try.ntmps10
    go_wp2_with fail
    refine (HA.out _).mono ?_
    rintro e w0 ⟨rfl, hB0⟩
    have hBx := hal.trans (hB0.mono hal.size)
    clear hal hB0
    go_wp2
    go_ret
    exact ⟨rfl, hBx⟩
end Go.Proofs.Ytogijlpclceanaa
