/- Proved here: the walk of the law on plays of a pool. -/
import Derived.Test.YtogijlpclceanaaPlOps
import Derived.Test.YtogijlpclceanaaPlSame
import Derived.Test.YtogijlpclceanaaConfU
import Derived.Test.YtogijlpclceanaaConf5
import Derived.Deep.Cut
import Derived.Deep.CutRange
import Derived.Deep.CutBlock
namespace Go.Proofs.Ytogijlpclceanaa
open Go.Conc Go.RowKit Go.Rv Go.Shelf
set_option linter.unusedVariables false
attribute [local go_sem] Oper.semAt_some
open PoolM (dl cnt Ok less giveOf dropOf takeOf pairOf countOf npairs pairZ stepOf)
set_option maxRecDepth 100000 in
set_option maxHeartbeats 8000000 in
theorem pl_plays_core (g : Geo.G) (hr : Geo.right g = true) (a : Option Addr) (l : List (Int × Int)) (cp : Nat) (x : Int) (w : World) (hI : StepsP w a l) (hl : l.length ≤ 60) :
    Calls Try.prog 9 #[.agg (GC g), .slice a l.length cp, .int .i64 x] w fun e w' => e = .returned (.bool true) ∧ Below w.heap.size w w' := by
  have hs := ((Geo.right_iff g).1 hr).1
  have HA := Lib.hid (fun W => pl_anchor W)
  have HST := Lib.hid (fun W => pstart_any g hr W)
  have HGI := Lib.hid (gsize (g := g))
  have HDM := Lib.hid (fun x W => gdomain_any g x W hs)
  have HI := Lib.hid hI
  have HRI : Hid (∀ d z v, (Try.prog.info? 61).map (·.size) = some (RP d z v).size) := Lib.hid (fun _ _ _ => (zero_of_info Try.infoRP).2)
  have HOI : Hid (∀ i j, (Try.prog.info? 74).map (·.size) = some (opV i j).size) := Lib.hid (fun _ _ => by kernel_rfl)
  have hz := (zero_of_info Try.infoRP).1
  have t1 : decide (60 < (l.length : Int)) = false := decide_eq_false (by omega)
  have hal := (Below.refl w.heap.size w).alloc (Nat.le_refl _) (.cells (GC g) 58)
  have hnew := heap_alloc_new w (.cells (GC g) 58)
  have hsz : w.heap.size < (w.alloc (.cells (GC g) 58)).heap.size := by simp
  have HGG := Lib.hid (show ∀ P : PR, P.g = g → domOf P.g = domOf g ∧ P.g.z = g.z ∧ P.g.d = g.d from fun P h => by rw [h]; exact ⟨rfl, rfl, rfl⟩)
  clear hI hs hr
  generalize hC : GC g = C at *
  clear hC
  go_enter Try.func9, Try.ntmps9
  go_wp2_with fail
  refine (HA.out _).mono ?_
  rintro e w0 ⟨rfl, hB0⟩
  have hg0 := (hB0.block w.heap.size hsz).trans hnew
  have hBx := hal.trans (hB0.mono hal.size)
  have z0 := hB0.size
  clear hal hnew hB0
  go_wp2_with (refine wpList_row_on (by rfl) 58 _ rfl w.heap.size rfl 58 _ _ _ hg0 Try.underlying58 rfl HGI.out ?_)
  refine (HST.out _).mono ?_
  rintro e w1 ⟨P, rfl, hPg, hP, hbs, hB1⟩
  have hg1 := (hB1.block w.heap.size (by omega)).trans hg0
  have HBW1 := Lib.hid (hBx.trans (hB1.mono hBx.size))
  obtain ⟨q, hq⟩ : ∃ q, w1.heap.size = q := ⟨_, rfl⟩
  have HQL : Hid (∀ k ∈ P.bs, k < q) := Lib.hid (fun k hk => by rw [← hq]; exact hP.lt k hk)
  obtain ⟨W2, hW2⟩ : ∃ W2, w1.alloc (.cells (RP g.d g.z (.slice none 0 0)) 61) = W2 := ⟨_, rfl⟩
  have hb2 : Below w1.heap.size w1 W2 := by rw [← hW2]; exact (Below.refl _ _).alloc (Nat.le_refl _) _
  have hrow2 : W2.heap[q]? = some (.cells (RP g.d g.z (.slice none 0 0)) 61 (0, 0)) := by rw [← hW2, ← hq]; exact heap_alloc_new w1 _
  have z1 : w.heap.size < w1.heap.size := (Array.getElem?_eq_some_iff.1 hg1).1
  have HG2 := Lib.hid ((hb2.block w.heap.size z1).trans hg1)
  have HP2 := Lib.hid (hP.below hb2)
  have HBW2 := Lib.hid (HBW1.out.trans (hb2.mono HBW1.out.size))
  have HBS : Hid (∀ k ∈ P.bs, w.heap.size < k) := Lib.hid (fun k hk => by have := hbs k hk; omega)
  have zq : q < W2.heap.size := (Array.getElem?_eq_some_iff.1 hrow2).1
  have hW2q : w1.alloc (.cells (RP g.d g.z (.slice none 0 0)) 61) = W2 := hW2
  have HW2 := Lib.hid hW2
  obtain ⟨hgd, hgz, hgdd⟩ := HGG.out P hPg
  have HGD := Lib.hid hgd
  have hlen := hP.len
  rw [← hgdd, ← hgz, ← hlen] at hrow2
  have HR2 := Lib.hid hrow2
  have z2 := HBW2.out.size
  have zw2 : w.heap.size < W2.heap.size := (Array.getElem?_eq_some_iff.1 HG2.out).1
  have zwq : w.heap.size < q := by omega
  have HQ := Lib.hid hq
  clear hb2 hW2 hP hbs hB1 hBx hg0 hgd hrow2 hW2q hq hlen hgz hgdd hPg
  go_upto_region 6 with (refine wpList_store_row rfl 61 _ _ rfl w1.heap.size (RP g.d g.z (.slice none 0 0)) rfl rfl 61 (RP 0 0 (.slice none 0 0)) (heap_alloc_new w1 _) (HRI.out _ _ _) rfl (RP_one _ _ _ _ _) ?_; rw [World.setRow_alloc_new])
  rw [HW2.out, HQ.out]
  clear hg1 HQ HW2
  go_wp2
  go_loopw [41] (fun i wr => ∃ (k : Nat) (L : List Int) (v : Value), k ≤ l.length ∧ i = .int .i64 k ∧ IntsC wr v L ∧ OffB q v L ∧ wr.heap[q]? = some (.cells (RP P.qc.length P.g.z v) 61 (0, 0)) ∧ PoolIs wr P L ∧ Only (q :: P.cs) W2 wr) (fun i _ => l.length - (intOf i).toNat)
  case atStart => exact ⟨0, [], _, Nat.zero_le _, rfl, ⟨none, 0, rfl, Ints.nil _ _, fun _ => rfl, Nat.le_refl _, by omega⟩, fun h => absurd rfl h, HR2.out, HP2.out, Only.refl _ _⟩
  case round =>
    obtain ⟨k, L, v, hk, rfl, hv, hoff, hrow, hpl, hO⟩ := hrel
    have HPL := Lib.hid hpl
    have HV := Lib.hid hv
    have HOFF := Lib.hid hoff
    have HROW := Lib.hid hrow
    have HGN : Hid (w.heap.size ∉ q :: P.cs) := Lib.hid (fun h => by
      rcases List.mem_cons.1 h with e | h
      · omega
      · have := HBS.out _ (PR.cs_bs h); omega)
    have hg := hO.get HG2.out HGN.out
    have HGR := Lib.hid hg
    have HOR := Lib.hid hO
    have hzz := hO.size
    clear hpl hv hoff hrow hg hO
    by_cases hlt : k < l.length
    · obtain ⟨s, hsx⟩ : ∃ s, l[k]? = some s := ⟨_, List.getElem?_eq_getElem hlt⟩
      obtain ⟨b, o, rfl, hbl, hcs⟩ := HI.out.resolve_left (by intro e; rw [e] at hlt; simp at hlt)
      obtain ⟨hx1, hx2⟩ := hcs k s hsx
      have HNB : Hid (b ∉ q :: P.cs) := Lib.hid (fun h => by
        rcases List.mem_cons.1 h with e | h
        · omega
        · have := HBS.out _ (PR.cs_bs h); omega)
      have hc1 := (World.cell?_of_block (a := ⟨b, o + k * 2, none⟩) (HOR.out.block b (by omega) HNB.out)).trans ((HBW2.out.cell (p := ⟨b, o + k * 2, none⟩) hbl).trans hx1)
      have hc2 := (World.cell?_of_block (a := ⟨b, o + k * 2 + 1, none⟩) (HOR.out.block b (by omega) HNB.out)).trans ((HBW2.out.cell (p := ⟨b, o + k * 2 + 1, none⟩) hbl).trans hx2)
      clear hx1 hx2 hcs hsx
      obtain ⟨kind, xv⟩ := s
      simp only at hc1 hc2
      have hal := (Below.refl wr.heap.size wr).alloc (Nat.le_refl _) (.cells (opV kind xv) 74)
      have hnb := heap_alloc_new wr (.cells (opV kind xv) 74)
      obtain ⟨WA, hWA⟩ : ∃ WA, wr.alloc (.cells (opV kind xv) 74) = WA := ⟨_, rfl⟩
      have HWA := Lib.hid hWA
      have hqr : q < wr.heap.size := (Array.getElem?_eq_some_iff.1 HROW.out).1
      rw [hWA] at hal hnb
      have hROWA := (hal.block q hqr).trans HROW.out
      have HPA := Lib.hid (HPL.out.below hal)
      have HVA := Lib.hid (HV.out.belowP hal)
      have HOA : Hid (Only (q :: P.cs) W2 WA) := Lib.hid (HOR.out.trans (Only.of_below hal))
      have HSTEP := Lib.hid (pstep_any WA P L v kind xv HPA.out HVA.out)
      have hqA : q < WA.heap.size := (Array.getElem?_eq_some_iff.1 hROWA).1
      clear hal hWA
      go_upto_region 12 with (fail)
      rw [show (wr.alloc (.cells #[.int .i64 kind, .int .i64 xv] 74)) = WA from HWA.out]
      go_wp2_with (first | (refine wpList_row_on (by rfl) 61 _ rfl q rfl 61 _ _ _ hROWA Try.underlying61 rfl (HRI.out _ _ _) ?_) | (refine wpList_row_on (by rfl) 74 _ rfl wr.heap.size rfl 74 _ _ _ hnb Try.underlying74 rfl (HOI.out _ _) ?_))
      refine HSTEP.out.mono ?_
      rintro e w3 ⟨v', rfl, hv', hp3, hO3, hns⟩
      have hqc : q ∉ P.cs := fun h => by have := HQL.out q (PR.cs_bs h); omega
      have hrow3 := hO3.get hROWA hqc
      have HSH' := Lib.hid (IntsC.shape hv')
      have HOFF3 := Lib.hid (HOFF.out.step HVA.out hv' hns hqA)
      have hO5 := only_setRow w3 q (RP P.qc.length P.g.z v')
      have HV5 := Lib.hid (hv'.apart hO5 HOFF3.out)
      have HP5 := Lib.hid (hp3.only hO5 (fun k hk hm => by
        obtain rfl : k = q := by simpa using hk
        have := HQL.out _ hm
        omega))
      have HR5 : Hid ((w3.setRow q (RP P.qc.length P.g.z v')).heap[q]? = some (.cells (RP P.qc.length P.g.z v') 61 (0, 0))) := Lib.hid (setRow_heap _ _ _ _ _ _ hrow3)
      have HO5 : Hid (Only (q :: P.cs) W2 (w3.setRow q (RP P.qc.length P.g.z v'))) := Lib.hid ((HOA.out.trans (hO3.mono (fun k hk => .inl (by simp [hk])))).trans (hO5.mono (fun k hk => .inl (by simp at hk; simp [hk]))))
      clear hv' hp3 hO3 hns hO5 hROWA hnb
      obtain ⟨w5, hw5⟩ : ∃ w5, w3.setRow q (RP P.qc.length P.g.z v') = w5 := ⟨_, rfl⟩
      rw [hw5] at HV5 HP5 HR5 HO5
      have HW5 := Lib.hid hw5
      clear hw5
      go_upto_region 13 with (refine wpList_store_row rfl 61 _ _ rfl q (RP P.qc.length P.g.z v') rfl rfl 61 _ hrow3 (HRI.out _ _ _) rfl (rp_one _ _ HSH'.out) ?_)
      rw [HW5.out]
      clear hrow3
      have hrow5 := HR5.out
      go_wp2_with (refine wpList_row_on (by rfl) 61 _ rfl q rfl 61 _ _ _ hrow5 Try.underlying61 rfl (HRI.out _ _ _) ?_)
      refine (psame_any w5 P _ v' x HP5.out HV5.out).mono ?_
      rintro e w6 ⟨rfl, hp6, hO6⟩
      have hqc : q ∉ P.cs := fun h => by have := HQL.out q (PR.cs_bs h); omega
      have HV6 := Lib.hid (HV5.out.apart hO6 (fun h0 ad n c e hm => int_ne_chan HV5.out HP5.out h0 e hm))
      have HR6 := Lib.hid (hO6.get hrow5 hqc)
      have HP6 := Lib.hid hp6
      have HO6 : Hid (Only (q :: P.cs) W2 w6) := Lib.hid (HO5.out.trans (hO6.mono (fun k hk => by simp [hk])))
      clear hp6 hO6 hrow5
      go_wp2
      go_roundw
      case rel => exact ⟨k + 1, _, v', by omega, by go_num, HV6.out, HOFF3.out, HR6.out, HP6.out, HO6.out⟩
      case measure => simp [intOf]; omega
    · obtain rfl : k = l.length := by omega
      have HBE := Lib.hid (HBW2.out.trans (HOR.out.below (fun k hk => by
        rcases List.mem_cons.1 hk with e | hk
        · omega
        · have := HBS.out k (PR.cs_bs hk); omega) z2))
      clear HOR
      go_wp2
      go_ret
      exact ⟨rfl, HBE.out⟩
set_option maxRecDepth 100000 in
set_option maxHeartbeats 2000000 in
theorem pl_plays_walk (g : Geo.G) (a : Option Addr) (l : List (Int × Int)) (cp : Nat) (x : Int) (w : World) (hI : StepsP w a l) :
    Calls Try.prog 9 #[.agg (GC g), .slice a l.length cp, .int .i64 x] w fun e w' => e = .returned (.bool true) ∧ Below w.heap.size w w' := by
  have HA := Lib.hid (fun W => pl_anchor W)
  have hal := (Below.refl w.heap.size w).alloc (Nat.le_refl _) (.cells (GC g) 58)
  by_cases hl : l.length ≤ 60
  · cases hr : Geo.right g
    · have HST := Lib.hid (fun W => pstart_no g hr W)
      have HNO := Lib.hid (fun W => pnew_no g hr W)
      have HRT : Hid (∀ W, Calls Try.prog 39 #[.agg (GC g)] W fun e w' => e = .returned (.bool false) ∧ Below W.heap.size W w') := Lib.hid (fun W => by have := grefright_any g W; rwa [hr] at this)
      have HGI := Lib.hid (gsize (g := g))
      have HRI : Hid (∀ d z v, (Try.prog.info? 61).map (·.size) = some (RP d z v).size) := Lib.hid (fun _ _ _ => (zero_of_info Try.infoRP).2)
      have hz := (zero_of_info Try.infoRP).1
      have t1 : decide (60 < (l.length : Int)) = false := decide_eq_false (by omega)
      have hnew := heap_alloc_new w (.cells (GC g) 58)
      have hsz : w.heap.size < (w.alloc (.cells (GC g) 58)).heap.size := by simp
      clear hr hI
      generalize hC : GC g = C at *
      clear hC
      go_enter Try.func9, Try.ntmps9
      go_wp2_with fail
      refine (HA.out _).mono ?_
      rintro e w0 ⟨rfl, hB0⟩
      have hg0 := (hB0.block w.heap.size hsz).trans hnew
      have hBx := hal.trans (hB0.mono hal.size)
      have z0 := hB0.size
      clear hal hnew hB0
      go_wp2_with (refine wpList_row_on (by rfl) 58 _ rfl w.heap.size rfl 58 _ _ _ hg0 Try.underlying58 rfl HGI.out ?_)
      refine (HST.out _).mono ?_
      rintro e w1 ⟨rfl, hB1⟩
      have hg1 := (hB1.block w.heap.size (by omega)).trans hg0
      have HBW1 := Lib.hid (hBx.trans (hB1.mono hBx.size))
      have z1 : w.heap.size < w1.heap.size := (Array.getElem?_eq_some_iff.1 hg1).1
      obtain ⟨W2, hW2⟩ : ∃ W2, w1.alloc (.cells (RP 0 0 (.slice none 0 0)) 61) = W2 := ⟨_, rfl⟩
      have hb2 : Below w1.heap.size w1 W2 := by rw [← hW2]; exact (Below.refl _ _).alloc (Nat.le_refl _) _
      have HG2 := Lib.hid ((hb2.block w.heap.size z1).trans hg1)
      have HBW2 := Lib.hid (HBW1.out.trans (hb2.mono HBW1.out.size))
      have HW2 := Lib.hid hW2
      clear hb2 hW2 hB1 hBx hg0 hg1
      go_upto_region 6 with (refine wpList_store_row rfl 61 _ _ rfl w1.heap.size (RP 0 0 (.slice none 0 0)) rfl rfl 61 (RP 0 0 (.slice none 0 0)) (heap_alloc_new w1 _) (HRI.out _ _ _) rfl (RP_one _ _ _ _ _) ?_; rw [World.setRow_alloc_new])
      rw [HW2.out]
      go_wp2_with (refine wpList_row_on (by rfl) 58 _ rfl w.heap.size rfl 58 _ _ _ HG2.out Try.underlying58 rfl HGI.out ?_)
      refine (HNO.out _).mono ?_
      rintro e w3 ⟨rfl, hB3⟩
      have hg3 := (hB3.block w.heap.size (Array.getElem?_eq_some_iff.1 HG2.out).1).trans HG2.out
      have HB3 := Lib.hid (HBW2.out.trans (hB3.mono HBW2.out.size))
      clear hB3
      go_wp2_with (refine wpList_row_on (by rfl) 58 _ rfl w.heap.size rfl 58 _ _ _ hg3 Try.underlying58 rfl HGI.out ?_)
      refine (HRT.out _).mono ?_
      rintro e w4 ⟨rfl, hB4⟩
      have hBB := HB3.out.trans (hB4.mono HB3.out.size)
      clear hB4
      go_wp2
      go_ret
      exact ⟨rfl, hBB⟩
    · exact pl_plays_core g hr a l cp x w hI hl
  · have t1 : decide (60 < (l.length : Int)) = true := decide_eq_true (by omega)
    clear hI
    generalize hC : GC g = C at *
    clear hC
    go_enter Try.func9, Try.ntmps9
    go_wp2_with fail
    refine (HA.out _).mono ?_
    rintro e w0 ⟨rfl, hB0⟩
    have hBx := hal.trans (hB0.mono hal.size)
    clear hal hB0
    go_wp2
    go_ret
    exact ⟨rfl, hBx⟩
end Go.Proofs.Ytogijlpclceanaa
