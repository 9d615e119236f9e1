/- Proved here: a pool that holds a list is told to be the document's (the law's 'same'). -/
import Derived.Test.YtogijlpclceanaaPlHas
import Derived.Test.YtogijlpclceanaaPlOps
import Derived.Test.YtogijlpclceanaaConf2
import Derived.Test.YtogijlpclceanaaConf5
import Derived.Test.YtogijlpclceanaaAsk
import Derived.Test.YtogijlpclceanaaConfIn
namespace PoolM
/-- the domain of the zone that came last -/
def lastD (pre : List (Nat × Int)) : Nat := (pre.getLast?.map (·.1)).getD 0
theorem lastD_app (pre : List (Nat × Int)) (x : Nat × Int) : lastD (pre ++ [x]) = x.1 := by unfold lastD; simp
theorem lastD_le {z : Int} {L : List Int} {m : Nat} {pre : List (Nat × Int)} {x : Nat × Int} (h : pre ++ [x] <+: allTo z L m) : lastD pre ≤ x.1 := by
  have hs := (allTo_sorted z L m).sublist h.sublist
  unfold lastD
  cases hl : pre.getLast? with
  | none => simp
  | some y =>
    simp only [Option.map_some, Option.getD_some]
    have hy : y ∈ pre := List.mem_of_getLast? hl
    exact (List.pairwise_append.1 hs).2.2 y hy x (by simp)
end PoolM
namespace Go.Proofs.Ytogijlpclceanaa
open Go.Conc Go.RowKit Go.Rv Go.Shelf
set_option linter.unusedVariables false
attribute [local go_sem] Oper.semAt_some
open PoolM (dl cnt Ok less allTo cntR countOf lastD npairs)
theorem calls_round {P : Program} {rr n : Nat} {f : FuncId} {args : Array Value} {w : World} {R : Ending → World → Prop} (h : Calls P f args w R) : CallsIn (Fence.wide.inRound rr) n P f args w R := (callsIn_wide (n := n)).2 h
set_option maxRecDepth 100000 in
set_option maxHeartbeats 8000000 in
theorem psame_any (w : World) (P : PR) (L : List Int) (v : Value) (zn : Int) (h : PoolIs w P L) (hv : IntsC w v L) :
    Calls Try.prog 41 #[.pointer (some ⟨P.p, 0, none⟩), .agg (RP P.qc.length P.g.z v), .int .i64 zn] w fun e w' => e = .returned (.bool true) ∧ PoolIs w' P L ∧ Only P.cs w w' := by
  have HA := Lib.hid (fun W => pall_any (some ⟨P.p, 0, none⟩) W)
  have hlt := h.lt
  have HRK := Lib.hid h.rp
  have HH := Lib.hid h
  have HV := Lib.hid hv
  have HIX : Hid (∀ u, (Try.prog.info? 61).map (·.size) = some (RP P.qc.length P.g.z u).size) := Lib.hid (fun u => (zero_of_info Try.infoRP).2)
  obtain ⟨sa, sc, rfl⟩ : ∃ sa sc, v = .slice sa L.length sc := by obtain ⟨a, cp, rfl, -⟩ := hv; exact ⟨a, cp, rfl⟩
  have hl512 := HRK.out.len
  have hz1 := HRK.out.ok.z1
  have hz64 := HRK.out.z64
  have hD8 := HRK.out.d8
  obtain ⟨D, hD⟩ : ∃ D, P.qc.length = D := ⟨_, rfl⟩
  obtain ⟨z, hz⟩ : ∃ z, P.g.z = z := ⟨_, rfl⟩
  have HCNT : Hid (∀ (i : Int) W, PoolIs W P L → Calls Try.prog 33 #[.pointer (some ⟨P.p, 0, none⟩), .int .i64 i] W fun e w' => e = .returned (.int .i64 (countOf D z L i : Nat)) ∧ Below W.heap.size W w') := Lib.hid (fun i W hW => (by have := pcount_any W P L hW i; rw [hD, hz] at this; exact this.mono (fun e w' ⟨h1, h2⟩ => ⟨h1, h2 ▸ Below.refl _ _⟩)))
  have HPRS : Hid (∀ W, PoolIs W P L → Calls Try.prog 34 #[.pointer (some ⟨P.p, 0, none⟩)] W fun e w' => e = .returned (.int .i64 (npairs D z L : Nat)) ∧ Below W.heap.size W w') := Lib.hid (fun W hW => (by have := ppairs_eq W P L hW; rwa [hD, hz] at this))
  have HHAS := Lib.hid (fun W (hW : PoolIs W P L) => phas_any W P L hW zn)
  have HSQ0 := Lib.hid (fun W Bp hB (hW : PoolIs W P L) => pall1_stops 7 Bp P L W hB hW)
  simp only [hD, hz] at HRK HIX hz1 hz64 hD8 ⊢
  simp only [hD, hz] at HSQ0
  have HRH := Lib.hid (fun x W hW => rpc_has D z (.slice sa L.length sc) L x W HRK.out hW)
  have HRC := Lib.hid (fun i W hW => rpc_count D z (.slice sa L.length sc) L i W HRK.out hW)
  have HRP := Lib.hid (fun W hW => rpc_pairs D z (.slice sa L.length sc) L W HRK.out hW)
  have HDN := Lib.hid hD
  have HZN := Lib.hid hz
  clear h hv hD hz
  refine calls_of_marks Try.func41 rfl ?_
  simp only [Try.ntmps41, List.size_toArray, List.length_cons, List.length_nil, Nat.reduceAdd, Nat.reduceSub, Array.replicate_succ, Array.replicate_zero, List.push_toArray, List.append_toArray, List.nil_append, List.cons_append]
  go_wp2_with fail
  refine (HA.out _).mono ?_
  rintro e w1 ⟨rfl, rfl⟩
  obtain ⟨W0, hW0⟩ : ∃ W0, ((((w.alloc (.cells (RP D z (.slice sa L.length sc)) 61)).alloc (.cells #[.bool false] 4)).alloc (.cells #[.int .i64 0] 3)).alloc (.cells #[.int .i64 0] 3)).alloc (.cells #[.pointer (some ⟨P.p, 0, none⟩)] 59) = W0 := ⟨_, rfl⟩
  have hO0 : Only [] w W0 := by rw [← hW0]; exact (((((Only.refl [] w).alloc _).alloc _).alloc _).alloc _).alloc _
  have z0 : W0.heap.size = w.heap.size + 1 + 1 + 1 + 1 + 1 := by rw [← hW0]; simp
  have hb0 : W0.heap[w.heap.size]? = some (.cells (RP D z (.slice sa L.length sc)) 61 (0, 0)) := by rw [← hW0]; (repeat (first | refine (alloc_old _ _ (by (try simp only [World.size_alloc]); omega)).trans ?_ | exact alloc_new _ _ (by simp)))
  have hb1 : W0.heap[w.heap.size + 1]? = some (.cells #[.bool false] 4 (0, 0)) := by rw [← hW0]; (repeat (first | refine (alloc_old _ _ (by (try simp only [World.size_alloc]); omega)).trans ?_ | exact alloc_new _ _ (by simp)))
  have hb2 : W0.heap[w.heap.size + 1 + 1]? = some (.cells #[.int .i64 0] 3 (0, 0)) := by rw [← hW0]; (repeat (first | refine (alloc_old _ _ (by (try simp only [World.size_alloc]); omega)).trans ?_ | exact alloc_new _ _ (by simp)))
  have hb3 : W0.heap[w.heap.size + 1 + 1 + 1]? = some (.cells #[.int .i64 0] 3 (0, 0)) := by rw [← hW0]; (repeat (first | refine (alloc_old _ _ (by (try simp only [World.size_alloc]); omega)).trans ?_ | exact alloc_new _ _ (by simp)))
  have hb4 : W0.heap[w.heap.size + 1 + 1 + 1 + 1]? = some (.cells #[.pointer (some ⟨P.p, 0, none⟩)] 59 (0, 0)) := by rw [← hW0]; (repeat (first | refine (alloc_old _ _ (by (try simp only [World.size_alloc]); omega)).trans ?_ | exact alloc_new _ _ (by simp)))
  have hsz : ((((w.alloc (.cells (RP D z (.slice sa L.length sc)) 61)).alloc (.cells #[.bool false] 4)).alloc (.cells #[.int .i64 0] 3)).alloc (.cells #[.int .i64 0] 3)).heap.size = w.heap.size + 1 + 1 + 1 + 1 := by simp
  rw [hW0, hsz]
  clear hW0 hsz
  have hP0 : PoolIs W0 P L := HH.out.only hO0 (by simp)
  have hcs : ∀ k ∈ P.cs, k < w.heap.size := fun k hk => hlt k (PR.cs_bs hk)
  have hbw : Below w.heap.size w W0 := hO0.below (by simp) (Nat.le_refl _)
  have HV0 := Lib.hid (HV.out.belowP hbw)
  have HSQ := Lib.hid (HSQ0.out W0 _ hb4 hP0)
  have HVO : Hid (∀ W, Only ((w.heap.size + 1 + 1) :: (w.heap.size + 1 + 1 + 1) :: P.cs) W0 W → IntsC W (.slice sa L.length sc) L) := Lib.hid (fun W hO => HV0.out.apart (S := (w.heap.size + 1 + 1) :: (w.heap.size + 1 + 1 + 1) :: P.cs) hO (fun h0 ad n c e hm => by
    rcases List.mem_cons.1 hm with e2 | hm
    · exact OffB.of_old (b := w.heap.size + 1 + 1) HV.out (by omega) h0 ad n c e (by simpa using e2)
    rcases List.mem_cons.1 hm with e2 | hm
    · exact OffB.of_old (b := w.heap.size + 1 + 1 + 1) HV.out (by omega) h0 ad n c e (by simpa using e2)
    · exact int_ne_chan HV0.out hP0 h0 e hm))
  have HT : Hid (∀ k ∈ [w.heap.size + 1 + 1, w.heap.size + 1 + 1 + 1], k < W0.heap.size ∧ k ∉ P.bs) := Lib.hid (fun k hk => by
    have hk2 : k = w.heap.size + 1 + 1 ∨ k = w.heap.size + 1 + 1 + 1 := by simpa using hk
    exact ⟨by omega, fun h => by have := hlt _ h; omega⟩)
  have HC : Hid (∀ k ∈ P.cs, k < W0.heap.size) := Lib.hid (fun k hk => by have := hcs k hk; omega)
  have HN : Hid (∀ i, w.heap.size ≤ i → i ∉ P.cs) := Lib.hid (fun i hi h => by have := hcs i h; omega)
  have HNB : Hid (∀ i, w.heap.size ≤ i → i ∉ P.bs) := Lib.hid (fun i hi h => by have := hlt i h; omega)
  have HCM : Hid (∀ k ∈ P.cs, k ∈ (w.heap.size + 1 + 1) :: (w.heap.size + 1 + 1 + 1) :: P.cs) := Lib.hid (fun k hk => by simp [hk])
  have HI0 : Hid (W0.heap[w.heap.size + 1 + 1]? = some (.cells #[.int .i64 (([] : List (Nat × Int)).length : Nat)] 3 (0, 0)) ∧ W0.heap[w.heap.size + 1 + 1 + 1]? = some (.cells #[.int .i64 (lastD [] : Nat)] 3 (0, 0)) ∧ PoolIs W0 P L ∧ Only ((w.heap.size + 1 + 1) :: (w.heap.size + 1 + 1 + 1) :: P.cs) W0 W0) := Lib.hid ⟨hb2, hb3, hP0, Only.refl _ _⟩
  have HAI : Hid (AbT W0.heap.size P.cs (fun (pre : List (Nat × Int)) W => W.heap[w.heap.size + 1 + 1]? = some (.cells #[.int .i64 (pre.length : Nat)] 3 (0, 0)) ∧ W.heap[w.heap.size + 1 + 1 + 1]? = some (.cells #[.int .i64 (lastD pre : Nat)] 3 (0, 0)) ∧ PoolIs W P L ∧ Only ((w.heap.size + 1 + 1) :: (w.heap.size + 1 + 1 + 1) :: P.cs) W0 W)) := Lib.hid
    ((AbT.row (b := w.heap.size + 1 + 1) (fun (pre : List (Nat × Int)) => #[.int .i64 (pre.length : Nat)]) (HN.out _ (by omega))).and ((AbT.row (b := w.heap.size + 1 + 1 + 1) (fun (pre : List (Nat × Int)) => #[.int .i64 (lastD pre : Nat)]) (HN.out _ (by omega))).and ((AbT.pool HC.out).and (AbT.only (Nat.le_refl _) HCM.out))))
  have HB0 := Lib.hid hb0
  have HB1 := Lib.hid hb1
  have HO0 := Lib.hid hO0
  have HXM : Hid (∀ (pre : List (Nat × Int)) (x : Nat × Int), pre ++ [x] <+: allTo z L D → lastD pre ≤ x.1 ∧ x.2 ∈ L ∧ x.2 / z = x.1 ∧ 0 ≤ x.2 ∧ x.1 < D) := Lib.hid (fun pre x hsp => by
    have hm : x ∈ allTo z L D := hsp.subset (by simp)
    obtain ⟨m1, m2, m3⟩ := PoolM.allTo_mem.1 hm
    exact ⟨PoolM.lastD_le hsp, m2, m3, (HRK.out.ok.rng _ m2).1, m1⟩)
  have HLN : Hid ((allTo z L D).length = L.length) := Lib.hid HRK.out.ok.all_len
  have HCR : Hid (∀ k : Nat, k < D → countOf D z L (k : Nat) = cntR z L (k : Nat)) := Lib.hid (fun k hk => by
    unfold countOf
    rw [if_pos (by omega), PoolM.cntR_nat]
    simp)
  have HC1 : Hid (countOf D z L (-1) = 0) := Lib.hid (by unfold countOf; rw [if_neg (by omega)])
  have HC2 : Hid (countOf D z L (D : Nat) = 0) := Lib.hid (by unfold countOf; rw [if_neg (by omega)])
  clear hb0 hb1 hb2 hb3 hb4 hP0 hlt hO0 hbw
  go_wp2
  refine (wpIn_wide (n := 8)).1 (wpIn_rangeT1 rfl (by omega) (gf := 50) (lb := #[.pointer (some ⟨w.heap.size + 1 + 1 + 1 + 1, 0, none⟩)]) rfl trivial (enters_of Try.func50 (by kernel_rfl) rfl)
    HSQ.out (Below.refl _ _) (fun _ => rfl) [w.heap.size + 1 + 1, w.heap.size + 1 + 1 + 1] HT.out HC.out
    (fun pre W => W.heap[w.heap.size + 1 + 1]? = some (.cells #[.int .i64 (pre.length : Nat)] 3 (0, 0)) ∧ W.heap[w.heap.size + 1 + 1 + 1]? = some (.cells #[.int .i64 (lastD pre : Nat)] 3 (0, 0)) ∧ PoolIs W P L ∧ Only ((w.heap.size + 1 + 1) :: (w.heap.size + 1 + 1 + 1) :: P.cs) W0 W)
    (fun _ _ _ => False)
    HAI.out (fun _ => AbT.pure _ _ _) HI0.out ?fr ?assign ?body ?done ?stop)
  case assign =>
    intro rr pre x W2 K2 _ hI hK2
    have HK2 := Lib.hid hK2
    clear hK2
    unfold pzV
    gi_wp2
    exact HK2.out W2 (Only.refl _ _)
  case body =>
    rintro rr pre x W2 _ hr ⟨hn2, hl2, hP2, hO2⟩ hlen hsp
    have cn := cell_of_one hn2
    have cl := cell_of_one hl2
    have fn := free_of_one hn2
    have fl := free_of_one hl2
    have hrow := hO2.get HB0.out (by intro h; rcases List.mem_cons.1 h with e | h; omega; rcases List.mem_cons.1 h with e | h; omega; exact HN.out _ (by omega) h)
    have cz : W2.cell? ⟨w.heap.size, 1, none⟩ = some (.int .i64 z) := (cell_of_row _ _ _ _ _ _ hrow).trans rfl
    obtain ⟨x1, x2, x3, x4, x5⟩ := HXM.out pre x hsp
    have t1 : decide ((x.1 : Int) < (lastD pre : Int)) = false := decide_eq_false (by omega)
    have t1' : decide (x.1 < lastD pre) = false := decide_eq_false (by omega)
    have t2 : (z == 0) = false := by simp; omega
    have t3 : (wrap64 (Int.tdiv x.2 z) != (x.1 : Int)) = false := by
      rw [Int.tdiv_eq_ediv_of_nonneg x4, x3, show wrap64 (x.1 : Int) = (x.1 : Int) by unfold wrap64; omega]
      simp
    have HRT : Hid (∀ W, IntsC W (.slice sa L.length sc) L → Calls Try.prog 58 #[.agg (RP D z (.slice sa L.length sc)), .int .i64 x.2] W fun e w' => e = .returned (.bool true) ∧ Below W.heap.size W w') := Lib.hid (fun W hW => by have := HRH.out x.2 W hW; rwa [decide_eq_true x2] at this)
    have HN2 := Lib.hid hn2
    have HL2 := Lib.hid hl2
    have HP2 := Lib.hid hP2
    have HO2 := Lib.hid hO2
    have HV2 := Lib.hid (HVO.out W2 hO2)
    have hz2 := hO2.size
    have HPLN : Hid (pre.length < L.length + 1) := Lib.hid (by
      have := hsp.length_le
      rw [HLN.out] at this
      simp at this
      omega)
    clear hn2 hl2 hP2 hO2 hlen hsp x1 x2 x3 x4 x5
    gi_wp2_with (refine wpListIn_row_on (by rfl) 61 _ rfl w.heap.size rfl 61 _ _ _ hrow Try.underlying61 rfl (HIX.out _) ?_)
    refine ⟨trivial, ?_⟩
    refine (calls_round (rr := rr) (n := 6 - 1) (HRT.out _ HV2.out)).mono ?_
    rintro e W3 ⟨rfl, hB3⟩
    have HN3 := Lib.hid ((hB3.block (w.heap.size + 1 + 1) (by omega)).trans HN2.out)
    have HL3 := Lib.hid ((hB3.block (w.heap.size + 1 + 1 + 1) (by omega)).trans HL2.out)
    have cn3 := cell_of_one HN3.out
    have cl3 := cell_of_one HL3.out
    have fn3 := free_of_one HN3.out
    have fl3 := free_of_one HL3.out
    have HP3 := Lib.hid (HP2.out.below hB3)
    have HO3 : Hid (Only ((w.heap.size + 1 + 1) :: (w.heap.size + 1 + 1 + 1) :: P.cs) W0 W3) := Lib.hid (HO2.out.trans (Only.of_below hB3))
    have HF3 : Hid (Only [w.heap.size + 1 + 1, w.heap.size + 1 + 1 + 1] W2 W3) := Lib.hid (Only.of_below hB3)
    obtain ⟨W4, hW4⟩ : ∃ W4, W3.setCell ⟨w.heap.size + 1 + 1 + 1, 0, none⟩ (.int .i64 (x.1 : Nat)) = W4 := ⟨_, rfl⟩
    have hO34 : Only [w.heap.size + 1 + 1 + 1] W3 W4 := by rw [← hW4]; exact (Only.refl _ _).setCell (.inl (by simp)) _
    have HN4 := Lib.hid (hO34.get HN3.out (by simp))
    have HL4 : Hid (W4.heap[w.heap.size + 1 + 1 + 1]? = some (.cells #[.int .i64 (x.1 : Nat)] 3 (0, 0))) := Lib.hid (by rw [← hW4]; exact one_setCell HL3.out)
    have HP4 := Lib.hid (HP3.out.only hO34 (by simpa using HNB.out _ (by omega)))
    have HO4 : Hid (Only ((w.heap.size + 1 + 1) :: (w.heap.size + 1 + 1 + 1) :: P.cs) W0 W4) := Lib.hid (HO3.out.trans (hO34.mono (by simp)))
    have HF4 : Hid (Only [w.heap.size + 1 + 1, w.heap.size + 1 + 1 + 1] W2 W4) := Lib.hid (HF3.out.trans (hO34.mono (by simp)))
    have cn4 := cell_of_one HN4.out
    have fn4 := free_of_one HN4.out
    have HW4 := Lib.hid hW4
    have hpl : pre.length < L.length + 1 := HPLN.out
    clear hB3 hO34 hW4 cn cl fn fl hrow cz
    gi_wp2_with (rw [HW4.out])
    exact ⟨HF4.out.setCell (.inl (by simp)) _, by rw [List.length_append, List.length_singleton]; exact one_setCell HN4.out, by rw [PoolM.lastD_app]; exact ((Only.refl [w.heap.size + 1 + 1] W4).setCell (.inl (by simp)) _).get HL4.out (by simp), HP4.out.only ((Only.refl [w.heap.size + 1 + 1] W4).setCell (.inl (by simp)) _) (by simpa using HNB.out _ (by omega)), HO4.out.setCell (.inl (by simp)) _⟩
  case done =>
    rintro Dm ys W2 hDm rfl ⟨hn2, hl2, hP2, hO2⟩ hKD
    rw [HLN.out] at hn2
    have HN2 := Lib.hid hn2
    have hnr : ∀ i, w.heap.size ≤ i → i ≠ w.heap.size + 1 + 1 → i ≠ w.heap.size + 1 + 1 + 1 → i ∉ (w.heap.size + 1 + 1) :: (w.heap.size + 1 + 1 + 1) :: P.cs := fun i h1 h2 h3 h => by
      rcases List.mem_cons.1 h with e | h
      · exact h2 e
      rcases List.mem_cons.1 h with e | h
      · exact h3 e
      · exact HN.out _ h1 h
    have HR2 := Lib.hid (hO2.get HB0.out (hnr _ (by omega) (by omega) (by omega)))
    have HB2 := Lib.hid (hO2.get HB1.out (hnr _ (by omega) (by omega) (by omega)))
    have HV2 := Lib.hid (HVO.out W2 hO2)
    have HP2 := Lib.hid hP2
    have HO2 : Hid (Only P.cs w W2) := Lib.hid ((HO0.out.mono (by simp)).trans' hO2 (by
      intro k hk
      rcases List.mem_cons.1 hk with e | hk
      · exact .inr (by omega)
      rcases List.mem_cons.1 hk with e | hk
      · exact .inr (by omega)
      · exact .inl hk))
    have zW := hO2.size
    have HKD := Lib.hid hKD
    have hDw : w.heap.size + 1 + 1 + 1 + 1 < Dm := by omega
    have hDz : Dm < W2.heap.size := (Array.getElem?_eq_some_iff.1 hKD).1
    have cD : W2.cell? ⟨w.heap.size, 0, none⟩ = some (.int .i64 (D : Nat)) := (cell_of_row _ _ _ _ _ _ HR2.out).trans rfl
    clear hn2 hl2 hP2 hO2 hKD hnr
    go_wp2
    go_loopw [38] (fun i wr => ∃ k : Nat, k ≤ D ∧ i = .int .i64 k ∧ Below W2.heap.size W2 wr) (fun i _ => D - (intOf i).toNat)
    case atStart => exact ⟨0, Nat.zero_le _, rfl, Below.refl _ _⟩
    case round =>
      obtain ⟨k, hk, rfl, hBr⟩ := hrel
      have zr := hBr.size
      have HRr := Lib.hid ((hBr.block w.heap.size (by omega)).trans HR2.out)
      have HPr := Lib.hid (HP2.out.below hBr)
      have HVr := Lib.hid (HV2.out.belowP hBr)
      have HBR := Lib.hid hBr
      clear hBr
      by_cases hlt : k < D
      · have HC0 : Hid (∀ W, PoolIs W P L → Calls Try.prog 33 #[.pointer (some ⟨P.p, 0, none⟩), .int .i64 (k : Nat)] W fun e w' => e = .returned (.int .i64 (cntR z L (k : Nat) : Nat)) ∧ Below W.heap.size W w') := Lib.hid (fun W hW => by have := HCNT.out (k : Nat) W hW; rwa [HCR.out k hlt] at this)
        have HCC := Lib.hid (fun W hW => HRC.out (k : Nat) W hW)
        obtain ⟨cc, hcc⟩ : ∃ cc, cntR z L (k : Nat) = cc := ⟨_, rfl⟩
        rw [hcc] at HC0
        simp only [hcc] at HCC
        clear hcc
        go_upto_region 13 with (fail)
        refine wp_region_conf2 6 [Fact.eq (.pointer (some ⟨P.p, 0, none⟩)), Fact.eq (.int .i64 ((k : Nat))), Fact.eq (.int .i64 ((cc : Nat))), Fact.eq (.agg (RP D z (.slice sa L.length sc))), Fact.eq (.int .i64 ((k : Nat))), Fact.eq (.int .i64 ((cc : Nat)))] ?raA (by kernel_rfl) (by kernel_rfl) ?rahA ?raho ?rahend
        case rahA =>
          intro vv
          simp only [putRules, Nat.reduceAdd]
          rfl
        case raho =>
          refine ⟨?_, ?_, ?_, ?_, ?_, ?_, trivial⟩
          · intro vv W K hB hd HK
            simp only [confRules] at HK
            clear hd
            go_wp2
            refine HK.out _ _ (Below.refl _ _) ?_
            rfl
          · intro vv W K hB hd HK
            simp only [confRules] at HK
            clear hd
            go_wp2
            refine HK.out _ _ (Below.refl _ _) ?_
            rfl
          · intro vv W K hB hd HK
            simp only [confRules] at hd HK
            obtain ⟨h0, h1⟩ := hd
            simp only [h0, h1] at HK ⊢
            clear h0 h1
            go_wp2_with (refine (HC0.out _ (HPr.out.below hB)).mono ?_; rintro e w9 ⟨rfl, hB9⟩)
            refine HK.out _ _ hB9 ?_
            rfl
          · intro vv W K hB hd HK
            simp only [confRules] at HK
            clear hd
            have hT := (hB.block w.heap.size (by omega)).trans HRr.out
            go_wp2_with (refine wpList_row_on (by rfl) 61 _ rfl w.heap.size rfl 61 _ _ _ hT Try.underlying61 rfl (HIX.out _) ?_)
            refine HK.out _ _ (Below.refl _ _) ?_
            rfl
          · intro vv W K hB hd HK
            simp only [confRules] at HK
            clear hd
            go_wp2
            refine HK.out _ _ (Below.refl _ _) ?_
            rfl
          · intro vv W K hB hd HK
            simp only [confRules] at hd HK
            obtain ⟨h3, h4, h2⟩ := hd
            simp only [h3, h4, h2] at HK ⊢
            clear h3 h4 h2
            go_wp2_with (refine (HCC.out _ (HVr.out.belowP hB)).mono ?_; rintro e w9 ⟨rfl, hB9⟩)
            refine HK.out _ _ hB9 ?_
            rfl
        case rahend =>
          intro vv W hB hf
          have e2 := hf 2 (by decide)
          have e5 := hf 5 (by decide)
          simp only [endRules] at e2 e5
          simp only [e2, e5, dropRules]
          clear hf e2 e5
          have HBE := Lib.hid (HBR.out.trans (hB.mono HBR.out.size))
          clear hB
          go_wp2
          go_roundw
          case rel => exact ⟨k + 1, by omega, by go_num, HBE.out⟩
          case measure => simp [intOf]; omega
      · obtain rfl : k = D := by omega
        obtain ⟨bz, hbz⟩ : ∃ bz, decide (zn ∈ L) = bz := ⟨_, rfl⟩
        have HRZ := Lib.hid (fun W hW => HRH.out zn W hW)
        have HCA := Lib.hid (fun W hW => HCNT.out (-1) W hW)
        have HCB := Lib.hid (fun W hW => HCNT.out (k : Nat) W hW)
        simp only [hbz] at HRZ HHAS
        simp only [HC1.out] at HCA
        simp only [HC2.out] at HCB
        obtain ⟨np, hnp⟩ : ∃ np, npairs k z L = np := ⟨_, rfl⟩
        simp only [hnp] at HPRS HRP
        have HN3 := Lib.hid ((HBR.out.block (w.heap.size + 1 + 1) (by omega)).trans HN2.out)
        have HB3 := Lib.hid ((HBR.out.block (w.heap.size + 1) (by omega)).trans HB2.out)
        have HK3 := Lib.hid ((HBR.out.block Dm hDz).trans HKD.out)
        have HOr : Hid (Only P.cs w wr) := Lib.hid (HO2.out.trans (Only.of_below HBR.out))
        clear hbz hnp hlt
        go_upto_region 16 with (fail)
        refine wp_region_stage 33 [.int .i64 ((L.length : Nat)), .pointer (some ⟨w.heap.size, 2, none⟩), .slice sa L.length sc, .int .i64 ((L.length : Nat)), .bool true, .bool true, .pointer (some ⟨P.p, 0, none⟩), .int .i64 ((np : Nat)), .agg (RP k z (.slice sa L.length sc)), .int .i64 ((np : Nat)), .bool true, .bool true, .bool true, .pointer (some ⟨P.p, 0, none⟩), .int .i64 (zn), .bool bz, .agg (RP k z (.slice sa L.length sc)), .int .i64 (zn), .bool bz, .bool true, .bool true, .bool true, .pointer (some ⟨P.p, 0, none⟩), .int .i64 (0), .bool true, .bool true, .bool true, .pointer (some ⟨P.p, 0, none⟩), .pointer (some ⟨w.heap.size, 0, none⟩), .int .i64 ((k : Nat)), .int .i64 (0), .bool true, .bool true] [15] [0, 0, 0, 0, 0, 0, 0, 0, 0, 0, 0, 0, 0, 0, 0, 1, 0, 0, 1, 1, 1, 1, 1, 1, 1, 1, 1, 1, 1, 1, 1, 1, 1] (fun _ W => PoolIs W P L ∧ Only P.cs wr W) ?rbA (by kernel_rfl) (by kernel_rfl) (by kernel_rfl) ?rbhA ?rbh0 ?rbhb ?rbho ?rbhend
        case rbhA =>
          intro vv
          simp only [putRules, Nat.reduceAdd]
          rfl
        case rbh0 =>
          exact ⟨HPr.out.only (Only.refl [] _).drew (by simp), (Only.refl _ _).drew⟩
        case rbhb =>
          intro s W W' ⟨h1, h2⟩ hB
          exact ⟨h1.below hB, h2.trans (Only.of_below hB)⟩
        case rbho =>
          refine ⟨?_, ?_, ?_, ?_, ?_, ?_, ?_, ?_, ?_, ?_, ?_, ?_, ?_, ?_, ?_, ?_, ?_, ?_, ?_, ?_, ?_, ?_, ?_, ?_, ?_, ?_, ?_, ?_, ?_, ?_, ?_, ?_, ?_, trivial⟩
          · intro vv W K s hlo hI hd HK
            simp only [confRules, conf5Rules] at HK
            clear hd
            have hc := cell_of_one (hI.2.get HN3.out (HN.out _ (by omega)))
            go_wp2
            refine HK.out _ _ (Below.refl _ _) ?_
            rfl
          · intro vv W K s hlo hI hd HK
            simp only [confRules, conf5Rules] at HK
            clear hd
            go_wp2
            refine HK.out _ _ (Below.refl _ _) ?_
            rfl
          · intro vv W K s hlo hI hd HK
            simp only [confRules, conf5Rules] at hd HK
            have h1 := hd
            clear hd
            simp only [h1] at HK ⊢
            clear h1
            have hT := hI.2.get HRr.out (HN.out _ (by omega))
            have hc : W.cell? ⟨w.heap.size, 2, none⟩ = some (.slice sa L.length sc) := (cell_of_row _ _ _ _ _ _ hT).trans rfl
            go_wp2
            refine HK.out _ _ (Below.refl _ _) ?_
            rfl
          · intro vv W K s hlo hI hd HK
            simp only [confRules, conf5Rules] at hd HK
            have h2 := hd
            clear hd
            simp only [h2] at HK ⊢
            clear h2
            go_wp2
            refine HK.out _ _ (Below.refl _ _) ?_
            rfl
          · intro vv W K s hlo hI hd HK
            simp only [confRules, conf5Rules] at hd HK
            obtain ⟨h0, h3⟩ := hd
            simp only [h0, h3] at HK ⊢
            clear h0 h3
            go_wp2
            refine HK.out _ _ (Below.refl _ _) ?_
            first | rfl | exact congrArg Value.bool (by simp)
          · intro vv W K s hlo hI hd HK
            simp only [confRules, conf5Rules] at hd HK
            have h4 := hd
            clear hd
            simp only [h4] at HK ⊢
            clear h4
            go_wp2
            refine HK.out _ _ (Below.refl _ _) ?_
            rfl
          · intro vv W K s hlo hI hd HK
            simp only [confRules, conf5Rules] at hd HK
            have h5 := hd
            clear hd
            simp only [h5] at HK ⊢
            clear h5
            refine wpList_guard_yes (by rfl) ?_
            go_wp2
            refine HK.out _ _ (Below.refl _ _) ?_
            rfl
          · intro vv W K s hlo hI hd HK
            simp only [confRules, conf5Rules] at hd HK
            obtain ⟨h6, h5, _⟩ := hd
            simp only [h6, h5] at HK ⊢
            clear h6 h5
            refine wpList_guard_yes (by rfl) ?_
            go_wp2_with (refine (HPRS.out _ hI.1).mono ?_; rintro e w9 ⟨rfl, hB9⟩)
            refine HK.out _ _ hB9 ?_
            rfl
          · intro vv W K s hlo hI hd HK
            simp only [confRules, conf5Rules] at hd HK
            have h5 := hd
            clear hd
            simp only [h5] at HK ⊢
            clear h5
            refine wpList_guard_yes (by rfl) ?_
            have hT := hI.2.get HRr.out (HN.out _ (by omega))
            go_wp2_with (refine wpList_row_on (by rfl) 61 _ rfl w.heap.size rfl 61 _ _ _ hT Try.underlying61 rfl (HIX.out _) ?_)
            refine HK.out _ _ (Below.refl _ _) ?_
            rfl
          · intro vv W K s hlo hI hd HK
            simp only [confRules, conf5Rules] at hd HK
            obtain ⟨h8, h7, h5⟩ := hd
            simp only [h8, h7, h5] at HK ⊢
            clear h8 h7 h5
            refine wpList_guard_yes (by rfl) ?_
            go_wp2_with (refine (HRP.out _ (HVr.out.apart hI.2 (fun h0 ad n c e hm => int_ne_chan HVr.out HPr.out h0 e hm))).mono ?_; rintro e w9 ⟨rfl, hB9⟩)
            refine HK.out _ _ hB9 ?_
            rfl
          · intro vv W K s hlo hI hd HK
            simp only [confRules, conf5Rules] at hd HK
            obtain ⟨h7, h9, h5⟩ := hd
            simp only [h7, h9, h5] at HK ⊢
            clear h7 h9 h5
            refine wpList_guard_yes (by rfl) ?_
            go_wp2
            refine HK.out _ _ (Below.refl _ _) ?_
            first | rfl | exact congrArg Value.bool (by simp)
          · intro vv W K s hlo hI hd HK
            simp only [confRules, conf5Rules] at hd HK
            obtain ⟨h5, h10⟩ := hd
            simp only [h5, h10] at HK ⊢
            clear h5 h10
            go_wp2
            refine HK.out _ _ (Below.refl _ _) ?_
            rfl
          · intro vv W K s hlo hI hd HK
            simp only [confRules, conf5Rules] at hd HK
            obtain ⟨h11, h9⟩ := hd
            simp only [h11, h9] at HK ⊢
            clear h11 h9
            go_wp2
            refine HK.out _ _ (Below.refl _ _) ?_
            rfl
          · intro vv W K s hlo hI hd HK
            simp only [confRules, conf5Rules] at hd HK
            have h12 := hd
            clear hd
            simp only [h12] at HK ⊢
            clear h12
            refine wpList_guard_yes (by rfl) ?_
            go_wp2
            refine HK.out _ _ (Below.refl _ _) ?_
            rfl
          · intro vv W K s hlo hI hd HK
            simp only [confRules, conf5Rules] at hd HK
            have h12 := hd
            clear hd
            simp only [h12] at HK ⊢
            clear h12
            refine wpList_guard_yes (by rfl) ?_
            go_wp2
            refine HK.out _ _ (Below.refl _ _) ?_
            rfl
          · intro vv W K hI hd HK
            simp only [confRules, conf5Rules] at hd HK
            obtain ⟨h13, h14, h12, _⟩ := hd
            simp only [h13, h14, h12] at HK ⊢
            clear h13 h14 h12
            refine wpList_guard_yes (by rfl) ?_
            obtain ⟨h1, h2⟩ := hI
            go_wp2_with (refine (HHAS.out _ h1).mono ?_; rintro e w9 ⟨rfl, h9, hO9⟩)
            refine HK.out _ _ ⟨h9, h2.trans hO9⟩ ?_
            rfl
          · intro vv W K s hlo hI hd HK
            simp only [confRules, conf5Rules] at hd HK
            have h12 := hd
            clear hd
            simp only [h12] at HK ⊢
            clear h12
            refine wpList_guard_yes (by rfl) ?_
            have hT := hI.2.get HRr.out (HN.out _ (by omega))
            go_wp2_with (refine wpList_row_on (by rfl) 61 _ rfl w.heap.size rfl 61 _ _ _ hT Try.underlying61 rfl (HIX.out _) ?_)
            refine HK.out _ _ (Below.refl _ _) ?_
            rfl
          · intro vv W K s hlo hI hd HK
            simp only [confRules, conf5Rules] at hd HK
            have h12 := hd
            clear hd
            simp only [h12] at HK ⊢
            clear h12
            refine wpList_guard_yes (by rfl) ?_
            go_wp2
            refine HK.out _ _ (Below.refl _ _) ?_
            rfl
          · intro vv W K s hlo hI hd HK
            simp only [confRules, conf5Rules] at hd HK
            obtain ⟨h16, h17, h15, h12⟩ := hd
            simp only [h16, h17, h15, h12] at HK ⊢
            clear h16 h17 h15 h12
            refine wpList_guard_yes (by rfl) ?_
            go_wp2_with (refine (HRZ.out _ (HVr.out.apart hI.2 (fun h0 ad n c e hm => int_ne_chan HVr.out HPr.out h0 e hm))).mono ?_; rintro e w9 ⟨rfl, hB9⟩)
            refine HK.out _ _ hB9 ?_
            rfl
          · intro vv W K s hlo hI hd HK
            simp only [confRules, conf5Rules] at hd HK
            obtain ⟨h15, h18, h12⟩ := hd
            simp only [h15, h18, h12] at HK ⊢
            clear h15 h18 h12
            refine wpList_guard_yes (by rfl) ?_
            go_wp2
            refine HK.out _ _ (Below.refl _ _) ?_
            first | rfl | exact congrArg Value.bool (by simp)
          · intro vv W K s hlo hI hd HK
            simp only [confRules, conf5Rules] at hd HK
            obtain ⟨h12, h19⟩ := hd
            simp only [h12, h19] at HK ⊢
            clear h12 h19
            go_wp2
            refine HK.out _ _ (Below.refl _ _) ?_
            rfl
          · intro vv W K s hlo hI hd HK
            simp only [confRules, conf5Rules] at hd HK
            obtain ⟨h20, h18⟩ := hd
            simp only [h20, h18] at HK ⊢
            clear h20 h18
            go_wp2
            refine HK.out _ _ (Below.refl _ _) ?_
            rfl
          · intro vv W K s hlo hI hd HK
            simp only [confRules, conf5Rules] at hd HK
            have h21 := hd
            clear hd
            simp only [h21] at HK ⊢
            clear h21
            refine wpList_guard_yes (by rfl) ?_
            go_wp2
            refine HK.out _ _ (Below.refl _ _) ?_
            rfl
          · intro vv W K s hlo hI hd HK
            simp only [confRules, conf5Rules] at hd HK
            obtain ⟨h22, h21, _⟩ := hd
            simp only [h22, h21] at HK ⊢
            clear h22 h21
            refine wpList_guard_yes (by rfl) ?_
            go_wp2_with (refine (HCA.out _ hI.1).mono ?_; rintro e w9 ⟨rfl, hB9⟩)
            refine HK.out _ _ hB9 ?_
            rfl
          · intro vv W K s hlo hI hd HK
            simp only [confRules, conf5Rules] at hd HK
            obtain ⟨h23, h21⟩ := hd
            simp only [h23, h21] at HK ⊢
            clear h23 h21
            refine wpList_guard_yes (by rfl) ?_
            go_wp2
            refine HK.out _ _ (Below.refl _ _) ?_
            first | rfl | exact congrArg Value.bool (by simp)
          · intro vv W K s hlo hI hd HK
            simp only [confRules, conf5Rules] at hd HK
            obtain ⟨h21, h24⟩ := hd
            simp only [h21, h24] at HK ⊢
            clear h21 h24
            go_wp2
            refine HK.out _ _ (Below.refl _ _) ?_
            rfl
          · intro vv W K s hlo hI hd HK
            simp only [confRules, conf5Rules] at hd HK
            obtain ⟨h25, h23⟩ := hd
            simp only [h25, h23] at HK ⊢
            clear h25 h23
            go_wp2
            refine HK.out _ _ (Below.refl _ _) ?_
            rfl
          · intro vv W K s hlo hI hd HK
            simp only [confRules, conf5Rules] at hd HK
            have h26 := hd
            clear hd
            simp only [h26] at HK ⊢
            clear h26
            refine wpList_guard_yes (by rfl) ?_
            go_wp2
            refine HK.out _ _ (Below.refl _ _) ?_
            rfl
          · intro vv W K s hlo hI hd HK
            simp only [confRules, conf5Rules] at hd HK
            have h26 := hd
            clear hd
            simp only [h26] at HK ⊢
            clear h26
            refine wpList_guard_yes (by rfl) ?_
            go_wp2
            refine HK.out _ _ (Below.refl _ _) ?_
            rfl
          · intro vv W K s hlo hI hd HK
            simp only [confRules, conf5Rules] at hd HK
            obtain ⟨h28, h26⟩ := hd
            simp only [h28, h26] at HK ⊢
            clear h28 h26
            refine wpList_guard_yes (by rfl) ?_
            have hT := hI.2.get HRr.out (HN.out _ (by omega))
            have hc : W.cell? ⟨w.heap.size, 0, none⟩ = some (.int .i64 ((k : Nat))) := (cell_of_row _ _ _ _ _ _ hT).trans rfl
            go_wp2
            refine HK.out _ _ (Below.refl _ _) ?_
            rfl
          · intro vv W K s hlo hI hd HK
            simp only [confRules, conf5Rules] at hd HK
            obtain ⟨h27, h29, h26, _⟩ := hd
            simp only [h27, h29, h26] at HK ⊢
            clear h27 h29 h26
            refine wpList_guard_yes (by rfl) ?_
            go_wp2_with (refine (HCB.out _ hI.1).mono ?_; rintro e w9 ⟨rfl, hB9⟩)
            refine HK.out _ _ hB9 ?_
            rfl
          · intro vv W K s hlo hI hd HK
            simp only [confRules, conf5Rules] at hd HK
            obtain ⟨h30, h26⟩ := hd
            simp only [h30, h26] at HK ⊢
            clear h30 h26
            refine wpList_guard_yes (by rfl) ?_
            go_wp2
            refine HK.out _ _ (Below.refl _ _) ?_
            first | rfl | exact congrArg Value.bool (by simp)
          · intro vv W K s hlo hI hd HK
            simp only [confRules, conf5Rules] at hd HK
            obtain ⟨h26, h31⟩ := hd
            simp only [h26, h31] at HK ⊢
            clear h26 h31
            go_wp2
            refine HK.out _ _ (Below.refl _ _) ?_
            rfl
        case rbhend =>
          intro vv W hI hf
          have e32 := hf 32 (by decide)
          simp only [conf5Rules] at e32
          simp only [e32, dropRules]
          clear hf e32
          obtain ⟨h1, h2⟩ := hI
          have HP5 := Lib.hid h1
          have HB5 := Lib.hid (h2.get HB3.out (HN.out _ (by omega)))
          have HK5 := Lib.hid (h2.get HK3.out (HN.out _ (by omega)))
          have HO5 := Lib.hid (HOr.out.trans h2)
          have hc5 := cell_of_one HB5.out
          have hf5 := free_of_one HB5.out
          clear h1 h2
          go_wp2
          refine leave_marks (v := .bool true) [Dm] _ (by simp) ?_ ?_
          · intro E hE
            obtain rfl : E = Dm := by simpa using hE
            exact ((Only.refl [w.heap.size + 1] _).setCell (.inl (by simp)) _).get HK5.out (by simp; omega)
          · intro W' hO'
            have hr' := hO'.get (one_setCell HB5.out) (by simp; omega)
            have hc' := cell_of_one hr'
            refine ⟨by simp [results, Try.results41, go_sem, hc'], rfl, ?_, ?_⟩
            · exact (HP5.out.only ((Only.refl [w.heap.size + 1] _).setCell (.inl (by simp)) _) (by simpa using HNB.out _ (by omega))).only hO' (by simpa using HNB.out _ (by omega))
            · exact (HO5.out.setCell (.inr (by simp)) _).trans' hO' (fun k hk => .inr (by
                obtain rfl : k = Dm := by simpa using hk
                omega))
  case stop =>
    rintro D' cx pre W2 hD hsp h
    exact h.elim
end Go.Proofs.Ytogijlpclceanaa
