/- Under way: the contract of the reference's Read of a sector. -/
import Derived.Test.YtfcadbeamojdpaaDecode
import Derived.Test.YtfcadbeamojdpaaRRead
import Derived.Test.YtfcadbeamojdpaaRSum
import Derived.Test.YtfcadbeamojdpaaRfRight
import Derived.Test.YtfcadbeamojdpaaEnFrame
import Derived.Test.YtfcadbeamojdpaaConf2
import Derived.LoopTactic
import Derived.Deep.QuietTactic
import Derived.BigQuiet
namespace Go.Proofs.Ytfcadbeamojdpaa
open Go.RowKit Go.Rv Frm
set_option linter.unusedVariables false
theorem Try.infoRf : (Try.prog.info? 40).map (fun i => (i.zero, i.size)) = some (some (.agg (FC Fr.zero)), 49) := by kernel_rfl
theorem size_rf {f : Fr} (h : f.body.length = 44) : (Try.prog.info? 40).map (·.size) = some (FC f).size := by rw [FC_size, h]; exact (zero_of_info Try.infoRf).2
theorem le4_leN (y : Nat) : Crc.le4 y = Cod.leN 4 y := by
  simp [Crc.le4, Cod.leN, Nat.div_div_eq_div_mul]
theorem sum_same (s : List Nat) (hl : s.length = 64) (hs : ∀ c ∈ s, c < 256) (y : Nat) (hy : y < 2 ^ 32) : Cod.rd (s.drop 60) = y ↔ s.drop 60 = Crc.le4 y := by
  have hd : (s.drop 60).length = 4 := by rw [List.length_drop, hl]
  have h1 := Cod.leN_rd (s.drop 60) (fun c hc => hs c (List.mem_of_mem_drop hc))
  rw [hd] at h1
  constructor
  · intro h
    rw [h] at h1
    rw [le4_leN]
    exact h1.symm
  · intro h
    rw [h, le4_leN]
    exact Cod.rd_leN 4 y (by omega)
def Fact.rowOf (B : Nat) (C : Array Value) (t : TypeId) : Fact := ⟨fun u w => ∃ g, u = .pointer (some ⟨g, 0, none⟩) ∧ B ≤ g ∧ w.heap[g]? = some (.cells C t (0, 0)), fun u w w' ⟨g, e, hb, h⟩ hB => ⟨g, e, hb, (hB.block g (Array.getElem?_eq_some_iff.1 h).1).trans h⟩⟩
theorem built_rf (k z o e s : Int) : Try.prog.built 40 [(0, .int .i64 k), (1, .int .i64 z), (2, .int .i64 o), (3, .int .i64 e), (4, .int .i64 s)] = some (FC ⟨k, z, o, e, s, List.replicate 44 0⟩) := by kernel_rfl
/-- the body, k bytes of it filled -/
def partB (l : List Nat) (k : Nat) : List Nat := l.take k ++ List.replicate (44 - k) 0
theorem partB_length (l : List Nat) (k : Nat) (hl : l.length = 44) (h : k ≤ 44) : (partB l k).length = 44 := by simp [partB, hl]; omega
theorem partB_set (l : List Nat) (k : Nat) (hl : l.length = 44) (h : k < 44) : (partB l k).set k (l.getD k 0) = partB l (k + 1) := by
  unfold partB
  rw [List.set_append_right _ _ (by simp [hl]; omega), List.length_take, hl, show k - min k 44 = 0 by omega, show 44 - k = (44 - (k + 1)) + 1 by omega, List.replicate_succ, List.set_cons_zero, List.take_succ_eq_append_getElem (show k < l.length by omega), List.append_assoc, List.getD_eq_getElem?_getD, List.getElem?_eq_getElem (show k < l.length by omega)]
  rfl
theorem partB_all (l : List Nat) (hl : l.length = 44) : partB l 44 = l := by simp [partB, List.take_of_length_le (show l.length ≤ 44 by omega)]
theorem FC_set_body (f : Fr) (k c : Nat) : (FC f).setIfInBounds (5 + k) (.int .u8 (c : Nat)) = FC { f with body := f.body.set k c } := by
  apply Array.toList_inj.1
  simp only [FC, Array.toList_setIfInBounds, Array.toList_append]
  rw [List.set_append_right _ _ (by simp)]
  simp [byteCells, List.map_set]
set_option maxRecDepth 100000 in
set_option maxHeartbeats 4000000 in
theorem rfread_core (s : List Nat) (w : World) (hl : s.length = 64) (hs : ∀ c ∈ s, c < 256) :
    Calls Try.prog 19 #[.agg (byteCells s)] w (FrmPost (decF s) w) := by
  have hz := (zero_of_info Try.infoRf).1
  have HIZ := Lib.hid (size_rf (f := Fr.zero) (by simp [Fr.zero]))
  have hone := FC_one Fr.zero
  have hB0 := ((Below.refl w.heap.size w).alloc (Nat.le_refl _) (.cells (byteCells s) 30)).alloc (by simp) (.cells (FC Fr.zero) 40)
  have hA0 : ((w.alloc (.cells (byteCells s) 30)).alloc (.cells (FC Fr.zero) 40)).heap[w.heap.size]? = some (.cells (byteCells s) 30) := (((Below.refl (w.alloc (.cells (byteCells s) 30)).heap.size (w.alloc (.cells (byteCells s) 30))).alloc (Nat.le_refl _) (.cells (FC Fr.zero) 40)).block _ (by simp)).trans (heap_alloc_new w _)
  have hC0 : ((w.alloc (.cells (byteCells s) 30)).alloc (.cells (FC Fr.zero) 40)).heap[w.heap.size + 1]? = some (.cells (FC Fr.zero) 40) := by have := heap_alloc_new (w.alloc (.cells (byteCells s) 30)) (.cells (FC Fr.zero) 40); rwa [World.size_alloc] at this
  have hb := byteCells_row hA0 hs
  have hb60 := hb.drop 60
  rw [Nat.zero_add] at hb60
  have hbt := hb.take 60
  have hl60 : (s.drop 60).length = 4 := by rw [List.length_drop, hl]
  have hlt : (s.take 60).length = 60 := by rw [List.length_take, hl]; rfl
  obtain ⟨x, hx⟩ : ∃ x, Cod.rd (s.drop 60) = x := ⟨_, rfl⟩
  obtain ⟨y, hy⟩ : ∃ y, Crc.sum (s.take 60) = y := ⟨_, rfl⟩
  have H60 := Lib.hid (fun (W : World) h => (rread_any (some ⟨w.heap.size, 60, none⟩) (s.drop 60) 4 W h (by omega)).mono (fun e w' h => (show e = .returned (.int .i64 (Cod.rd (s.drop 60) : Nat)) ∧ w' = W from ⟨h.1, h.2.symm⟩)))
  have HT := Lib.hid (fun (W : World) h => (rsum_any (some ⟨w.heap.size, 0, none⟩) (s.take 60) 64 W h (by omega)).mono (fun e w' h => (show e = .returned (.int .u32 (Crc.sum (s.take 60) : Nat)) ∧ w' = W from ⟨h.1, h.2.symm⟩)))
  rw [hl60, hx] at H60
  rw [hlt, hy] at HT
  have HB := Lib.hid hb
  have HB60 := Lib.hid hb60
  have HBT := Lib.hid hbt
  have HX := Lib.hid hx
  have HY := Lib.hid hy
  clear hx hy hb60 hbt hb
  obtain ⟨ZF, hZF⟩ : ∃ Z, FC Fr.zero = Z := ⟨_, rfl⟩
  have HZF := Lib.hid hZF
  rw [hZF] at hz HIZ hone hB0 hA0 hC0 HB HB60 HBT
  clear hZF
  go_enter Try.func19, Try.ntmps19
  go_wp2_with fail
  go_quiet (first | (go_at_call 47; exact Calls.quiet_of_same (H60.out _ (HB60.out.below (below_drewN (Below.refl _ _) _)))) | (go_at_call 48; exact Calls.quiet_of_same (HT.out _ (HBT.out.below (below_drewN (Below.refl _ _) _)))))
  have hy32 : y < 2 ^ 32 := by rw [← HY.out]; exact Crc.sum_lt (fun c hc => hs c (List.mem_of_mem_take hc))
  have hwy : wrap64 (y : Int) = (y : Int) := by unfold wrap64; omega
  have HS := Lib.hid hs
  have HZ := Lib.hid hz
  by_cases hxy : x = y
  · have t1 : ((x : Int) != (y : Int)) = false := by rw [hxy]; simp
    have HD : Hid (decF s = if verF (s.take 60) = 1 ∧ rightF (parseF (s.take 60)) = true then (parseF (s.take 60), 0) else (Fr.zero, 10)) := Lib.hid (by
      unfold decF
      rw [if_pos ((sum_same s hl hs y hy32).1 (by rw [HX.out]; exact hxy) |>.trans (by rw [HY.out]))])
    have HL := Lib.hid hl
    have hA1 : ((((w.alloc (.cells (byteCells s) 30)).alloc (.cells ZF 40))).drewN nq).heap[w.heap.size]? = some (.cells (byteCells s) 30) := hA0
    have hC1 : ((((w.alloc (.cells (byteCells s) 30)).alloc (.cells ZF 40))).drewN nq).heap[w.heap.size + 1]? = some (.cells ZF 40) := hC0
    have hB1 : Below w.heap.size w ((((w.alloc (.cells (byteCells s) 30)).alloc (.cells ZF 40))).drewN nq) := below_drewN hB0 _
    have zz : ((((w.alloc (.cells (byteCells s) 30)).alloc (.cells ZF 40))).drewN nq).heap.size = w.heap.size + 1 + 1 := by simp
    go_wp2_with fail
    rw [show ((x : Int) != wrap64 (y : Int)) = false by rw [hwy]; exact t1]
    obtain ⟨W0, hW0⟩ : ∃ W0, ((((w.alloc (.cells (byteCells s) 30)).alloc (.cells ZF 40))).drewN nq) = W0 := ⟨_, rfl⟩
    rw [hW0] at hA1 hC1 hB1 zz ⊢
    have HA1 := Lib.hid hA1
    have HC1 := Lib.hid hC1
    have HB1 := Lib.hid hB1
    have n0 : w.heap.size < W0.heap.size := by omega
    have n1 : w.heap.size + 1 < W0.heap.size := by omega
    have HZZ := Lib.hid zz
    clear hW0 t1 hxy hs hl hA0 hC0 hB0 hA1 hC1 hB1 zz hy32 hwy H60 HT HB60 HBT HB hl60 hlt
    have HBW := Lib.hid (fun (W : World) (h : W.heap[w.heap.size]? = some (.cells (byteCells s) 30 (0, 0))) => byteCells_row h HS.out)
    have hrd := fun (a b : Nat) (h : b ≤ 7) (hab : a + b ≤ 64) (cap : Nat) (W : World) (hb : Bytes W (some ⟨w.heap.size, 0, none⟩) s) => (show Calls Try.prog 47 #[.slice (some ⟨w.heap.size, a, none⟩) b cap] W fun e w' => e = .returned (.int .i64 (Cod.rd ((s.drop a).take b) : Nat)) ∧ W = w' by
      have hb2 := (hb.drop a).take b
      rw [Nat.zero_add] at hb2
      have hlen : ((s.drop a).take b).length = b := by rw [List.length_take, List.length_drop, HL.out]; omega
      have := rread_any (some ⟨w.heap.size, a, none⟩) ((s.drop a).take b) cap W hb2 (by omega)
      rwa [hlen] at this)
    have HRD := Lib.hid hrd
    clear hrd
    obtain ⟨k0, hk0⟩ : ∃ k0, s.getD 0 0 = k0 := ⟨_, rfl⟩
    have HK0 := Lib.hid hk0
    have HC0 := Lib.hid (fun (W : World) (j : Nat) (h : W.heap[w.heap.size]? = some (.cells (byteCells s) 30 (0, 0))) (hj : j < 64) => (show W.cell? ⟨w.heap.size, j, none⟩ = some (.int .u8 (s.getD j 0 : Nat)) from (cell_of_row _ _ _ _ _ _ h).trans (byteCells_at s j (by rw [HL.out]; exact hj))))
    obtain ⟨BS, hBS⟩ : ∃ BS, byteCells s = BS := ⟨_, rfl⟩
    rw [hBS] at HA1 HBW HC0
    clear hk0 hBS
    have hk256 : k0 < 256 := by
      rw [← HK0.out, List.getD_eq_getElem?_getD, List.getElem?_eq_getElem (by rw [HL.out]; omega)]
      exact HS.out _ (List.getElem_mem _)
    obtain ⟨f0, hf0⟩ : ∃ f0 : Fr, f0 = ⟨(k0 : Nat), (Cod.rd ((s.drop 2).take 2) : Nat), (Cod.rd ((s.drop 4).take 2) : Nat), (Cod.rd ((s.drop 6).take 4) : Nat), (Cod.rd ((s.drop 10).take 6) : Nat), List.replicate 44 0⟩ := ⟨_, rfl⟩
    have hbu := built_rf (k0 : Nat) (Cod.rd ((s.drop 2).take 2) : Nat) (Cod.rd ((s.drop 4).take 2) : Nat) (Cod.rd ((s.drop 6).take 4) : Nat) (Cod.rd ((s.drop 10).take 6) : Nat)
    rw [← hf0] at hbu
    have hfl0 : f0.body.length = 44 := by rw [hf0]; simp
    have HFL0 := Lib.hid hfl0
    have HIX0 := Lib.hid (size_rf hfl0)
    have H1X0 := Lib.hid (FC_one f0)
    have HZX0 : Hid (ZF.size = (FC f0).size) := Lib.hid (by have h1 := HIZ.out; rw [HIX0.out] at h1; simpa using h1.symm)
    have HF0 := Lib.hid hf0
    obtain ⟨X0, hX0⟩ : ∃ X0, FC f0 = X0 := ⟨_, rfl⟩
    rw [hX0] at hbu HIX0 H1X0 HZX0
    have HX0 := Lib.hid hX0
    have HBU := Lib.hid hbu
    have HZB : Hid (W0.heap.size ≤ W0.heap.size) := Lib.hid (Nat.le_refl _)
    clear hf0 hbu hfl0 hX0
    refine wp_region_conf2 17 [Fact.eq ?rax0, Fact.eq ?rax1, Fact.eq ?rax2, Fact.eq ?rax3, Fact.eq ?rax4, Fact.eq ?rax5, Fact.eq ?rax6, Fact.eq ?rax7, Fact.eq ?rax8, Fact.eq ?rax9, Fact.eq ?rax10, Fact.eq ?rax11, Fact.eq ?rax12, Fact.eq ?rax13, Fact.eq ?rax14, Fact.eq (.agg X0), Fact.rowOf W0.heap.size ZF 40] ?raA (by kernel_rfl) (by kernel_rfl) ?rahA ?raho ?rahend
    case rahA =>
      intro vv
      simp only [putRules, Nat.reduceAdd]
      rfl
    case raho =>
      refine ⟨?_, ?_, ?_, ?_, ?_, ?_, ?_, ?_, ?_, ?_, ?_, ?_, ?_, ?_, ?_, ?_, ?_, trivial⟩
      · intro vv W K hB hd HK
        simp only [confRules] at HK
        clear hd
        go_wp2
        refine HK.out _ _ (Below.refl _ _) ?_
        rfl
      · intro vv W K hB hd HK
        simp only [confRules] at hd HK
        have h0 := hd
        clear hd
        simp only [h0] at HK ⊢
        clear h0
        have hT := HC0.out W 0 ((hB.block w.heap.size n0).trans HA1.out) (by omega)
        rw [HK0.out] at hT
        go_wp2
        refine HK.out _ _ (Below.refl _ _) ?_
        rfl
      · intro vv W K hB hd HK
        simp only [confRules] at hd HK
        have h1 := hd
        clear hd
        simp only [h1] at HK ⊢
        clear h1
        go_wp2
        refine HK.out _ _ (Below.refl _ _) ?_
        rfl
      · intro vv W K hB hd HK
        simp only [confRules] at HK
        clear hd
        go_wp2
        refine HK.out _ _ (Below.refl _ _) ?_
        rfl
      · intro vv W K hB hd HK
        simp only [confRules] at hd HK
        have h3 := hd
        clear hd
        simp only [h3] at HK ⊢
        clear h3
        go_wp2
        refine HK.out _ _ (Below.refl _ _) ?_
        rfl
      · intro vv W K hB hd HK
        simp only [confRules] at hd HK
        have h4 := hd
        clear hd
        simp only [h4] at HK ⊢
        clear h4
        have hT := HBW.out W ((hB.block w.heap.size n0).trans HA1.out)
        go_wp2_with (refine (HRD.out 2 2 (by omega) (by omega) _ _ hT).mono ?_; rintro e w9 ⟨rfl, rfl⟩)
        refine HK.out _ _ (Below.refl _ _) ?_
        rfl
      · intro vv W K hB hd HK
        simp only [confRules] at HK
        clear hd
        go_wp2
        refine HK.out _ _ (Below.refl _ _) ?_
        rfl
      · intro vv W K hB hd HK
        simp only [confRules] at hd HK
        have h6 := hd
        clear hd
        simp only [h6] at HK ⊢
        clear h6
        go_wp2
        refine HK.out _ _ (Below.refl _ _) ?_
        rfl
      · intro vv W K hB hd HK
        simp only [confRules] at hd HK
        obtain ⟨h7, h5⟩ := hd
        simp only [h7, h5] at HK ⊢
        clear h7 h5
        have hT := HBW.out W ((hB.block w.heap.size n0).trans HA1.out)
        go_wp2_with (refine (HRD.out 4 2 (by omega) (by omega) _ _ hT).mono ?_; rintro e w9 ⟨rfl, rfl⟩)
        refine HK.out _ _ (Below.refl _ _) ?_
        rfl
      · intro vv W K hB hd HK
        simp only [confRules] at HK
        clear hd
        go_wp2
        refine HK.out _ _ (Below.refl _ _) ?_
        rfl
      · intro vv W K hB hd HK
        simp only [confRules] at hd HK
        have h9 := hd
        clear hd
        simp only [h9] at HK ⊢
        clear h9
        go_wp2
        refine HK.out _ _ (Below.refl _ _) ?_
        rfl
      · intro vv W K hB hd HK
        simp only [confRules] at hd HK
        obtain ⟨h10, h8⟩ := hd
        simp only [h10, h8] at HK ⊢
        clear h10 h8
        have hT := HBW.out W ((hB.block w.heap.size n0).trans HA1.out)
        go_wp2_with (refine (HRD.out 6 4 (by omega) (by omega) _ _ hT).mono ?_; rintro e w9 ⟨rfl, rfl⟩)
        refine HK.out _ _ (Below.refl _ _) ?_
        rfl
      · intro vv W K hB hd HK
        simp only [confRules] at HK
        clear hd
        go_wp2
        refine HK.out _ _ (Below.refl _ _) ?_
        rfl
      · intro vv W K hB hd HK
        simp only [confRules] at hd HK
        have h12 := hd
        clear hd
        simp only [h12] at HK ⊢
        clear h12
        go_wp2
        refine HK.out _ _ (Below.refl _ _) ?_
        rfl
      · intro vv W K hB hd HK
        simp only [confRules] at hd HK
        obtain ⟨h13, h11⟩ := hd
        simp only [h13, h11] at HK ⊢
        clear h13 h11
        have hT := HBW.out W ((hB.block w.heap.size n0).trans HA1.out)
        go_wp2_with (refine (HRD.out 10 6 (by omega) (by omega) _ _ hT).mono ?_; rintro e w9 ⟨rfl, rfl⟩)
        refine HK.out _ _ (Below.refl _ _) ?_
        rfl
      · intro vv W K hB hd HK
        simp only [confRules] at hd HK
        obtain ⟨h2, h5, h8, h11, h14⟩ := hd
        simp only [h2, h5, h8, h11, h14] at HK ⊢
        clear h2 h5 h8 h11 h14
        go_wp2_with (refine wpList_build_asked (by rfl) 40 _ rfl #[(0, .int .i64 (k0 : Nat)), (1, .int .i64 (Cod.rd ((s.drop 2).take 2) : Nat)), (2, .int .i64 (Cod.rd ((s.drop 4).take 2) : Nat)), (3, .int .i64 (Cod.rd ((s.drop 6).take 4) : Nat)), (4, .int .i64 (Cod.rd ((s.drop 10).take 6) : Nat))] (by simp [Act.eval, Act.put]) X0 HBU.out ?_)
        refine HK.out _ _ (Below.refl _ _) ?_
        rfl
      · intro vv W K hB hd HK
        simp only [confRules] at HK
        clear hd
        go_wp2
        refine HK.out _ _ ((Below.refl _ _).alloc (Nat.le_refl _) _) ?_
        exact ⟨_, rfl, Nat.le_trans HZB.out hB.size, heap_alloc_new _ _⟩
    case rahend =>
      intro vv W hB hf
      have e15 := hf 15 (by decide)
      obtain ⟨g16, e16, l16, r16⟩ := hf 16 (by decide)
      simp only [endRules] at e15
      simp only [e15, e16, dropRules]
      clear hf e15 e16
      obtain ⟨g, hgg⟩ : ∃ g, g = g16 := ⟨_, rfl⟩
      subst hgg
      have rg := r16
      have lg := l16
      clear r16 l16
      go_wp2_with (refine wpList_store_row rfl 40 _ _ rfl g X0 rfl rfl 40 ZF rg HIX0.out HZX0.out H1X0.out ?_)
      have hgN : w.heap.size + 1 < g := by omega
      have hbs := below_setRow (Below.refl g W) (Nat.le_refl _) X0
      have rg3 := setRow_heap W g ZF X0 _ _ rg
      have hA3 := (hbs.block w.heap.size (by omega)).trans ((hB.block w.heap.size n0).trans HA1.out)
      have hC3 := (hbs.block (w.heap.size + 1) hgN).trans ((hB.block (w.heap.size + 1) n1).trans HC1.out)
      have hB3 := below_setRow (HB1.out.trans (hB.mono HB1.out.size)) (show w.heap.size ≤ g by omega) X0
      obtain ⟨W3, hW3⟩ : ∃ W3, W.setRow g X0 = W3 := ⟨_, rfl⟩
      rw [hW3] at rg3 hA3 hC3 hB3 ⊢
      have hz3 : g < W3.heap.size := (Array.getElem?_eq_some_iff.1 rg3).1
      obtain ⟨l, hl⟩ : ∃ l, (s.drop 16).take 44 = l := ⟨_, rfl⟩
      have hll : l.length = 44 := by rw [← hl, List.length_take, List.length_drop, HL.out]; rfl
      have hlg : ∀ k, k < 44 → l.getD k 0 = s.getD (16 + k) 0 := by
        intro k hk
        rw [← hl, List.getD_eq_getElem?_getD, List.getD_eq_getElem?_getD, List.getElem?_take, if_pos hk, List.getElem?_drop]
      have hP0 : ({ f0 with body := partB l 0 } : Fr) = f0 := by
        have : partB l 0 = f0.body := by rw [HF0.out]; simp [partB]
        rw [this]
      have HLL := Lib.hid hll
      have HLG := Lib.hid hlg
      have HP0 := Lib.hid hP0
      have HLS := Lib.hid hl
      have HR3 := Lib.hid rg3
      have HA3 := Lib.hid hA3
      have HC3 := Lib.hid hC3
      have HBB3 := Lib.hid hB3
      clear hl hll hlg hP0 hbs hW3 hA3 hC3 rg3 rg hB3 hB
      go_wp2
      go_loopw [6] (fun i wr => ∃ k : Nat, k ≤ 44 ∧ i = .int .i64 k ∧ wr.heap[g]? = some (.cells (FC { f0 with body := partB l k }) 40 (0, 0)) ∧ Only [g] W3 wr) (fun i _ => 44 - (intOf i).toNat)
      case atStart => exact ⟨0, by omega, rfl, by rw [HP0.out, HX0.out]; exact HR3.out, Only.refl _ _⟩
      case round =>
        obtain ⟨k, hk, rfl, hg, hO⟩ := hrel
        have hA := (hO.block w.heap.size (by omega) (by simp; omega)).trans HA3.out
        by_cases hlt : k < 44
        · have hpl := partB_length l k HLL.out hk
          have hc := HC0.out wr (16 + k) hA (by omega)
          rw [← HLG.out k hlt] at hc
          have hc2 : wr.cell? ⟨g, 5 + k, none⟩ = some (.int .u8 ((partB l k).getD k 0 : Nat)) := (cell_of_row _ _ _ _ _ _ hg).trans (FC_body _ k (by show k < (partB l k).length; omega))
          have hf2 : wr.frozen? ⟨g, 5 + k, none⟩ = false := frozen_of_row _ _ _ _ _ hg
          have H := Lib.hid (show (wr.setCell ⟨g, 5 + k, none⟩ (.int .u8 (l.getD k 0 : Nat))).heap[g]? = some (.cells (FC { f0 with body := partB l (k + 1) }) 40 (0, 0)) by
            rw [heap_setCell_same _ _ _ _ _ _ hg, FC_set_body]
            show some (Obj.cells (FC { f0 with body := (partB l k).set k (l.getD k 0) }) 40) = _
            rw [partB_set l k HLL.out hlt])
          obtain ⟨c, hcc⟩ : ∃ c, l.getD k 0 = c := ⟨_, rfl⟩
          obtain ⟨c', hcc'⟩ : ∃ c, (partB l k).getD k 0 = c := ⟨_, rfl⟩
          rw [hcc] at hc H
          rw [hcc'] at hc2
          clear hg hpl hcc hcc'
          go_wp2
          go_roundw
          case rel => exact ⟨k + 1, by omega, by go_num, H.out, hO.setCell (.inl (by simp)) _⟩
          case measure => simp [intOf]; omega
        · obtain rfl : k = 44 := by omega
          rw [partB_all l HLL.out] at hg
          have hC := (hO.block (w.heap.size + 1) (by omega) (by simp; omega)).trans HC3.out
          have hBr := HBB3.out.trans (hO.below (B := w.heap.size) (by simp; omega) (by omega))
          have hzr : g < wr.heap.size := (Array.getElem?_eq_some_iff.1 hg).1
          obtain ⟨f1, hf1⟩ : ∃ f1 : Fr, ({ f0 with body := l } : Fr) = f1 := ⟨_, rfl⟩
          rw [hf1] at hg
          have hfl1 : f1.body.length = 44 := by rw [← hf1]; exact HLL.out
          have hrdt : ∀ a b, a + b ≤ 60 → ((s.take 60).drop a).take b = (s.drop a).take b := by
            intro a b h
            rw [List.drop_take, List.take_take, Nat.min_eq_left (by omega)]
          have hrd1 : ∀ j, j < 60 → Cod.rd (((s.take 60).drop j).take 1) = s.getD j 0 := by
            intro j h
            have hjl : j < s.length := by rw [HL.out]; omega
            have h1 : (s.drop j).take 1 = [s[j]] := by rw [List.drop_eq_getElem_cons hjl]; rfl
            rw [hrdt j 1 (by omega), h1, List.getD_eq_getElem?_getD, List.getElem?_eq_getElem hjl]
            show s[j] + 256 * 0 = s[j]
            omega
          have hpar : parseF (s.take 60) = f1 := by
            rw [← hf1, HF0.out]
            unfold parseF
            rw [hrdt 2 2 (by omega), hrdt 4 2 (by omega), hrdt 6 4 (by omega), hrdt 10 6 (by omega), hrdt 16 44 (by omega), HLS.out]
            have h0 := hrd1 0 (by omega)
            rw [List.drop_zero, HK0.out] at h0
            rw [h0]
          have hver : verF (s.take 60) = s.getD 1 0 := hrd1 1 (by omega)
          obtain ⟨v1, hv1⟩ : ∃ v, s.getD 1 0 = v := ⟨_, rfl⟩
          have hc1 := HC0.out wr 1 hA (by omega)
          rw [hv1] at hc1
          have HDD : Hid (decF s = if v1 = 1 ∧ rightF f1 = true then (f1, 0) else (Fr.zero, 10)) := Lib.hid (by rw [HD.out, hpar, hver, hv1])
          have HRI := Lib.hid (fun W => rfright_any f1 W)
          have HI1 := Lib.hid (size_rf hfl1)
          have H11 := Lib.hid (FC_one f1)
          have HZ1 : Hid (ZF.size = (FC f1).size) := Lib.hid (by have h1 := HIZ.out; rw [HI1.out] at h1; simpa using h1.symm)
          have HG := Lib.hid hg
          have HBZ' : Try.prog.built 40 [] = some (FC Fr.zero) := by kernel_rfl
          rw [HZF.out] at HBZ'
          have HBZ := Lib.hid HBZ'
          generalize rightF f1 = rf at *
          obtain ⟨X1, hX1⟩ : ∃ X, FC f1 = X := ⟨_, rfl⟩
          rw [hX1] at HG HRI HI1 H11 HZ1
          have HX1 := Lib.hid hX1
          clear hg hpar hver hv1 hrd1 hrdt hf1 hfl1 HBZ' hX1
          by_cases hv : v1 = 1
          · subst hv
            go_wp2_with (refine wpList_load_row_asked (by rfl) 40 _ rfl g rfl 40 _ _ _ HG.out Try.underlying40 rfl HI1.out ?_)
            refine (HRI.out _).mono ?_
            rintro e4 w4 ⟨rfl, hB4⟩
            have hC4 := (hB4.block (w.heap.size + 1) (by omega)).trans hC
            have hG4 := (hB4.block g hzr).trans HG.out
            have hBr4 := hBr.trans (hB4.mono hBr.size)
            cases rf
            · go_upto_region 10 with (fail)
              go_wp2_with (first | (refine wpList_build_asked (by rfl) 40 _ rfl #[] (by rfl) ZF HBZ.out ?_) | (refine wpList_store_row rfl 40 _ _ rfl (w.heap.size + 1) ZF rfl rfl 40 ZF hC4 HIZ.out rfl hone ?_))
              refine bodyPost_ret (results_row_tmp rfl _ _ (w.heap.size + 1) 40 ZF _ _ rfl (setRow_heap _ _ _ _ _ _ hC4) Try.underlying40 rfl HIZ.out) rfl ?_
              exact ⟨by rw [HDD.out, ← HZF.out]; rfl, below_setRow hBr4 (by omega) _⟩
            · go_wp2_with (first | (refine wpList_load_row rfl 40 _ rfl g rfl 40 _ _ _ hG4 Try.underlying40 rfl HI1.out ?_) | (refine wpList_store_row rfl 40 _ _ rfl (w.heap.size + 1) X1 rfl rfl 40 ZF hC4 HI1.out HZ1.out H11.out ?_))
              refine bodyPost_ret (results_row_tmp rfl _ _ (w.heap.size + 1) 40 X1 _ _ rfl (setRow_heap _ _ _ _ _ _ hC4) Try.underlying40 rfl HI1.out) rfl ?_
              exact ⟨by rw [HDD.out, ← HX1.out]; rfl, below_setRow hBr4 (by omega) _⟩
          · have hvb : (((v1 : Nat) : Int) != 1) = true := by rw [bne_iff_ne]; omega
            go_upto_region 10 with (fail)
            go_wp2_with (first | (refine wpList_build_asked (by rfl) 40 _ rfl #[] (by rfl) ZF HBZ.out ?_) | (refine wpList_store_row rfl 40 _ _ rfl (w.heap.size + 1) ZF rfl rfl 40 ZF hC HIZ.out rfl hone ?_))
            refine bodyPost_ret (results_row_tmp rfl _ _ (w.heap.size + 1) 40 ZF _ _ rfl (setRow_heap _ _ _ _ _ _ hC) Try.underlying40 rfl HIZ.out) rfl ?_
            exact ⟨by rw [HDD.out, if_neg (fun h => hv h.1), ← HZF.out]; rfl, below_setRow hBr (by omega) _⟩
  · have hd : decF s = (Fr.zero, 11) := by
      unfold decF
      rw [if_neg (fun h => hxy (by have h2 := (sum_same s hl hs y hy32).2 (by rw [← HY.out]; exact h); rw [← HX.out]; exact h2))]
    have t1 : ((x : Int) != (y : Int)) = true := by rw [bne_iff_ne]; omega
    have HD2 := Lib.hid hd
    clear hxy hd hs hl
    have hC1 : ((((w.alloc (.cells (byteCells s) 30)).alloc (.cells ZF 40))).drewN nq).heap[w.heap.size + 1]? = some (.cells ZF 40) := hC0
    go_wp2_with (refine wpList_store_row rfl 40 _ _ rfl (w.heap.size + 1) ZF rfl rfl 40 ZF hC1 HIZ.out rfl hone ?_)
    refine bodyPost_ret (results_row_tmp rfl _ _ (w.heap.size + 1) 40 ZF _ _ rfl (setRow_heap _ _ _ _ _ _ hC1) Try.underlying40 rfl HIZ.out) rfl ?_
    exact ⟨by rw [HD2.out, HZF.out]; rfl, below_setRow (below_drewN hB0 _) (by omega) _⟩
end Go.Proofs.Ytfcadbeamojdpaa
