/- Proved here: the contract of the document's entry of a body (Of). -/
import Derived.Test.YtfcadbeamojdpaaEnRef
import Derived.Test.YtfcadbeamojdpaaRRead
import Derived.Test.YtfcadbeamojdpaaConf2
import Derived.LoopTactic
namespace Go.Proofs.Ytfcadbeamojdpaa
open Go.RowKit Go.Rv Frm
set_option linter.unusedVariables false
def rowOfFact (B : Nat) (C : Array Value) (t : TypeId) : Fact := ⟨fun u w => ∃ g, u = .pointer (some ⟨g, 0, none⟩) ∧ B ≤ g ∧ w.heap[g]? = some (.cells C t (0, 0)), fun u w w' ⟨g, e, hb, h⟩ hB => ⟨g, e, hb, (hB.block g (Array.getElem?_eq_some_iff.1 h).1).trans h⟩⟩
theorem built_re6 (k f c b m t : Int) : Try.prog.built 64 [(0, .int .i64 k), (1, .int .i64 f), (2, .int .i64 c), (3, .int .i64 b), (4, .int .i64 m), (5, .int .i64 t)] = some (EC ⟨k, f, c, b, m, t, List.replicate 32 0⟩) := by kernel_rfl
theorem built_re0 : Try.prog.built 64 [] = some (EC En.E.zero) := by kernel_rfl
/-- the bytes, k of them filled -/
def part32 (l : List Nat) (k : Nat) : List Nat := l.take k ++ List.replicate (32 - k) 0
theorem part32_length (l : List Nat) (k : Nat) (hl : l.length = 32) (h : k ≤ 32) : (part32 l k).length = 32 := by simp [part32, hl]; omega
theorem part32_set (l : List Nat) (k : Nat) (hl : l.length = 32) (h : k < 32) : (part32 l k).set k (l.getD k 0) = part32 l (k + 1) := by
  unfold part32
  rw [List.set_append_right _ _ (by simp [hl]; omega), List.length_take, hl, show k - min k 32 = 0 by omega, show 32 - k = (32 - (k + 1)) + 1 by omega, List.replicate_succ, List.set_cons_zero, List.take_succ_eq_append_getElem (show k < l.length by omega), List.append_assoc, List.getD_eq_getElem?_getD, List.getElem?_eq_getElem (show k < l.length by omega)]
  rfl
theorem part32_all (l : List Nat) (hl : l.length = 32) : part32 l 32 = l := by simp [part32, List.take_of_length_le (show l.length ≤ 32 by omega)]
theorem EC_set_byte (f : En.E) (k c : Nat) : (EC f).setIfInBounds (6 + k) (.int .u8 (c : Nat)) = EC { f with bytes := f.bytes.set k c } := by
  apply Array.toList_inj.1
  simp only [EC, Array.toList_setIfInBounds, Array.toList_append]
  rw [List.set_append_right _ _ (by simp)]
  simp [byteCells, List.map_set]
def RofPost (r : En.E × Int) (w : World) (e : Ending) (w' : World) : Prop := e = .returned (.tuple #[.agg (EC r.1), .bool (decide (r.2 = 0))]) ∧ Below w.heap.size w w'
set_option maxRecDepth 100000 in
set_option maxHeartbeats 4000000 in
theorem rof_any (kind : Int) (s : List Nat) (w : World) (hl : s.length = 44) (hs : ∀ c ∈ s, c < 256) :
    Calls Try.prog 36 #[.int .i64 kind, .agg (byteCells s)] w (RofPost (En.ofE kind s) w) := by
  have hz := (zero_of_info Try.infoRE).1
  have HIZ := Lib.hid (size_re (e := En.E.zero) (by simp [En.E.zero]))
  have hone := EC_one En.E.zero
  have HBZ := Lib.hid built_re0
  have hA0 := heap_alloc2_old w (.cells (byteCells s) 22) (.cells (EC En.E.zero) 64)
  have hC0 := heap_alloc2_new w (.cells (byteCells s) 22) (.cells (EC En.E.zero) 64)
  have hB0 : Below w.heap.size w ((w.alloc (.cells (byteCells s) 22)).alloc (.cells (EC En.E.zero) 64)) := ((Below.refl _ w).alloc (Nat.le_refl _) _).alloc (by simp) _
  have HL := Lib.hid hl
  have HS := Lib.hid hs
  have HBW := Lib.hid (fun (W : World) (h : W.heap[w.heap.size]? = some (.cells (byteCells s) 22 (0, 0))) => byteCells_row h hs)
  have hrd := fun (a b : Nat) (h : b ≤ 7) (hab : a + b ≤ 44) (cap : Nat) (W : World) (hb : Bytes W (some ⟨w.heap.size, 0, none⟩) s) => (show Calls Try.prog 47 #[.slice (some ⟨w.heap.size, a, none⟩) b cap] W fun e w' => e = .returned (.int .i64 (Cod.rd ((s.drop a).take b) : Nat)) ∧ W = w' by
    have hb2 := (hb.drop a).take b
    rw [Nat.zero_add] at hb2
    have hlen : ((s.drop a).take b).length = b := by rw [List.length_take, List.length_drop, HL.out]; omega
    have := rread_any (some ⟨w.heap.size, a, none⟩) ((s.drop a).take b) cap W hb2 (by omega)
    rwa [hlen] at this)
  have HRD := Lib.hid hrd
  have HC0 := Lib.hid (fun (W : World) (j : Nat) (h : W.heap[w.heap.size]? = some (.cells (byteCells s) 22 (0, 0))) (hj : j < 44) => (show W.cell? ⟨w.heap.size, j, none⟩ = some (.int .u8 (s.getD j 0 : Nat)) from (cell_of_row _ _ _ _ _ _ h).trans (byteCells_at s j (by rw [HL.out]; exact hj))))
  obtain ⟨k6, hk6⟩ : ∃ k, s.getD 6 0 = k := ⟨_, rfl⟩
  obtain ⟨k7, hk7⟩ : ∃ k, s.getD 7 0 = k := ⟨_, rfl⟩
  have hk6b : k6 < 256 := by
    rw [← hk6, List.getD_eq_getElem?_getD, List.getElem?_eq_getElem (by omega)]
    exact hs _ (List.getElem_mem _)
  have hk7b : k7 < 256 := by
    rw [← hk7, List.getD_eq_getElem?_getD, List.getElem?_eq_getElem (by omega)]
    exact hs _ (List.getElem_mem _)
  have hone1 : ∀ j, j < 44 → Cod.rd ((s.drop j).take 1) = s.getD j 0 := fun j h => by
    have hjl : j < s.length := by omega
    have h1 : (s.drop j).take 1 = [s[j]] := by rw [List.drop_eq_getElem_cons hjl]; rfl
    rw [h1, List.getD_eq_getElem?_getD, List.getElem?_eq_getElem hjl]
    show s[j] + 256 * 0 = s[j]
    omega
  obtain ⟨f0, hf0⟩ : ∃ f0 : En.E, f0 = ⟨kind, (Cod.rd ((s.drop 0).take 6) : Nat), (k6 : Nat), (k7 : Nat), (Cod.rd ((s.drop 8).take 2) : Nat), (Cod.rd ((s.drop 10).take 2) : Nat), List.replicate 32 0⟩ := ⟨_, rfl⟩
  have hbu := built_re6 kind (Cod.rd ((s.drop 0).take 6) : Nat) (k6 : Nat) (k7 : Nat) (Cod.rd ((s.drop 8).take 2) : Nat) (Cod.rd ((s.drop 10).take 2) : Nat)
  rw [← hf0] at hbu
  have hpar : En.parse kind s = { f0 with bytes := (s.drop 12).take 32 } := by
    rw [hf0]
    unfold En.parse
    rw [hone1 6 (by omega), hone1 7 (by omega), hk6, hk7, List.drop_zero]
  have HPAR := Lib.hid hpar
  have HIX0 := Lib.hid (size_re (e := f0) (by rw [hf0]; simp))
  have H1X0 := Lib.hid (EC_one f0)
  have HF0 := Lib.hid hf0
  have HK6 := Lib.hid hk6
  have HK7 := Lib.hid hk7
  obtain ⟨X0, hX0⟩ : ∃ X0, EC f0 = X0 := ⟨_, rfl⟩
  obtain ⟨Z, hZ⟩ : ∃ Z, EC En.E.zero = Z := ⟨_, rfl⟩
  obtain ⟨BS, hBS⟩ : ∃ BS, byteCells s = BS := ⟨_, rfl⟩
  have HZX0 : Hid (Z.size = X0.size) := Lib.hid (by rw [← hX0, ← hZ, EC_size, EC_size, hf0]; rfl)
  rw [hX0] at hbu HIX0 H1X0
  rw [hZ] at hz HIZ hone HBZ hA0 hC0 hB0
  rw [hBS] at hA0 hC0 hB0 HBW HC0 ⊢
  have HX0 := Lib.hid hX0
  have HZ := Lib.hid hZ
  have HBU := Lib.hid hbu
  clear hrd hl hs hk6 hk7 hone1 hf0 hbu hpar hX0 hZ hBS
  have zz : w.heap.size + 1 + 1 ≤ ((w.alloc (.cells BS 22)).alloc (.cells Z 64)).heap.size := by simp
  go_enter Try.func36, Try.ntmps36
  go_upto_region 1 with (fail)
  obtain ⟨W0, hW0⟩ : ∃ W0, (w.alloc (.cells BS 22)).alloc (.cells Z 64) = W0 := ⟨_, rfl⟩
  rw [hW0] at hA0 hC0 hB0 zz ⊢
  have HA1 := Lib.hid hA0
  have HC1 := Lib.hid hC0
  have HB1 := Lib.hid hB0
  have n0 : w.heap.size < W0.heap.size := by omega
  have n1 : w.heap.size + 1 < W0.heap.size := by omega
  have HZB : Hid (W0.heap.size ≤ W0.heap.size) := Lib.hid (Nat.le_refl _)
  clear hW0 hA0 hC0 hB0
  go_wp2
  refine wp_region_conf2 20 [Fact.eq ?rax0, Fact.eq ?rax1, Fact.eq ?rax2, Fact.eq ?rax3, Fact.eq ?rax4, Fact.eq ?rax5, Fact.eq ?rax6, Fact.eq ?rax7, Fact.eq ?rax8, Fact.eq ?rax9, Fact.eq ?rax10, Fact.eq ?rax11, Fact.eq ?rax12, Fact.eq ?rax13, Fact.eq ?rax14, Fact.eq ?rax15, Fact.eq ?rax16, Fact.eq ?rax17, Fact.eq (.agg X0), rowOfFact W0.heap.size Z 64] ?raA (by kernel_rfl) (by kernel_rfl) ?rahA ?raho ?rahend
  case rahA =>
    intro vv
    simp only [putRules, Nat.reduceAdd]
    rfl
  case raho =>
    refine ⟨?_, ?_, ?_, ?_, ?_, ?_, ?_, ?_, ?_, ?_, ?_, ?_, ?_, ?_, ?_, ?_, ?_, ?_, ?_, ?_, trivial⟩
    · intro vv W K hB hd HK
      simp only [confRules] at HK
      clear hd
      go_wp2
      refine HK.out _ _ (Below.refl _ _) ?_
      rfl
    · intro vv W K hB hd HK
      simp only [confRules] at HK
      clear hd
      go_wp2
      refine HK.out _ _ (Below.refl _ _) ?_
      rfl
    · intro vv W K hB hd HK
      simp only [confRules] at hd HK
      have h1 := hd
      clear hd
      simp only [h1] at HK ⊢
      clear h1
      go_wp2
      refine HK.out _ _ (Below.refl _ _) ?_
      rfl
    · intro vv W K hB hd HK
      simp only [confRules] at hd HK
      have h2 := hd
      clear hd
      simp only [h2] at HK ⊢
      clear h2
      have hT := HBW.out W ((hB.block w.heap.size n0).trans HA1.out)
      go_wp2_with (refine (HRD.out 0 6 (by omega) (by omega) _ _ hT).mono ?_; rintro e w9 ⟨rfl, rfl⟩)
      refine HK.out _ _ (Below.refl _ _) ?_
      rfl
    · intro vv W K hB hd HK
      simp only [confRules] at HK
      clear hd
      go_wp2
      refine HK.out _ _ (Below.refl _ _) ?_
      rfl
    · intro vv W K hB hd HK
      simp only [confRules] at hd HK
      have h4 := hd
      clear hd
      simp only [h4] at HK ⊢
      clear h4
      go_wp2
      refine HK.out _ _ (Below.refl _ _) ?_
      rfl
    · intro vv W K hB hd HK
      simp only [confRules] at hd HK
      have h5 := hd
      clear hd
      simp only [h5] at HK ⊢
      clear h5
      have hT := HC0.out W 6 ((hB.block w.heap.size n0).trans HA1.out) (by omega)
      rw [HK6.out] at hT
      go_wp2
      refine HK.out _ _ (Below.refl _ _) ?_
      rfl
    · intro vv W K hB hd HK
      simp only [confRules] at hd HK
      have h6 := hd
      clear hd
      simp only [h6] at HK ⊢
      clear h6
      go_wp2
      refine HK.out _ _ (Below.refl _ _) ?_
      rfl
    · intro vv W K hB hd HK
      simp only [confRules] at HK
      clear hd
      go_wp2
      refine HK.out _ _ (Below.refl _ _) ?_
      rfl
    · intro vv W K hB hd HK
      simp only [confRules] at hd HK
      have h8 := hd
      clear hd
      simp only [h8] at HK ⊢
      clear h8
      go_wp2
      refine HK.out _ _ (Below.refl _ _) ?_
      rfl
    · intro vv W K hB hd HK
      simp only [confRules] at hd HK
      have h9 := hd
      clear hd
      simp only [h9] at HK ⊢
      clear h9
      have hT := HC0.out W 7 ((hB.block w.heap.size n0).trans HA1.out) (by omega)
      rw [HK7.out] at hT
      go_wp2
      refine HK.out _ _ (Below.refl _ _) ?_
      rfl
    · intro vv W K hB hd HK
      simp only [confRules] at hd HK
      have h10 := hd
      clear hd
      simp only [h10] at HK ⊢
      clear h10
      go_wp2
      refine HK.out _ _ (Below.refl _ _) ?_
      rfl
    · intro vv W K hB hd HK
      simp only [confRules] at HK
      clear hd
      go_wp2
      refine HK.out _ _ (Below.refl _ _) ?_
      rfl
    · intro vv W K hB hd HK
      simp only [confRules] at hd HK
      have h12 := hd
      clear hd
      simp only [h12] at HK ⊢
      clear h12
      go_wp2
      refine HK.out _ _ (Below.refl _ _) ?_
      rfl
    · intro vv W K hB hd HK
      simp only [confRules] at hd HK
      obtain ⟨h13, h3⟩ := hd
      simp only [h13, h3] at HK ⊢
      clear h13 h3
      have hT := HBW.out W ((hB.block w.heap.size n0).trans HA1.out)
      go_wp2_with (refine (HRD.out 8 2 (by omega) (by omega) _ _ hT).mono ?_; rintro e w9 ⟨rfl, rfl⟩)
      refine HK.out _ _ (Below.refl _ _) ?_
      rfl
    · intro vv W K hB hd HK
      simp only [confRules] at HK
      clear hd
      go_wp2
      refine HK.out _ _ (Below.refl _ _) ?_
      rfl
    · intro vv W K hB hd HK
      simp only [confRules] at hd HK
      have h15 := hd
      clear hd
      simp only [h15] at HK ⊢
      clear h15
      go_wp2
      refine HK.out _ _ (Below.refl _ _) ?_
      rfl
    · intro vv W K hB hd HK
      simp only [confRules] at hd HK
      obtain ⟨h16, h14⟩ := hd
      simp only [h16, h14] at HK ⊢
      clear h16 h14
      have hT := HBW.out W ((hB.block w.heap.size n0).trans HA1.out)
      go_wp2_with (refine (HRD.out 10 2 (by omega) (by omega) _ _ hT).mono ?_; rintro e w9 ⟨rfl, rfl⟩)
      refine HK.out _ _ (Below.refl _ _) ?_
      rfl
    · intro vv W K hB hd HK
      simp only [confRules] at hd HK
      obtain ⟨h0, h3, h7, h11, h14, h17⟩ := hd
      simp only [h0, h3, h7, h11, h14, h17] at HK ⊢
      clear h0 h3 h7 h11 h14 h17
      go_wp2_with (refine wpList_build_asked (by rfl) 64 _ rfl #[(0, .int .i64 kind), (1, .int .i64 (Cod.rd ((s.drop 0).take 6) : Nat)), (2, .int .i64 (k6 : Nat)), (3, .int .i64 (k7 : Nat)), (4, .int .i64 (Cod.rd ((s.drop 8).take 2) : Nat)), (5, .int .i64 (Cod.rd ((s.drop 10).take 2) : Nat))] (by simp [Act.eval, Act.put]) X0 HBU.out ?_)
      refine HK.out _ _ (Below.refl _ _) ?_
      rfl
    · intro vv W K hB hd HK
      simp only [confRules] at HK
      clear hd
      go_wp2
      refine HK.out _ _ ((Below.refl _ _).alloc (Nat.le_refl _) _) ?_
      exact ⟨_, rfl, Nat.le_trans HZB.out hB.size, heap_alloc_new _ _⟩
  case rahend =>
    intro vv W hB hf
    have e18 := hf 18 (by decide)
    obtain ⟨g, e19, lg, rg⟩ := hf 19 (by decide)
    simp only [endRules] at e18
    simp only [e18, e19, dropRules]
    clear hf e18 e19
    go_upto_region 3 with (refine wpList_store_row rfl 64 _ _ rfl g X0 rfl rfl 64 Z rg HIX0.out HZX0.out H1X0.out ?_)
    have hgN : w.heap.size + 1 < g := by omega
    have hbs := below_setRow (Below.refl g W) (Nat.le_refl _) X0
    have rg3 := setRow_heap W g Z X0 _ _ rg
    have hA3 := (hbs.block w.heap.size (by omega)).trans ((hB.block w.heap.size n0).trans HA1.out)
    have hC3 := (hbs.block (w.heap.size + 1) hgN).trans ((hB.block (w.heap.size + 1) n1).trans HC1.out)
    have hB3 := below_setRow (HB1.out.trans (hB.mono HB1.out.size)) (show w.heap.size ≤ g by omega) X0
    obtain ⟨W3, hW3⟩ : ∃ W3, W.setRow g X0 = W3 := ⟨_, rfl⟩
    rw [hW3] at rg3 hA3 hC3 hB3 ⊢
    have hz3 : g < W3.heap.size := (Array.getElem?_eq_some_iff.1 rg3).1
    obtain ⟨l, hl⟩ : ∃ l, (s.drop 12).take 32 = l := ⟨_, rfl⟩
    have hll : l.length = 32 := by rw [← hl, List.length_take, List.length_drop, HL.out]; rfl
    have hlg : ∀ k, k < 32 → l.getD k 0 = s.getD (12 + k) 0 := by
      intro k hk
      rw [← hl, List.getD_eq_getElem?_getD, List.getD_eq_getElem?_getD, List.getElem?_take, if_pos hk, List.getElem?_drop]
    have hP0 : ({ f0 with bytes := part32 l 0 } : En.E) = f0 := by
      have : part32 l 0 = f0.bytes := by rw [HF0.out]; simp [part32]
      rw [this]
    have HLL := Lib.hid hll
    have HLG := Lib.hid hlg
    have HP0 := Lib.hid hP0
    have HLS := Lib.hid hl
    have HR3 := Lib.hid rg3
    have HA3 := Lib.hid hA3
    have HC3 := Lib.hid hC3
    have HBB3 := Lib.hid hB3
    clear hl hll hlg hP0 hbs hW3 hA3 hC3 rg3 rg hB3 hB
    go_wp2
    go_loopw [8] (fun i wr => ∃ k : Nat, k ≤ 32 ∧ i = .int .i64 k ∧ wr.heap[g]? = some (.cells (EC { f0 with bytes := part32 l k }) 64 (0, 0)) ∧ Only [g] W3 wr) (fun i _ => 32 - (intOf i).toNat)
    case atStart => exact ⟨0, by omega, rfl, by rw [HP0.out, HX0.out]; exact HR3.out, Only.refl _ _⟩
    case round =>
      obtain ⟨k, hk, rfl, hg, hO⟩ := hrel
      have hA := (hO.block w.heap.size (by omega) (by simp; omega)).trans HA3.out
      by_cases hlt : k < 32
      · have hpl := part32_length l k HLL.out hk
        have hc := HC0.out wr (12 + k) hA (by omega)
        rw [← HLG.out k hlt] at hc
        have hc2 : wr.cell? ⟨g, 6 + k, none⟩ = some (.int .u8 ((part32 l k).getD k 0 : Nat)) := (cell_of_row _ _ _ _ _ _ hg).trans (EC_bytes _ k (by show k < (part32 l k).length; omega))
        have hf2 : wr.frozen? ⟨g, 6 + k, none⟩ = false := frozen_of_row _ _ _ _ _ hg
        have H := Lib.hid (show (wr.setCell ⟨g, 6 + k, none⟩ (.int .u8 (l.getD k 0 : Nat))).heap[g]? = some (.cells (EC { f0 with bytes := part32 l (k + 1) }) 64 (0, 0)) by
          rw [heap_setCell_same _ _ _ _ _ _ hg, EC_set_byte]
          show some (Obj.cells (EC { f0 with bytes := (part32 l k).set k (l.getD k 0) }) 64) = _
          rw [part32_set l k HLL.out hlt])
        obtain ⟨c, hcc⟩ : ∃ c, l.getD k 0 = c := ⟨_, rfl⟩
        obtain ⟨c', hcc'⟩ : ∃ c, (part32 l k).getD k 0 = c := ⟨_, rfl⟩
        rw [hcc] at hc H
        rw [hcc'] at hc2
        clear hg hpl hcc hcc'
        go_wp2
        go_roundw
        case rel => exact ⟨k + 1, by omega, by go_num, H.out, hO.setCell (.inl (by simp)) _⟩
        case measure => simp [intOf]; omega
      · obtain rfl : k = 32 := by omega
        rw [part32_all l HLL.out] at hg
        have hC := (hO.block (w.heap.size + 1) (by omega) (by simp; omega)).trans HC3.out
        have hBr := HBB3.out.trans (hO.below (B := w.heap.size) (by simp; omega) (by omega))
        have hzr : g < wr.heap.size := (Array.getElem?_eq_some_iff.1 hg).1
        obtain ⟨f1, hf1⟩ : ∃ f1 : En.E, ({ f0 with bytes := l } : En.E) = f1 := ⟨_, rfl⟩
        have hp1 : En.parse kind s = f1 := by rw [HPAR.out, HLS.out, hf1]
        rw [hf1] at hg
        have hb1 : EBody f1 := by rw [← hp1]; exact parse_ebody HL.out HS.out
        have HRI := Lib.hid (fun W => rright_any f1 W hb1)
        have HI1 := Lib.hid (size_re (e := f1) hb1.1)
        have H11 := Lib.hid (EC_one f1)
        have HZ1 : Hid (Z.size = (EC f1).size) := Lib.hid (by rw [← HZ.out, EC_size, EC_size, hb1.1]; rfl)
        have HG := Lib.hid hg
        have HOF : Hid (En.ofE kind s = if En.right f1 = true then (f1, 0) else (En.E.zero, 10)) := Lib.hid (by unfold En.ofE; rw [hp1])
        obtain ⟨X1, hX1⟩ : ∃ X, EC f1 = X := ⟨_, rfl⟩
        rw [hX1] at HG HRI HI1 H11 HZ1
        have HX1 := Lib.hid hX1
        clear hg hf1 hp1 hb1 hX1
        obtain ⟨rf, hrf⟩ : ∃ rf, En.right f1 = rf := ⟨_, rfl⟩
        rw [hrf] at HRI HOF
        clear hrf
        go_wp2_with (refine wpList_load_row rfl 64 _ rfl g rfl 64 _ _ _ HG.out Try.underlying64 rfl HI1.out ?_)
        refine (HRI.out _).mono ?_
        rintro e4 w4 ⟨rfl, hB4⟩
        have hC4 := (hB4.block (w.heap.size + 1) (by omega)).trans hC
        have hG4 := (hB4.block g hzr).trans HG.out
        have hBr4 := hBr.trans (hB4.mono hBr.size)
        cases rf
        · go_wp2_with (first | (refine wpList_build_asked (by rfl) 64 _ rfl #[] (by rfl) Z HBZ.out ?_) | (refine wpList_store_row rfl 64 _ _ rfl (w.heap.size + 1) Z rfl rfl 64 Z hC4 HIZ.out rfl hone ?_))
          refine bodyPost_ret (results_row_tmp rfl _ _ (w.heap.size + 1) 64 Z _ _ rfl (setRow_heap _ _ _ _ _ _ hC4) Try.underlying64 rfl HIZ.out) rfl ?_
          exact ⟨by rw [HOF.out, ← HZ.out]; rfl, below_setRow hBr4 (by omega) _⟩
        · go_wp2_with (first | (refine wpList_load_row rfl 64 _ rfl g rfl 64 _ _ _ hG4 Try.underlying64 rfl HI1.out ?_) | (refine wpList_store_row rfl 64 _ _ rfl (w.heap.size + 1) X1 rfl rfl 64 Z hC4 HI1.out HZ1.out H11.out ?_))
          refine bodyPost_ret (results_row_tmp rfl _ _ (w.heap.size + 1) 64 X1 _ _ rfl (setRow_heap _ _ _ _ _ _ hC4) Try.underlying64 rfl HI1.out) rfl ?_
          exact ⟨by rw [HOF.out, ← HX1.out]; rfl, below_setRow hBr4 (by omega) _⟩
end Go.Proofs.Ytfcadbeamojdpaa
