/- Proved here: contracts of the document's pool: Give and Drop. -/
import Derived.Test.YtogijlpclceanaaRpB
import Derived.Test.YtogijlpclceanaaRes
namespace Go.Proofs.Ytogijlpclceanaa
open Go.Conc Go.RowKit Go.Rv Go.Shelf
set_option linter.unusedVariables false
attribute [local go_sem] Oper.semAt_some
open PoolM (dl cnt Ok less cntR giveOf dropOf takeOf pairOf)
/-- a slice that lies from block B on, or nowhere -/
def NewS (B : Nat) (v : Value) : Prop := ∀ ad n c, v = .slice (some ad) n c → B ≤ ad.block
theorem _root_.Go.Rv.OwnV.newS {w : World} {e : TypeId} {base B : Nat} {v : Value} {l : List Value} (h : OwnV w e base v l) (hB : B ≤ base) : NewS B v := by
  intro ad n c e
  subst e
  have := (h.cells (k := ad.block) rfl).1
  omega
/-- ints that a store into blocks elsewhere leaves -/
theorem _root_.Go.Rv.IntsC.apart {S : List Nat} {w w' : World} {v : Value} {l : List Int} (h : IntsC w v l) (hO : Only S w w') (hS : l ≠ [] → ∀ ad n c, v = .slice (some ad) n c → ad.block ∉ S) : IntsC w' v l := by
  obtain ⟨a, cp, e, hI, r⟩ := h
  refine ⟨a, cp, e, ⟨hI.1, ?_⟩, r⟩
  rcases hI.2 with h0 | ⟨b, o, ha, hlt, hc⟩
  · exact .inl h0
  · by_cases h1 : l = []
    · exact .inl h1
    · refine .inr ⟨b, o, ha, Nat.lt_of_lt_of_le hlt hO.size, fun i hi => ?_⟩
      rw [← hc i hi]
      exact World.cell?_of_block (hO.block b hlt (by
        have := hS h1 ⟨b, o, none⟩ l.length cp (by rw [e, ha])
        exact this))
theorem _root_.Go.Rv.Ints.lt {w : World} {a : Option Addr} {l : List Int} (h : Ints w a l) (h0 : l ≠ []) {ad : Addr} (ha : a = some ad) : ad.block < w.heap.size := by
  rcases h.2 with h1 | ⟨b, o, e, hlt, -⟩
  · exact absurd h1 h0
  · rw [ha] at e
    injection e with e
    rw [e]
    exact hlt
theorem only_setRow (w : World) (g : Nat) (cs : Array Value) : Only [g] w (w.setRow g cs) :=
  ⟨rfl, rfl, rfl, by simp [World.setRow], fun b hb hn => by
    have hne : g ≠ b := fun e => hn (by simp [e])
    show (w.heap.modify g _)[b]? = _
    rw [Array.getElem?_modify, if_neg hne]⟩
theorem rp_row0 (w : World) (X : Array Value) : ∃ W0, (w.alloc (.cells X 61)).alloc (.cells (RP 0 0 (.slice none 0 0)) 61) = W0 ∧ Below w.heap.size w W0 ∧
    W0.heap[w.heap.size]? = some (.cells X 61 (0, 0)) ∧ W0.heap[w.heap.size + 1]? = some (.cells (RP 0 0 (.slice none 0 0)) 61 (0, 0)) :=
  ⟨_, rfl, ((Below.refl _ _).alloc (Nat.le_refl _) _).alloc (by simp) _, heap_alloc2_old _ _ _, heap_alloc2_new _ _ _⟩
set_option maxRecDepth 100000 in
set_option maxHeartbeats 2000000 in
theorem rp_give_same (D : Nat) (z : Int) (a : Option Addr) (cp : Nat) (L : List Int) (x e0 : Int) (w : World) (hz : 1 ≤ z ∧ z ≤ 64) (hD : D ≤ 8) (hl : L.length ≤ 512) (hI : Ints w a L)
    (hc : (x < 0 ∧ e0 = 13) ∨ (0 ≤ x ∧ (D : Int) * z ≤ x ∧ e0 = 13) ∨ (0 ≤ x ∧ x < (D : Int) * z ∧ x ∈ L ∧ e0 = 16)) :
    Calls Try.prog 53 #[.agg (RP D z (.slice a L.length cp)), .int .i64 x] w fun e w' => e = .returned (.tuple #[.agg (RP D z (.slice a L.length cp)), .int .i64 e0]) ∧ Below w.heap.size w w' := by
  have HH := Lib.hid (fun (W : World) (hW : Below w.heap.size w W) => rp_has D z a cp L x W hl (hI.below hW))
  obtain ⟨W0, hW0, hal, hx0, hr0⟩ := rp_row0 w (RP D z (.slice a L.length cp))
  have hzz := (zero_of_info Try.infoRP).1
  have HCS : Hid (∀ (W : World), W.heap[w.heap.size]? = some (.cells (RP D z (.slice a L.length cp)) 61 (0, 0)) → W.cell? ⟨w.heap.size, 0, none⟩ = some (.int .i64 (D : Nat)) ∧ W.cell? ⟨w.heap.size, 1, none⟩ = some (.int .i64 z)) := Lib.hid (fun W h => ⟨(rp_cells h).1, (rp_cells h).2.1⟩)
  have HIX := Lib.hid (rp_info D z (.slice a L.length cp))
  have H1X := Lib.hid (RP_one D z a L.length cp)
  have HSX : Hid ((RP 0 0 (.slice none 0 0)).size = (RP D z (.slice a L.length cp)).size) := Lib.hid rfl
  have HW0 := Lib.hid hW0
  have HX0 := Lib.hid hx0
  have HR0 := Lib.hid hr0
  have HAL := Lib.hid hal
  have zr : w.heap.size + 1 < W0.heap.size := (Array.getElem?_eq_some_iff.1 hr0).1
  have hdz : (D : Int) * z ≤ 512 ∧ 0 ≤ (D : Int) * z := by
    have h1 : (D : Int) * z ≤ 8 * z := Int.mul_le_mul_of_nonneg_right (by omega) (by omega)
    have h2 := Int.mul_nonneg (show 0 ≤ (D : Int) by omega) (show 0 ≤ z by omega)
    omega
  clear hI hW0 hal hx0 hr0
  generalize hX : RP D z (.slice a L.length cp) = X at *
  clear hX
  rcases hc with ⟨h1, rfl⟩ | ⟨h1, h2, rfl⟩ | ⟨h1, h2, h3, rfl⟩
  · have t1 : decide (x < 0) = true := decide_eq_true h1
    go_enter Try.func53, Try.ntmps53
    go_upto_region 1 with (fail)
    rw [HW0.out]
    go_wp2_with (first | (refine wpList_row_on (by rfl) 61 _ rfl w.heap.size rfl 61 _ _ _ HX0.out Try.underlying61 rfl HIX.out ?_) | (refine wpList_store_row rfl 61 _ _ rfl (w.heap.size + 1) X rfl rfl 61 (RP 0 0 (.slice none 0 0)) HR0.out HIX.out HSX.out H1X.out ?_))
    refine bodyPost_ret (rres_ct rfl _ _ (w.heap.size + 1) 61 X _ _ rfl (setRow_heap _ _ _ _ _ _ HR0.out) Try.underlying61 rfl HIX.out) rfl ?_
    exact ⟨rfl, below_setRow HAL.out (by omega) _⟩
  · have t1 : decide (x < 0) = false := decide_eq_false (by omega)
    have t2 : decide ((D : Int) * z ≤ x) = true := decide_eq_true h2
    obtain ⟨c0, c1⟩ := HCS.out _ HX0.out
    go_enter Try.func53, Try.ntmps53
    go_upto_region 1 with (fail)
    rw [HW0.out]
    go_wp2_with (first | (refine wpList_row_on (by rfl) 61 _ rfl w.heap.size rfl 61 _ _ _ HX0.out Try.underlying61 rfl HIX.out ?_) | (refine wpList_store_row rfl 61 _ _ rfl (w.heap.size + 1) X rfl rfl 61 (RP 0 0 (.slice none 0 0)) HR0.out HIX.out HSX.out H1X.out ?_))
    refine bodyPost_ret (rres_ct rfl _ _ (w.heap.size + 1) 61 X _ _ rfl (setRow_heap _ _ _ _ _ _ HR0.out) Try.underlying61 rfl HIX.out) rfl ?_
    exact ⟨rfl, below_setRow HAL.out (by omega) _⟩
  · have t1 : decide (x < 0) = false := decide_eq_false (by omega)
    have t2 : decide ((D : Int) * z ≤ x) = false := decide_eq_false (by omega)
    have HM : Hid (∀ W, Below w.heap.size w W → Calls Try.prog 58 #[.agg X, .int .i64 x] W fun e w' => e = .returned (.bool true) ∧ Below W.heap.size W w') := Lib.hid (fun W hW => by have := HH.out W hW; rwa [decide_eq_true h3] at this)
    obtain ⟨c0, c1⟩ := HCS.out _ HX0.out
    clear h1 h2 h3
    go_enter Try.func53, Try.ntmps53
    go_upto_region 1 with (fail)
    rw [HW0.out]
    go_wp2_with (refine wpList_row_on (by rfl) 61 _ rfl w.heap.size rfl 61 _ _ _ HX0.out Try.underlying61 rfl HIX.out ?_)
    refine (HM.out _ HAL.out).mono ?_
    rintro e w1 ⟨rfl, hB1⟩
    have HX1 := Lib.hid ((hB1.block w.heap.size (by omega)).trans HX0.out)
    have HR1 := Lib.hid ((hB1.block (w.heap.size + 1) zr).trans HR0.out)
    have HB1 := Lib.hid (HAL.out.trans (hB1.mono HAL.out.size))
    clear hB1 c0 c1
    go_wp2_with (first | (refine wpList_row_on (by rfl) 61 _ rfl w.heap.size rfl 61 _ _ _ HX1.out Try.underlying61 rfl HIX.out ?_) | (refine wpList_store_row rfl 61 _ _ rfl (w.heap.size + 1) X rfl rfl 61 (RP 0 0 (.slice none 0 0)) HR1.out HIX.out HSX.out H1X.out ?_))
    refine bodyPost_ret (rres_ct rfl _ _ (w.heap.size + 1) 61 X _ _ rfl (setRow_heap _ _ _ _ _ _ HR1.out) Try.underlying61 rfl HIX.out) rfl ?_
    exact ⟨rfl, below_setRow HB1.out (by omega) _⟩
set_option maxRecDepth 100000 in
set_option maxHeartbeats 4000000 in
theorem rp_give_new (D : Nat) (z : Int) (a : Option Addr) (cp : Nat) (L : List Int) (x : Int) (w : World) (hz : 1 ≤ z ∧ z ≤ 64) (hD : D ≤ 8) (hl : L.length ≤ 512) (hI : Ints w a L) (hn : a = none → cp = 0) (h0 : 0 ≤ x) (h1 : x < (D : Int) * z) (h2 : x ∉ L) :
    Calls Try.prog 53 #[.agg (RP D z (.slice a L.length cp)), .int .i64 x] w fun e w' => ∃ v', e = .returned (.tuple #[.agg (RP D z v'), .int .i64 0]) ∧ IntsC w' v' (L ++ [x]) ∧ NewS w.heap.size v' ∧ Below w.heap.size w w' := by
  have HH : Hid (∀ W, Below w.heap.size w W → Calls Try.prog 58 #[.agg (RP D z (.slice a L.length cp)), .int .i64 x] W fun e w' => e = .returned (.bool false) ∧ Below W.heap.size W w') := Lib.hid (fun W hW => by have := rp_has D z a cp L x W hl (hI.below hW); rwa [decide_eq_false h2] at this)
  have hinfo : (Try.prog.info? 3).map (fun i => (i.zero, i.size, i.bytes)) = some (some (.int .i64 0), 1, 8) := by kernel_rfl
  have HIN := Lib.hid hinfo
  have HI := Lib.hid hI
  obtain ⟨W0, hW0, hal, hx0, hr0⟩ := rp_row0 w (RP D z (.slice a L.length cp))
  have hzz := (zero_of_info Try.infoRP).1
  have HCS : Hid (∀ (W : World), W.heap[w.heap.size]? = some (.cells (RP D z (.slice a L.length cp)) 61 (0, 0)) → W.cell? ⟨w.heap.size, 0, none⟩ = some (.int .i64 (D : Nat)) ∧ W.cell? ⟨w.heap.size, 1, none⟩ = some (.int .i64 z) ∧ W.cell? ⟨w.heap.size, 2, none⟩ = some (.slice a L.length cp)) := Lib.hid (fun W h => rp_cells h)
  have HST : Hid (∀ (W : World) (v : Value), W.heap[w.heap.size]? = some (.cells (RP D z (.slice a L.length cp)) 61 (0, 0)) → (W.setCell ⟨w.heap.size, 2, none⟩ v).heap[w.heap.size]? = some (.cells (RP D z v) 61 (0, 0))) := Lib.hid (fun W v h => heap_setCell_same W w.heap.size 2 _ _ v h)
  have HIX := Lib.hid (rp_info D z (.slice a L.length cp))
  have HIV := Lib.hid (fun v => rp_info D z v)
  have HW0 := Lib.hid hW0
  have HX0 := Lib.hid hx0
  have HR0 := Lib.hid hr0
  have HAL := Lib.hid hal
  have zr : w.heap.size + 1 < W0.heap.size := (Array.getElem?_eq_some_iff.1 hr0).1
  have hdz : (D : Int) * z ≤ 512 ∧ 0 ≤ (D : Int) * z := by
    have h1 : (D : Int) * z ≤ 8 * z := Int.mul_le_mul_of_nonneg_right (by omega) (by omega)
    have h2 := Int.mul_nonneg (show 0 ≤ (D : Int) by omega) (show 0 ≤ z by omega)
    omega
  have hx64 : ∀ c ∈ L ++ [x], -9223372036854775808 ≤ c ∧ c ≤ 9223372036854775807 := by
    intro c hc
    rcases List.mem_append.1 hc with h | h
    · exact hI.1 c h
    · obtain rfl : c = x := by simpa using h
      omega
  have HX64 := Lib.hid hx64
  have t1 : decide (x < 0) = false := decide_eq_false (by omega)
  have t2 : decide ((D : Int) * z ≤ x) = false := decide_eq_false (by omega)
  obtain ⟨c0, c1, -⟩ := HCS.out _ HX0.out
  clear hI hW0 hal hx0 hr0 hinfo hx64 h0 h1 h2
  generalize hX : RP D z (.slice a L.length cp) = X at *
  clear hX
  go_enter Try.func53, Try.ntmps53
  go_upto_region 1 with (fail)
  rw [HW0.out]
  go_wp2_with (refine wpList_row_on (by rfl) 61 _ rfl w.heap.size rfl 61 _ _ _ HX0.out Try.underlying61 rfl HIX.out ?_)
  refine (HH.out _ HAL.out).mono ?_
  rintro e w1 ⟨rfl, hB1⟩
  have hx1 := (hB1.block w.heap.size (by omega)).trans HX0.out
  have HR1 := Lib.hid ((hB1.block (w.heap.size + 1) zr).trans HR0.out)
  have HB1 := Lib.hid (HAL.out.trans (hB1.mono HAL.out.size))
  have HI1 := Lib.hid (HI.out.below HB1.out)
  have HX1 := Lib.hid hx1
  obtain ⟨-, -, c2⟩ := HCS.out _ hx1
  have z1 : w.heap.size + 1 < w1.heap.size := (Array.getElem?_eq_some_iff.1 HR1.out).1
  clear hB1 c0 c1 hx1
  go_upto_region 8 with (first | (at_builtin; refine wpList_append_ints rfl (.tmp 23) (.tmp 25) 32 rfl 3 Try.underlying32 HIN.out w1.heap.size (.slice none 0 0) [] rfl (OwnV.nil _ _ _) a cp L rfl HI1.out hn (by simp; omega) (Nat.le_refl _) ?_; intro v1 w2 hv1 hg1; have hb2 : Below w1.heap.size w1 w2 := Below.of_grown hg1 (Nat.le_refl _) (by simp [Value.ownBlock]); have z2 := hb2.size; have hown2 : OwnV (w2.alloc (.cells #[.int .i64 x] 3)) 3 w1.heap.size v1 (L.map (Value.int .i64)) := (by simpa using hv1.below ((Below.refl _ w2).alloc (Nat.le_refl _) (.cells #[.int .i64 x] 3))); have hba := hb2.alloc z2 (.cells #[.int .i64 x] 3); have HXA := Lib.hid ((hba.block w.heap.size (by omega)).trans HX1.out); have HRA := Lib.hid ((hba.block (w.heap.size + 1) z1).trans HR1.out); have HBA := Lib.hid (HB1.out.trans (hba.mono HB1.out.size)); have HZA : Hid (w1.heap.size ≤ (w2.alloc (.cells #[.int .i64 x] 3)).heap.size) := Lib.hid hba.size; clear hv1 hg1 hb2 hba) | (at_builtin; refine wpList_append_one rfl (.tmp 27) (.tmp 29) 32 rfl 3 (.int .i64 0) 8 Try.underlying32 HIN.out rfl w1.heap.size v1 _ rfl hown2 _ (.int .i64 x) _ _ rfl (heap_alloc_new _ _) rfl (by rw [List.length_map]; unfold maxLen; omega) (by rw [List.length_map]; omega) (HZA.out) ?_; intro v2 w3 hv2 hg2; obtain ⟨sa, sn, sc, rfl⟩ : ∃ sa sn sc, v2 = .slice sa sn sc := (by obtain ⟨a, c, e, -, -⟩ := hv2.shape; exact ⟨a, _, c, e⟩); have hb3 := hown2.grown hg2 HZA.out; have hx3 := (hb3.block w.heap.size (by omega)).trans HXA.out; have HR3 := Lib.hid ((hb3.block (w.heap.size + 1) z1).trans HRA.out); have hc3 := (HCS.out _ hx3).2.2; have hf3 := frozen_of_row _ w.heap.size 2 _ _ hx3; have HB3 := Lib.hid (HBA.out.trans (hb3.mono (by have := HB1.out.size; omega))); have HX3 := Lib.hid (HST.out _ (.slice sa sn sc) hx3); have HV2 : Hid (OwnV w3 3 w1.heap.size (.slice sa sn sc) ((L ++ [x]).map (Value.int .i64))) := Lib.hid (by simpa using hv2); have HXX := Lib.hid hx3; clear hb3 hx3 hv2 hg2))
  have HR4 := Lib.hid ((Below.heap_setCell w3 ⟨w.heap.size, 2, none⟩ (.slice sa sn sc) (w.heap.size + 1) (by simp)).trans HR3.out)
  have hO4 : Only [w.heap.size] w3 (w3.setCell ⟨w.heap.size, 2, none⟩ (.slice sa sn sc)) := (Only.refl _ _).setCell (.inl (by simp)) _
  have HV4 := Lib.hid (HV2.out.only hO4 (fun j hj hm => by
    obtain rfl : j = w.heap.size := by simpa using hm
    have := (HV2.out.cells hj).1
    omega))
  have HB4 := Lib.hid (HB3.out.trans (hO4.below (by simp) HB3.out.size))
  clear hO4
  go_wp2_with (first | (refine wpList_row_on (by rfl) 61 _ rfl w.heap.size rfl 61 _ _ _ HX3.out Try.underlying61 rfl (HIV.out _) ?_) | (refine wpList_store_row rfl 61 _ _ rfl (w.heap.size + 1) (RP D z (.slice sa sn sc)) rfl rfl 61 (RP 0 0 (.slice none 0 0)) HR4.out (HIV.out _) rfl (RP_one _ _ _ _ _) ?_))
  refine bodyPost_ret (rres_ct rfl _ _ (w.heap.size + 1) 61 (RP D z (.slice sa sn sc)) _ _ rfl (setRow_heap _ _ _ _ _ _ HR4.out) Try.underlying61 rfl (HIV.out _)) rfl ?_
  have hO5 : Only [w.heap.size + 1] (w3.setCell ⟨w.heap.size, 2, none⟩ (.slice sa sn sc)) ((w3.setCell ⟨w.heap.size, 2, none⟩ (.slice sa sn sc)).setRow (w.heap.size + 1) (RP D z (.slice sa sn sc))) := only_setRow _ _ _
  have hV5 := HV4.out.only hO5 (fun j hj hm => by
    obtain rfl : j = w.heap.size + 1 := by simpa using hm
    have := (HV4.out.cells hj).1
    omega)
  exact ⟨_, rfl, OwnV.intsC hV5 HX64.out, hV5.newS (by omega), below_setRow HB4.out (by omega) _⟩
end Go.Proofs.Ytogijlpclceanaa
