/- Proved here: contracts of the document's pool: Drop and Take. -/
import Derived.Test.YtogijlpclceanaaRpC
namespace PoolM
theorem less_step {L : List Int} {k : Nat} {x y : Int} (h : L[k]? = some y) : less (L.take (k + 1)) x = less (L.take k) x ++ if y = x then [] else [y] := by
  obtain ⟨hk, rfl⟩ := List.getElem?_eq_some_iff.1 h
  unfold less
  rw [List.take_succ_eq_append_getElem hk, List.filter_append]
  by_cases h : L[k] = x <;> simp [h]
theorem take_found {D : Nat} {z : Int} {L : List Int} {d y : Int} {k : Nat} (hd : 0 ≤ d ∧ d < (D : Int)) (hn : ∀ u ∈ L.take k, u / z ≠ d) (h : L[k]? = some y) (hy : y / z = d) : takeOf D z L d = (less L y, y, 0) := by
  obtain ⟨hk, rfl⟩ := List.getElem?_eq_some_iff.1 h
  have h1 : dl z L d.toNat = L[k] :: dl z (L.drop (k + 1)) d.toNat := by
    have h2 : L = L.take k ++ L[k] :: L.drop (k + 1) := by rw [List.getElem_cons_drop, List.take_append_drop]
    conv => lhs; rw [h2]
    unfold dl
    rw [List.filter_append, List.filter_cons_of_pos (by simp; omega)]
    have h3 : (L.take k).filter (fun x => x / z == (d.toNat : Int)) = [] := by
      rw [List.filter_eq_nil_iff]
      intro u hu
      have := hn u hu
      simp
      omega
    rw [h3]
    rfl
  unfold takeOf
  rw [if_pos hd, h1]
theorem take_miss {D : Nat} {z : Int} {L : List Int} {d : Int} (hd : 0 ≤ d ∧ d < (D : Int)) (hn : ∀ u ∈ L, u / z ≠ d) : takeOf D z L d = (L, 0, 15) := by
  have h1 : dl z L d.toNat = [] := by
    unfold dl
    rw [List.filter_eq_nil_iff]
    intro u hu
    have := hn u hu
    simp
    omega
  unfold takeOf
  rw [if_pos hd, h1]
theorem miss_step {L : List Int} {k : Nat} {z d y : Int} (h : L[k]? = some y) (hn : ∀ u ∈ L.take k, u / z ≠ d) (hy : y / z ≠ d) : ∀ u ∈ L.take (k + 1), u / z ≠ d := by
  obtain ⟨hk, rfl⟩ := List.getElem?_eq_some_iff.1 h
  rw [List.take_succ_eq_append_getElem hk]
  intro u hu
  rcases List.mem_append.1 hu with hu | hu
  · exact hn u hu
  · obtain rfl : u = L[k] := by simpa using hu
    exact hy
end PoolM
namespace Go.Proofs.Ytogijlpclceanaa
open Go.Conc Go.RowKit Go.Rv Go.Shelf
set_option linter.unusedVariables false
attribute [local go_sem] Oper.semAt_some
open PoolM (dl cnt Ok less cntR giveOf dropOf takeOf pairOf)
set_option maxRecDepth 100000 in
set_option maxHeartbeats 2000000 in
theorem rp_drop_none (d z : Int) (a : Option Addr) (cp : Nat) (L : List Int) (x : Int) (w : World) (hl : L.length ≤ 512) (hI : Ints w a L) (hx : x ∉ L) :
    Calls Try.prog 56 #[.agg (RP d z (.slice a L.length cp)), .int .i64 x] w fun e w' => e = .returned (.tuple #[.agg (RP d z (.slice a L.length cp)), .int .i64 15]) ∧ Below w.heap.size w w' := by
  have HH : Hid (∀ W, Below w.heap.size w W → Calls Try.prog 58 #[.agg (RP d z (.slice a L.length cp)), .int .i64 x] W fun e w' => e = .returned (.bool false) ∧ Below W.heap.size W w') := Lib.hid (fun W hW => by have := rp_has d z a cp L x W hl (hI.below hW); rwa [decide_eq_false hx] at this)
  obtain ⟨W0, hW0, hal, hx0, hr0⟩ := rp_row0 w (RP d z (.slice a L.length cp))
  have hzz := (zero_of_info Try.infoRP).1
  have HIX := Lib.hid (rp_info d z (.slice a L.length cp))
  have H1X := Lib.hid (RP_one d z a L.length cp)
  have HSX : Hid ((RP 0 0 (.slice none 0 0)).size = (RP d z (.slice a L.length cp)).size) := Lib.hid rfl
  have HW0 := Lib.hid hW0
  have HX0 := Lib.hid hx0
  have HR0 := Lib.hid hr0
  have HAL := Lib.hid hal
  have zr : w.heap.size + 1 < W0.heap.size := (Array.getElem?_eq_some_iff.1 hr0).1
  clear hI hW0 hal hx0 hr0 hx
  generalize hX : RP d z (.slice a L.length cp) = X at *
  clear hX
  go_enter Try.func56, Try.ntmps56
  go_upto_region 1 with (fail)
  rw [HW0.out]
  go_wp2_with (refine wpList_row_on (by rfl) 61 _ rfl w.heap.size rfl 61 _ _ _ HX0.out Try.underlying61 rfl HIX.out ?_)
  refine (HH.out _ HAL.out).mono ?_
  rintro e w1 ⟨rfl, hB1⟩
  have HX1 := Lib.hid ((hB1.block w.heap.size (by omega)).trans HX0.out)
  have HR1 := Lib.hid ((hB1.block (w.heap.size + 1) zr).trans HR0.out)
  have HB1 := Lib.hid (HAL.out.trans (hB1.mono HAL.out.size))
  clear hB1
  go_wp2_with (first | (refine wpList_row_on (by rfl) 61 _ rfl w.heap.size rfl 61 _ _ _ HX1.out Try.underlying61 rfl HIX.out ?_) | (refine wpList_store_row rfl 61 _ _ rfl (w.heap.size + 1) X rfl rfl 61 (RP 0 0 (.slice none 0 0)) HR1.out HIX.out HSX.out H1X.out ?_))
  refine bodyPost_ret (rres_ct rfl _ _ (w.heap.size + 1) 61 X _ _ rfl (setRow_heap _ _ _ _ _ _ HR1.out) Try.underlying61 rfl HIX.out) rfl ?_
  exact ⟨rfl, below_setRow HB1.out (by omega) _⟩
set_option maxRecDepth 100000 in
set_option maxHeartbeats 4000000 in
theorem rp_drop_some (d z : Int) (a : Option Addr) (cp : Nat) (L : List Int) (x : Int) (w : World) (hl : L.length ≤ 512) (hI : Ints w a L) (hx : x ∈ L) :
    Calls Try.prog 56 #[.agg (RP d z (.slice a L.length cp)), .int .i64 x] w fun e w' => ∃ v', e = .returned (.tuple #[.agg (RP d z v'), .int .i64 0]) ∧ IntsC w' v' (less L x) ∧ NewS w.heap.size v' ∧ Below w.heap.size w w' := by
  have HH : Hid (∀ W, Below w.heap.size w W → Calls Try.prog 58 #[.agg (RP d z (.slice a L.length cp)), .int .i64 x] W fun e w' => e = .returned (.bool true) ∧ Below W.heap.size W w') := Lib.hid (fun W hW => by have := rp_has d z a cp L x W hl (hI.below hW); rwa [decide_eq_true hx] at this)
  have hinfo : (Try.prog.info? 3).map (fun i => (i.zero, i.size, i.bytes)) = some (some (.int .i64 0), 1, 8) := by kernel_rfl
  have HIN := Lib.hid hinfo
  have HI := Lib.hid hI
  obtain ⟨W0, hW0, hal, hx0, hr0⟩ := rp_row0 w (RP d z (.slice a L.length cp))
  have hzz := (zero_of_info Try.infoRP).1
  have HCS : Hid (∀ (W : World), W.heap[w.heap.size]? = some (.cells (RP d z (.slice a L.length cp)) 61 (0, 0)) → W.cell? ⟨w.heap.size, 2, none⟩ = some (.slice a L.length cp)) := Lib.hid (fun W h => (rp_cells h).2.2)
  have HST : Hid (∀ (W : World) (v : Value), W.heap[w.heap.size]? = some (.cells (RP d z (.slice a L.length cp)) 61 (0, 0)) → (W.setCell ⟨w.heap.size, 2, none⟩ v).heap[w.heap.size]? = some (.cells (RP d z v) 61 (0, 0))) := Lib.hid (fun W v h => heap_setCell_same W w.heap.size 2 _ _ v h)
  have HIX := Lib.hid (rp_info d z (.slice a L.length cp))
  have HIV := Lib.hid (fun v => rp_info d z v)
  have HW0 := Lib.hid hW0
  have HX0 := Lib.hid hx0
  have HR0 := Lib.hid hr0
  have HAL := Lib.hid hal
  have zr : w.heap.size + 1 < W0.heap.size := (Array.getElem?_eq_some_iff.1 hr0).1
  have HX64 : Hid (∀ c ∈ less L x, -9223372036854775808 ≤ c ∧ c ≤ 9223372036854775807) := Lib.hid (fun c hc => hI.1 c (List.mem_filter.1 hc).1)
  have HL0 : Hid (iV (less (L.take 0) x) = []) := Lib.hid rfl
  clear hI hW0 hal hx0 hr0 hinfo hx
  generalize hX : RP d z (.slice a L.length cp) = X at *
  clear hX
  go_enter Try.func56, Try.ntmps56
  go_upto_region 1 with (fail)
  rw [HW0.out]
  go_wp2_with (refine wpList_row_on (by rfl) 61 _ rfl w.heap.size rfl 61 _ _ _ HX0.out Try.underlying61 rfl HIX.out ?_)
  refine (HH.out _ HAL.out).mono ?_
  rintro e w1 ⟨rfl, hB1⟩
  have HX1 := Lib.hid ((hB1.block w.heap.size (by omega)).trans HX0.out)
  have HR1 := Lib.hid ((hB1.block (w.heap.size + 1) zr).trans HR0.out)
  have HB1 := Lib.hid (HAL.out.trans (hB1.mono HAL.out.size))
  have HI1 := Lib.hid (HI.out.below HB1.out)
  have z1 : w.heap.size + 1 < w1.heap.size := (Array.getElem?_eq_some_iff.1 HR1.out).1
  clear hB1
  go_wp2
  go_loopw [6, 7] (fun o i wr => ∃ (k : Nat) (v : Value), k ≤ L.length ∧ i = .int .i64 k ∧ v = o ∧ OwnV wr 3 w1.heap.size v (iV (less (L.take k) x)) ∧ Below w1.heap.size w1 wr) (fun _ i _ => L.length - (intOf i).toNat)
  case atStart => exact ⟨0, _, Nat.zero_le _, rfl, rfl, by rw [HL0.out]; exact OwnV.nil _ _ _, Below.refl _ _⟩
  case round =>
    obtain ⟨k, v, hk, rfl, rfl, hown, hB⟩ := hrel
    have hxr := (hB.block w.heap.size (by omega)).trans HX1.out
    have c2 := HCS.out _ hxr
    have HB := Lib.hid hB
    have HOW := Lib.hid hown
    have HXR := Lib.hid hxr
    have zB := hB.size
    clear hB hown hxr
    by_cases hlt : k < L.length
    · obtain ⟨b, ob, y, rfl, hbl, hcz, -, -, hy⟩ := HI1.out.at hlt
      have hcell := (HB.out.cell (p := ⟨b, ob + k, none⟩) hbl).trans hcz
      have HST2 := Lib.hid (PoolM.less_step (x := x) hy)
      have hfl := List.length_filter_le (fun y => y != x) (L.take k)
      rw [List.length_take] at hfl
      clear hcz hy
      by_cases e : y = x
      · have t5 : (y != x) = false := by simpa using e
        have HS : Hid (iV (less (L.take (k + 1)) x) = iV (less (L.take k) x)) := Lib.hid (by rw [HST2.out, if_pos e, List.append_nil])
        clear e hfl
        go_wp2
        go_roundw
        case rel => exact ⟨k + 1, _, by omega, by go_num, rfl, by rw [HS.out]; exact HOW.out, HB.out⟩
        case measure => simp [intOf]; omega
      · have t5 : (y != x) = true := by simpa using e
        have HS : Hid (iV (less (L.take (k + 1)) x) = iV (less (L.take k) x) ++ [.int .i64 y]) := Lib.hid (by rw [HST2.out, if_neg e, iV_app]; rfl)
        have hown4 := HOW.out.below ((Below.refl _ wr).alloc (Nat.le_refl _) (.cells #[.int .i64 y] 3))
        have HB4 := Lib.hid (HB.out.trans (((Below.refl wr.heap.size wr).alloc (Nat.le_refl _) (.cells #[.int .i64 y] 3)).mono zB))
        have HLN : Hid ((iV (less (L.take k) x)).length ≤ k) := Lib.hid (by rw [iV_length]; have : (less (L.take k) x).length ≤ min k L.length := hfl; omega)
        clear e hfl
        go_wp2_with (at_builtin; refine wpList_append_one rfl (.tmp 27) (.tmp 33) 32 rfl 3 (.int .i64 0) 8 Try.underlying32 HIN.out rfl w1.heap.size _ _ rfl hown4 _ (.int .i64 y) _ _ rfl (heap_alloc_new _ _) rfl (by have := HLN.out; unfold maxLen; omega) (by have := HLN.out; omega) (by simp; omega) ?_; intro v' w' hv hg)
        have HB5 := Lib.hid (HB4.out.trans (hown4.grown hg (by simp; omega)))
        go_roundw
        case rel => exact ⟨k + 1, _, by omega, by go_num, rfl, by rw [HS.out]; exact hv, HB5.out⟩
        case measure => simp [intOf]; omega
    · obtain rfl : k = L.length := by omega
      have hown1 := HOW.out
      rw [List.take_length] at hown1
      obtain ⟨sa, sn, sc, rfl⟩ : ∃ sa sn sc, v = .slice sa sn sc := by
        obtain ⟨a, c, e, -, -⟩ := hown1.shape
        exact ⟨a, _, c, e⟩
      have HV := Lib.hid hown1
      have hf3 := frozen_of_row _ w.heap.size 2 _ _ HXR.out
      have HX3 := Lib.hid (HST.out _ (.slice sa sn sc) HXR.out)
      have HR3 := Lib.hid ((HB.out.block (w.heap.size + 1) z1).trans HR1.out)
      have HR4 := Lib.hid ((Below.heap_setCell wr ⟨w.heap.size, 2, none⟩ (.slice sa sn sc) (w.heap.size + 1) (by simp)).trans HR3.out)
      have hO4 : Only [w.heap.size] wr (wr.setCell ⟨w.heap.size, 2, none⟩ (.slice sa sn sc)) := (Only.refl _ _).setCell (.inl (by simp)) _
      have HV4 := Lib.hid (HV.out.only hO4 (fun j hj hm => by
        obtain rfl : j = w.heap.size := by simpa using hm
        have := (HV.out.cells hj).1
        omega))
      have HBB := Lib.hid (HB1.out.trans (HB.out.mono HB1.out.size))
      have HB4 := Lib.hid (HBB.out.trans (hO4.below (by simp) HBB.out.size))
      clear hO4 hown1 HOW
      go_upto_region 10 with (fail)
      go_wp2_with (first | (refine wpList_row_on (by rfl) 61 _ rfl w.heap.size rfl 61 _ _ _ HX3.out Try.underlying61 rfl (HIV.out _) ?_) | (refine wpList_store_row rfl 61 _ _ rfl (w.heap.size + 1) (RP d z (.slice sa sn sc)) rfl rfl 61 (RP 0 0 (.slice none 0 0)) HR4.out (HIV.out _) rfl (RP_one _ _ _ _ _) ?_))
      refine bodyPost_ret (rres_ct rfl _ _ (w.heap.size + 1) 61 (RP d z (.slice sa sn sc)) _ _ rfl (setRow_heap _ _ _ _ _ _ HR4.out) Try.underlying61 rfl (HIV.out _)) rfl ?_
      have hO5 : Only [w.heap.size + 1] (wr.setCell ⟨w.heap.size, 2, none⟩ (.slice sa sn sc)) ((wr.setCell ⟨w.heap.size, 2, none⟩ (.slice sa sn sc)).setRow (w.heap.size + 1) (RP d z (.slice sa sn sc))) := only_setRow _ _ _
      have hV5 := HV4.out.only hO5 (fun j hj hm => by
        obtain rfl : j = w.heap.size + 1 := by simpa using hm
        have := (HV4.out.cells hj).1
        omega)
      exact ⟨_, rfl, OwnV.intsC hV5 HX64.out, hV5.newS (by omega), below_setRow HB4.out (by omega) _⟩
end Go.Proofs.Ytogijlpclceanaa
