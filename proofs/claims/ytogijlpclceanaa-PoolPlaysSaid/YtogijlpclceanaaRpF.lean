/- Proved here: contracts of the document's pool, whatever its slice: Count, Has, Give, Drop, Take, most; Pairs and Pair. -/
import Derived.Test.YtogijlpclceanaaRpE
namespace PoolM
theorem npairs_dom {D : Nat} {z : Int} {L : List Int} (h : Ok D z L) (hD : 2 ≤ D) : npairs D z L = 0 ↔ cnt z L (domB D z L) = 0 := (npairs_none h hD).trans (pairZ_none h hD)
theorem take_nat {D : Nat} {z : Int} {L : List Int} {d : Nat} {x : Int} {t : List Int} (hd : d < D) (h : dl z L d = x :: t) : takeOf D z L (d : Nat) = (less L x, x, 0) := by
  unfold takeOf
  rw [if_pos (by omega), show ((d : Int)).toNat = d from rfl, h]
end PoolM
namespace Go.Proofs.Ytogijlpclceanaa
open Go.Conc Go.RowKit Go.Rv Go.Shelf
set_option linter.unusedVariables false
attribute [local go_sem] Oper.semAt_some
open PoolM (dl cnt Ok less cntR giveOf dropOf takeOf pairOf npairs domA domB pairZ)
theorem _root_.Go.Rv.IntsC.belowP {w w' : World} {v : Value} {l : List Int} (h : IntsC w v l) (hb : Below w.heap.size w w') : IntsC w' v l := by
  obtain ⟨a, cp, e, hI, r⟩ := h
  exact ⟨a, cp, e, hI.below hb, r⟩
/-- a slice that doesn't lie in block b -/
def OffB (b : Nat) (u : Value) (M : List Int) : Prop := M ≠ [] → ∀ ad n c, u = .slice (some ad) n c → ad.block ∉ [b]
theorem OffB.of_old {w : World} {u : Value} {M : List Int} {b : Nat} (h : IntsC w u M) (hb : w.heap.size ≤ b) : OffB b u M := fun h0 ad n c e hm => by
  obtain ⟨a, cp, e1, hI, -⟩ := h
  rw [e1] at e
  injection e with e2
  have h1 := hI.lt h0 e2
  have h2 : ad.block = b := by simpa using hm
  omega
theorem OffB.step {w w' : World} {u v : Value} {M M' : List Int} {b B : Nat} (h : OffB b u M) (hu : IntsC w u M) (hv : IntsC w' v M') (hs : v = u ∨ NewS B v) (hb : b < B) : OffB b v M' := fun h0 ad n c e hm => by
  rcases hs with rfl | hs
  · refine h (fun hM => h0 ?_) ad n c e hm
    obtain ⟨a1, c1, e1, -⟩ := hu
    obtain ⟨a2, c2, e2, -⟩ := hv
    rw [e1] at e2
    injection e2 with _ e3 _
    rw [hM] at e3
    exact List.eq_nil_of_length_eq_zero e3.symm
  · have h1 := hs ad n c e
    have h2 : ad.block = b := by simpa using hm
    omega
/-- what comes of an operation on the document's pool -/
def RpPost (D : Nat) (z : Int) (v : Value) (L' : List Int) (rest : List Value) (w : World) (e : Ending) (w' : World) : Prop := ∃ v', e = .returned (.tuple (.agg (RP D z v') :: rest).toArray) ∧ IntsC w' v' L' ∧ (v' = v ∨ NewS w.heap.size v') ∧ Below w.heap.size w w'
/-- what is asked of a document's pool -/
structure RpOk (D : Nat) (z : Int) (L : List Int) : Prop where
  ok : Ok D z L
  z64 : z ≤ 64
  d8 : D ≤ 8
  d2 : 2 ≤ D
theorem RpOk.len {D : Nat} {z : Int} {L : List Int} (h : RpOk D z L) : L.length ≤ 512 := by
  have h1 := h.ok.len
  have h2 := h.z64
  have h3 : D * z.toNat ≤ 8 * 64 := Nat.mul_le_mul h.d8 (by omega)
  omega
theorem rpc_count (D : Nat) (z : Int) (v : Value) (L : List Int) (dd : Int) (w : World) (h : RpOk D z L) (hv : IntsC w v L) :
    Calls Try.prog 59 #[.agg (RP D z v), .int .i64 dd] w fun e w' => e = .returned (.int .i64 (cntR z L dd : Nat)) ∧ Below w.heap.size w w' := by
  obtain ⟨a, cp, rfl, hI, -, -, -⟩ := hv
  exact rp_count D z a cp L dd w h.ok h.z64 h.d8 h.len hI
theorem rpc_has (D : Nat) (z : Int) (v : Value) (L : List Int) (x : Int) (w : World) (h : RpOk D z L) (hv : IntsC w v L) :
    Calls Try.prog 58 #[.agg (RP D z v), .int .i64 x] w fun e w' => e = .returned (.bool (decide (x ∈ L))) ∧ Below w.heap.size w w' := by
  obtain ⟨a, cp, rfl, hI, -, -, -⟩ := hv
  exact rp_has D z a cp L x w h.len hI
theorem rpc_most (D : Nat) (z : Int) (v : Value) (L : List Int) (but : Int) (w : World) (h : RpOk D z L) (hv : IntsC w v L) :
    Calls Try.prog 64 #[.agg (RP D z v), .int .i64 but] w fun e w' => e = .returned (.int .i64 (PoolM.bestF D (cnt z L) but)) ∧ Below w.heap.size w w' := by
  obtain ⟨a, cp, rfl, hI, -, -, -⟩ := hv
  exact rp_most D z a cp L but w h.ok h.z64 h.d8 h.len hI
theorem rpc_give (D : Nat) (z : Int) (v : Value) (L : List Int) (x : Int) (w : World) (h : RpOk D z L) (hv : IntsC w v L) :
    Calls Try.prog 53 #[.agg (RP D z v), .int .i64 x] w (RpPost D z v (giveOf D z L x).1 [.int .i64 (giveOf D z L x).2] w) := by
  have hv0 := hv
  obtain ⟨a, cp, rfl, hI, hn, hc, hm⟩ := hv
  have hz := h.ok.z1
  have same : ∀ e0, giveOf D z L x = (L, e0) → ((x < 0 ∧ e0 = 13) ∨ (0 ≤ x ∧ (D : Int) * z ≤ x ∧ e0 = 13) ∨ (0 ≤ x ∧ x < (D : Int) * z ∧ x ∈ L ∧ e0 = 16)) →
      Calls Try.prog 53 #[.agg (RP D z (.slice a L.length cp)), .int .i64 x] w (RpPost D z (.slice a L.length cp) (giveOf D z L x).1 [.int .i64 (giveOf D z L x).2] w) := by
    intro e0 he hcs
    rw [he]
    refine (rp_give_same D z a cp L x e0 w ⟨hz, h.z64⟩ h.d8 h.len hI hcs).mono ?_
    rintro e w' ⟨rfl, hB⟩
    obtain ⟨a', cp', e1, hI', r⟩ := hv0
    exact ⟨_, rfl, ⟨a', cp', e1, hI'.below hB, r⟩, .inl rfl, hB⟩
  by_cases h1 : 0 ≤ x ∧ x < (D : Int) * z
  · by_cases h2 : x ∈ L
    · exact same 16 (by unfold giveOf; rw [if_pos h1, if_pos h2]) (.inr (.inr ⟨h1.1, h1.2, h2, rfl⟩))
    · have he : giveOf D z L x = (L ++ [x], 0) := by unfold giveOf; rw [if_pos h1, if_neg h2]
      rw [he]
      refine (rp_give_new D z a cp L x w ⟨hz, h.z64⟩ h.d8 h.len hI hn h1.1 h1.2 h2).mono ?_
      rintro e w' ⟨v', rfl, hv', hnew, hB⟩
      exact ⟨v', rfl, hv', .inr hnew, hB⟩
  · refine same 13 (by unfold giveOf; rw [if_neg h1]) ?_
    by_cases h3 : x < 0
    · exact .inl ⟨h3, rfl⟩
    · exact .inr (.inl ⟨by omega, by omega, rfl⟩)
theorem rpc_drop (D : Nat) (z : Int) (v : Value) (L : List Int) (x : Int) (w : World) (h : RpOk D z L) (hv : IntsC w v L) :
    Calls Try.prog 56 #[.agg (RP D z v), .int .i64 x] w (RpPost D z v (dropOf L x).1 [.int .i64 (dropOf L x).2] w) := by
  have hv0 := hv
  obtain ⟨a, cp, rfl, hI, hn, hc, hm⟩ := hv
  unfold dropOf
  by_cases hx : x ∈ L
  · rw [if_pos hx]
    refine (rp_drop_some D z a cp L x w h.len hI hx).mono ?_
    rintro e w' ⟨v', rfl, hv', hnew, hB⟩
    exact ⟨v', rfl, hv', .inr hnew, hB⟩
  · rw [if_neg hx]
    refine (rp_drop_none D z a cp L x w h.len hI hx).mono ?_
    rintro e w' ⟨rfl, hB⟩
    obtain ⟨a', cp', e1, hI', r⟩ := hv0
    exact ⟨_, rfl, ⟨a', cp', e1, hI'.below hB, r⟩, .inl rfl, hB⟩
theorem rpc_take (D : Nat) (z : Int) (v : Value) (L : List Int) (d : Int) (w : World) (h : RpOk D z L) (hv : IntsC w v L) :
    Calls Try.prog 54 #[.agg (RP D z v), .int .i64 d] w (RpPost D z v (takeOf D z L d).1 [.int .i64 (takeOf D z L d).2.1, .int .i64 (takeOf D z L d).2.2] w) := by
  have hv0 := hv
  obtain ⟨a, cp, rfl, hI, hn, hc, hm⟩ := hv
  by_cases hd : 0 ≤ d ∧ d < (D : Int)
  · refine (rp_take_in D z a cp L d w h.ok h.z64 h.d8 h.len hI hn hc hm hd).mono ?_
    rintro e w' ⟨v', rfl, hv', hnew, hB⟩
    exact ⟨v', rfl, hv', hnew, hB⟩
  · have he : takeOf D z L d = (L, 0, 13) := by unfold takeOf; rw [if_neg hd]
    rw [he]
    refine (rp_take_out D z a cp L d w h.d8 hd).mono ?_
    rintro e w' ⟨rfl, hB⟩
    obtain ⟨a', cp', e1, hI', r⟩ := hv0
    exact ⟨_, rfl, ⟨a', cp', e1, hI'.below hB, r⟩, .inl rfl, hB⟩
theorem IntsC.shape {w : World} {v : Value} {l : List Int} (h : IntsC w v l) : ∃ a n c, v = .slice a n c := by
  obtain ⟨a, cp, e, -⟩ := h
  exact ⟨a, _, cp, e⟩
theorem rp_one (D : Nat) (z : Int) {v : Value} (h : ∃ a n c, v = .slice a n c) : (RP D z v).all (·.oneCell') = true := by
  obtain ⟨a, n, c, rfl⟩ := h
  exact RP_one _ _ _ _ _
set_option maxRecDepth 100000 in
set_option maxHeartbeats 4000000 in
theorem rpc_pairs (D : Nat) (z : Int) (v : Value) (L : List Int) (w : World) (h : RpOk D z L) (hv : IntsC w v L) :
    Calls Try.prog 60 #[.agg (RP D z v)] w fun e w' => e = .returned (.int .i64 (npairs D z L : Nat)) ∧ Below w.heap.size w w' := by
  have hnew := heap_alloc_new w (.cells (RP D z v) 61)
  have hal : Below w.heap.size w (w.alloc (.cells (RP D z v) 61)) := (Below.refl _ _).alloc (Nat.le_refl _) _
  obtain ⟨W0, hW0⟩ : ∃ W0, w.alloc (.cells (RP D z v) 61) = W0 := ⟨_, rfl⟩
  rw [hW0] at hnew hal
  have hzz := (zero_of_info Try.infoRP).1
  have HIX := Lib.hid (fun u => rp_info D z u)
  have HSX : Hid (∀ u u', (RP D z u).size = (RP D z u').size) := Lib.hid (fun _ _ => rfl)
  have HW0 := Lib.hid hW0
  have z0 : w.heap.size < W0.heap.size := (Array.getElem?_eq_some_iff.1 hnew).1
  have HN0 := Lib.hid hnew
  have HAL := Lib.hid hal
  have HOK := Lib.hid h
  have hd2 := h.d2
  have HV0 := Lib.hid (hv.belowP hal)
  have HOFF0 := Lib.hid (OffB.of_old hv (Nat.le_refl w.heap.size))
  have hnl : npairs D z L ≤ 512 := Nat.le_trans PoolM.npairs_le h.len
  clear h hv hW0 hnew hal
  go_enter Try.func60, Try.ntmps60
  go_upto_region 1 with (fail)
  rw [HW0.out]
  go_wp2
  go_loopw [3] (fun c wr => ∃ (n : Nat) (M : List Int) (u : Value), c = .int .i64 (n : Nat) ∧ n + npairs D z M = npairs D z L ∧ RpOk D z M ∧ wr.heap[w.heap.size]? = some (.cells (RP D z u) 61 (0, 0)) ∧ IntsC wr u M ∧ OffB w.heap.size u M ∧ Below w.heap.size w wr) (fun c _ => npairs D z L - (intOf c).toNat)
  case atStart => exact ⟨0, L, v, rfl, by omega, HOK.out, HN0.out, HV0.out, HOFF0.out, HAL.out⟩
  case round =>
    obtain ⟨n, M, u, rfl, hsum, hok, hrow, hu, hsep, hB⟩ := hrel
    have HRW := Lib.hid hrow
    have HU := Lib.hid hu
    have HOKM := Lib.hid hok
    have HBR := Lib.hid hB
    have HSEP := Lib.hid hsep
    have zr := (Array.getElem?_eq_some_iff.1 hrow).1
    obtain ⟨a1, a2, -⟩ := PoolM.domA_is z M hd2
    obtain ⟨b1, b2, -⟩ := PoolM.domB_is z M hd2
    have HM1 : Hid (∀ W, IntsC W u M → Calls Try.prog 64 #[.agg (RP D z u), .int .i64 (-1)] W fun e w' => e = .returned (.int .i64 (domA D z M : Nat)) ∧ Below W.heap.size W w') := Lib.hid (fun W hW => by have := rpc_most D z u M (-1) W hok hW; rwa [a2] at this)
    have HM2 : Hid (∀ W, IntsC W u M → Calls Try.prog 64 #[.agg (RP D z u), .int .i64 (domA D z M : Nat)] W fun e w' => e = .returned (.int .i64 (domB D z M : Nat)) ∧ Below W.heap.size W w') := Lib.hid (fun W hW => by have := rpc_most D z u M (domA D z M : Nat) W hok hW; rwa [b2] at this)
    have HCT : Hid (∀ W, IntsC W u M → Calls Try.prog 59 #[.agg (RP D z u), .int .i64 (domB D z M : Nat)] W fun e w' => e = .returned (.int .i64 (cnt z M (domB D z M) : Nat)) ∧ Below W.heap.size W w') := Lib.hid (fun W hW => rpc_count D z u M (domB D z M : Nat) W hok hW)
    have hnd := PoolM.npairs_dom hok.ok hd2
    have HTA := Lib.hid (fun (W : World) (hW : IntsC W u M) => rpc_take D z u M (domA D z M : Nat) W hok hW)
    clear hrow hu hB hsep a2 b2
    obtain ⟨da, hda⟩ : ∃ da, domA D z M = da := ⟨_, rfl⟩
    obtain ⟨db, hdb⟩ : ∃ db, domB D z M = db := ⟨_, rfl⟩
    have HDA := Lib.hid hda
    have HDB := Lib.hid hdb
    rw [hda] at HM1 HM2 HTA a1
    rw [hdb] at HM2 HCT hnd b1
    clear hda hdb
    go_wp2_with (refine wpList_row_on (by rfl) 61 _ rfl w.heap.size rfl 61 _ _ _ HRW.out Try.underlying61 rfl (HIX.out _) ?_)
    refine (HM1.out _ HU.out).mono ?_
    rintro e w2 ⟨rfl, hB2⟩
    have HRW2 := Lib.hid ((hB2.block w.heap.size zr).trans HRW.out)
    have HU2 := Lib.hid (HU.out.belowP hB2)
    have HB2 := Lib.hid (HBR.out.trans (hB2.mono HBR.out.size))
    have zr2 := (Array.getElem?_eq_some_iff.1 HRW2.out).1
    clear hB2
    go_wp2_with (refine wpList_row_on (by rfl) 61 _ rfl w.heap.size rfl 61 _ _ _ HRW2.out Try.underlying61 rfl (HIX.out _) ?_)
    refine (HM2.out _ HU2.out).mono ?_
    rintro e w3 ⟨rfl, hB3⟩
    have HRW3 := Lib.hid ((hB3.block w.heap.size zr2).trans HRW2.out)
    have HU3 := Lib.hid (HU2.out.belowP hB3)
    have HB3 := Lib.hid (HB2.out.trans (hB3.mono HB2.out.size))
    have zr3 := (Array.getElem?_eq_some_iff.1 HRW3.out).1
    clear hB3
    go_wp2_with (refine wpList_row_on (by rfl) 61 _ rfl w.heap.size rfl 61 _ _ _ HRW3.out Try.underlying61 rfl (HIX.out _) ?_)
    refine (HCT.out _ HU3.out).mono ?_
    rintro e w4 ⟨rfl, hB4⟩
    have HRW4 := Lib.hid ((hB4.block w.heap.size zr3).trans HRW3.out)
    have HU4 := Lib.hid (HU3.out.belowP hB4)
    have HB4 := Lib.hid (HB3.out.trans (hB4.mono HB3.out.size))
    have zr4 := (Array.getElem?_eq_some_iff.1 HRW4.out).1
    clear hB4
    by_cases h0 : cnt z M db = 0
    · have t5 : (((cnt z M db : Nat) : Int) == 0) = true := by rw [h0]; rfl
      have hn0 := hnd.2 h0
      have HNN : Hid (npairs D z L = n) := Lib.hid (by omega)
      clear h0 hn0 hnd hsum
      generalize cnt z M db = cc at *
      go_wp2
      go_ret
      exact ⟨by rw [HNN.out]; rfl, HB4.out⟩
    · have t5 : (((cnt z M db : Nat) : Int) == 0) = false := by simp; omega
      have hn0 : npairs D z M ≠ 0 := fun e => h0 (hnd.1 e)
      have hne : pairZ D z M ≠ none := fun e => hn0 ((PoolM.npairs_none hok.ok hd2).2 e)
      obtain ⟨xy, hxy⟩ := Option.ne_none_iff_exists'.1 hne
      obtain ⟨x, y⟩ := xy
      obtain ⟨t, s, ha, -, hb, -⟩ := PoolM.pairZ_some hok.ok hd2 hxy
      have hst := PoolM.pairZ_step hok.ok hd2 hxy
      rw [HDA.out] at ha
      rw [HDB.out] at hb
      have hok1 : RpOk D z (less M x) := ⟨hok.ok.filter _, hok.z64, hok.d8, hok.d2⟩
      have hok2 : RpOk D z (less (less M x) y) := ⟨hok1.ok.filter _, hok.z64, hok.d8, hok.d2⟩
      have HTA2 : Hid (∀ W, IntsC W u M → Calls Try.prog 54 #[.agg (RP D z u), .int .i64 (da : Nat)] W (RpPost D z u (less M x) [.int .i64 x, .int .i64 0] W)) := Lib.hid (fun W hW => by have := HTA.out W hW; rwa [PoolM.take_nat a1 ha] at this)
      have HTB2 : Hid (∀ u' W, IntsC W u' (less M x) → Calls Try.prog 54 #[.agg (RP D z u'), .int .i64 (db : Nat)] W (RpPost D z u' (less (less M x) y) [.int .i64 y, .int .i64 0] W)) := Lib.hid (fun u' W hW => by have := rpc_take D z u' (less M x) (db : Nat) W hok1 hW; rwa [PoolM.take_nat b1 hb] at this)
      have HSUM : Hid ((n + 1) + npairs D z (less (less M x) y) = npairs D z L) := Lib.hid (by omega)
      have hlt : n < npairs D z L := by omega
      have HOK2 := Lib.hid hok2
      obtain ⟨M1, hM1⟩ : ∃ M1, less M x = M1 := ⟨_, rfl⟩
      rw [hM1] at HTA2 HTB2 HSUM HOK2
      obtain ⟨M2, hM2⟩ : ∃ M2, less M1 y = M2 := ⟨_, rfl⟩
      rw [hM2] at HTB2 HSUM HOK2
      clear hne hxy ha hb hst hok1 hok2 hM1 hM2 h0 hn0 hnd hsum HTA hok
      generalize cnt z M db = cc at *
      go_wp2_with (refine wpList_row_on (by rfl) 61 _ rfl w.heap.size rfl 61 _ _ _ HRW4.out Try.underlying61 rfl (HIX.out _) ?_)
      refine (HTA2.out _ HU4.out).mono ?_
      rintro e w5 ⟨u1, rfl, hu1, hs1, hB5⟩
      have HSH1 := Lib.hid (IntsC.shape hu1)
      have HRW5 := Lib.hid ((hB5.block w.heap.size zr4).trans HRW4.out)
      have HB5 := Lib.hid (HB4.out.trans (hB5.mono HB4.out.size))
      obtain ⟨W5, hW5⟩ : ∃ W5, w5.setRow w.heap.size (RP D z u1) = W5 := ⟨_, rfl⟩
      have hO5 : Only [w.heap.size] w5 W5 := by rw [← hW5]; exact only_setRow _ _ _
      have hoff1 := HSEP.out.step HU4.out hu1 hs1 zr4
      have HU5 := Lib.hid (hu1.apart hO5 hoff1)
      have HOFF1 := Lib.hid hoff1
      have HRW5' : Hid (W5.heap[w.heap.size]? = some (.cells (RP D z u1) 61 (0, 0))) := Lib.hid (by rw [← hW5]; exact setRow_heap _ _ _ _ _ _ HRW5.out)
      have HB5' := Lib.hid (HB5.out.trans (hO5.below (by simp) HB5.out.size))
      have zr5 := (Array.getElem?_eq_some_iff.1 HRW5'.out).1
      have HW5 := Lib.hid hW5
      clear hu1 hs1 hB5 hW5 hO5 hoff1
      go_upto_region 7 with (refine wpList_store_row rfl 61 _ _ rfl w.heap.size (RP D z u1) rfl rfl 61 (RP D z u) HRW5.out (HIX.out _) (HSX.out _ _) (rp_one _ _ HSH1.out) ?_; rw [HW5.out])
      go_wp2_with (refine wpList_row_on (by rfl) 61 _ rfl w.heap.size rfl 61 _ _ _ HRW5'.out Try.underlying61 rfl (HIX.out _) ?_)
      refine (HTB2.out _ _ HU5.out).mono ?_
      rintro e w6 ⟨u2, rfl, hu2, hs2, hB6⟩
      have HSH2 := Lib.hid (IntsC.shape hu2)
      have HRW6 := Lib.hid ((hB6.block w.heap.size zr5).trans HRW5'.out)
      have HB6 := Lib.hid (HB5'.out.trans (hB6.mono HB5'.out.size))
      obtain ⟨W6, hW6⟩ : ∃ W6, w6.setRow w.heap.size (RP D z u2) = W6 := ⟨_, rfl⟩
      have hO6 : Only [w.heap.size] w6 W6 := by rw [← hW6]; exact only_setRow _ _ _
      have hoff2 := HOFF1.out.step HU5.out hu2 hs2 zr5
      have HU6 := Lib.hid (hu2.apart hO6 hoff2)
      have HOFF2 := Lib.hid hoff2
      have HRW6' : Hid (W6.heap[w.heap.size]? = some (.cells (RP D z u2) 61 (0, 0))) := Lib.hid (by rw [← hW6]; exact setRow_heap _ _ _ _ _ _ HRW6.out)
      have HB6' := Lib.hid (HB6.out.trans (hO6.below (by simp) HB6.out.size))
      have HW6 := Lib.hid hW6
      clear hu2 hs2 hB6 hW6 hO6 hoff2
      go_upto_region 8 with (refine wpList_store_row rfl 61 _ _ rfl w.heap.size (RP D z u2) rfl rfl 61 (RP D z u1) HRW6.out (HIX.out _) (HSX.out _ _) (rp_one _ _ HSH2.out) ?_; rw [HW6.out])
      go_wp2
      go_roundw
      case rel => exact ⟨n + 1, M2, u2, by go_num, HSUM.out, HOK2.out, HRW6'.out, HU6.out, HOFF2.out, HB6'.out⟩
      case measure => simp [intOf]; omega
end Go.Proofs.Ytogijlpclceanaa
