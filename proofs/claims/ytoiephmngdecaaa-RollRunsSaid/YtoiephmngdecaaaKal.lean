/- Proved here: plain facts on what a log says: what plays no part, what is cut off, what stays; which of some records counts (choose); A law over any program: a region that draws its order, its operations looked at once each, under one assertion of the slots, of what is over and of the world; A law over any program: a region that draws its order and in which a few operations, each behind the one before it, turn the world stage by stage; each operation is looked at once; A law over any program: a region that draws its order, in which a few operations, each behind the one before it, turn some blocks stage by stage, and others make blocks; each operation is looked at once, each slot has a fact. -/
import Derived.LoopTactic
import Derived.Test.YtoiephmngdecaaaKaa
import Derived.Test.YtoiephmngdecaaaKac
import Derived.Test.YtoiephmngdecaaaKad
import Derived.Test.YtoiephmngdecaaaKaj
namespace Go.Proofs.Ytoiephmngdecaaa
open Go.RowKit Go.Rv Frm
set_option linter.unusedVariables false
namespace Rl
theorem recs_append (g : Geo.G) (epoch next : Int) (a b : List Fnd) : recs g epoch next (a ++ b) = recs g epoch next a ++ recs g epoch next b := by
  unfold recs; rw [List.filterMap_append]
theorem recF_seq {g : Geo.G} {epoch next : Int} {f : Fnd} {x : Int × Rec} (h : recF g epoch next f = some x) : x.1 = f.fr.seq ∧ next ≤ x.1 := by
  unfold recF at h; split at h
  · cases h
  · split at h
    · cases h
    · simp only [Option.some.injEq] at h; subst h; exact ⟨rfl, by simp only; omega⟩
theorem trim_applied (g : Geo.G) : ∀ (n : Nat) (b : Int) (st : St), (trim g b n st).applied = st.applied
  | 0, _, _ => rfl
  | n + 1, b, st => by
    unfold trim; rw [trim_applied g n]
theorem opened_applied (st : St) (seq : Int) (e : En.E) : (opened st seq e).applied = st.applied := by
  unfold opened; split <;> rfl
theorem step_applied (g : Geo.G) (st : St) (seq : Int) (c : Ch) : st.applied ≤ (step g st seq c).applied ∧ (step g st seq c).applied ≤ st.applied + 1 := by
  unfold step; split
  · unfold data; have h1 := opened_applied st seq c.r.e; simp only; split
    · show st.applied ≤ (opened st seq c.r.e).applied ∧ (opened st seq c.r.e).applied ≤ st.applied + 1; omega
    · split
      · show st.applied ≤ (opened st seq c.r.e).applied ∧ (opened st seq c.r.e).applied ≤ st.applied + 1; omega
      · show st.applied ≤ (opened st seq c.r.e).applied + 1 ∧ (opened st seq c.r.e).applied + 1 ≤ st.applied + 1; omega
  · unfold other; simp only; split
    · show st.applied ≤ st.applied + 1 ∧ st.applied + 1 ≤ st.applied + 1; omega
    · rw [trim_applied]; show st.applied ≤ st.applied + 1 ∧ st.applied + 1 ≤ st.applied + 1; omega
/-- the lists keep their lengths -/
theorem lie_len (g : Geo.G) (st : St) (seq : Int) (c : Ch) : (lie g st seq c).es.length = st.es.length ∧ (lie g st seq c).single.length = st.single.length := by
  unfold lie; exact ⟨setEs_length _ _ _ _, by simp⟩
theorem lieAll_len (g : Geo.G) (first : Int) : ∀ (l : List Ch) (i : Nat) (st : St), (lieAll g first l i st).es.length = st.es.length ∧ (lieAll g first l i st).single.length = st.single.length
  | [], _, _ => ⟨rfl, rfl⟩
  | c :: r, i, st => by
    unfold lieAll; have h1 := lieAll_len g first r (i + 1) (lie g st (first + (i : Nat)) c); have h2 := lie_len g st (first + (i : Nat)) c; exact ⟨h1.1.trans h2.1, h1.2.trans h2.2⟩
theorem trim_len (g : Geo.G) : ∀ (n : Nat) (b : Int) (st : St), (trim g b n st).es.length = st.es.length ∧ (trim g b n st).single.length = st.single.length
  | 0, _, _ => ⟨rfl, rfl⟩
  | n + 1, b, st => by
    unfold trim; have h1 := trim_len g n (b + 1) { st with es := setEs g st.es b BE.zero, single := st.single.set b.toNat 0 }; exact ⟨h1.1.trans (setEs_length _ _ _ _), h1.2.trans (by simp)⟩
end Rl
end Go.Proofs.Ytoiephmngdecaaa
namespace Go.Proofs.Ytoiephmngdecaaa
open Go.RowKit Go.Rv Rl
set_option linter.unusedVariables false
attribute [local go_sem] Oper.semAt_some
theorem built_ch (r : Rec) (b : Bool) (h : RecQ r) : Try.prog.built 104 [(0, .agg (recC r)), (1, .bool b)] = some (chC ⟨r, b⟩) := by
  obtain ⟨⟨k, f, c, bl, m, t, l⟩, z, o⟩ := r; obtain ⟨fn, rfl⟩ := list_fn l 32 h.1; kernel_rfl
namespace Rl2
theorem rowOf_drop {α : Type} {w : World} {n : Nat} {X : α → Array Value} {Q : α → Prop} {b o : Nat} {xs : List α} (h : RowOf w n X Q (some ⟨b, o, none⟩) xs) (k : Nat) : RowOf w n X Q (some ⟨b, o + k * n, none⟩) (xs.drop k) := by
  rcases h with rfl | ⟨b', o', e, hlt, hc⟩
  · exact .inl (by simp)
  · cases e; refine .inr ⟨b, o + k * n, rfl, hlt, fun j x hj => ?_⟩
    rw [List.getElem?_drop] at hj; have := hc (k + j) x hj; refine ⟨fun i hi => ?_, this.2⟩
    rw [← this.1 i hi]; congr 2; rw [Nat.add_mul]; omega
theorem rowOf_range {α : Type} {w : World} {n : Nat} {X : α → Array Value} {Q : α → Prop} {b o : Nat} {xs : List α} (h : RowOf w n X Q (some ⟨b, o, none⟩) xs) (hs : ∀ x, Q x → (X x).size = n) {k : Nat} {x : α} (hk : xs[k]? = some x) : w.rangeAt b (o + k * n) (X x).toList := fun j v hv => by
  obtain ⟨b', o', e, -, hc, hq⟩ := h.at hk; cases e
  have hj : j < n := by
    have := (List.getElem?_eq_some_iff.1 hv).1; rw [Array.length_toList, hs x hq] at this; exact this
  rw [hc j hj, ← Array.getElem?_toList, hv]
end Rl2
namespace Rl
theorem firstPair_step {l : List Rec} {k : Nat} {x : Rec} (hx : l[k]? = some x) : firstPair (l.drop k) = if (l.drop (k + 1)).any (mates x) = true then some x else firstPair (l.drop (k + 1)) := by
  have hk := (List.getElem?_eq_some_iff.1 hx).1; rw [List.drop_eq_getElem_cons hk]; have : l[k] = x := by rw [List.getElem?_eq_getElem hk] at hx; exact Option.some.inj hx
  rw [this]; rfl
theorem choose_pair {l : List Rec} {x : Rec} (h : firstPair l = some x) : choose l = ⟨x, false⟩ := by
  unfold choose; rw [h]
theorem choose_none {l : List Rec} {x : Rec} (h : firstPair l = none) (hx : l[0]? = some x) : choose l = ⟨x, true⟩ := by
  unfold choose; rw [h]
  cases l with
  | nil => simp at hx
  | cons y r => simp at hx; subst hx; rfl
end Rl
set_option maxRecDepth 100000 in
set_option maxHeartbeats 8000000 in
theorem rchoose_any (w : World) (b o : Nat) (l : List Rec) (cap : Nat) (hI : RowOf w 40 recC RecQ (some ⟨b, o, none⟩) l) (h0 : l ≠ []) (hl : l.length ≤ 1000) (hcap : l.length ≤ cap) (hcm : cap ≤ 9223372036854775807) :
    Calls Try.prog 30 #[.slice (some ⟨b, o, none⟩) l.length cap] w fun e w' => e = .returned (.agg (chC (Rl.choose l))) ∧ Below w.heap.size w w' := by
  have hz := (zero_of_info Try.infoRec).1; have hzc := (zero_of_info Try.infoCh).1; have HI := Lib.hid hI; have HRI := Lib.hid (fun r (h : RecQ r) => size_rec h); have HRL : Hid (∀ r, RecQ r → (Try.prog.info? 102).map (·.size) = some (recC r).toList.length) := Lib.hid (fun r h => size_rec h); have HRZ : Hid (∀ r, RecQ r → (recC rec0).size = (recC r).size) := Lib.hid (fun r h => by rw [kinRec.size r h]; rfl); have HRO := Lib.hid (fun r h => kinRec.one r h); have HCI := Lib.hid (fun c (h : ChQ c) => size_ch h); have HCO := Lib.hid (fun c h => kinCh.one c h); have HCZ : Hid (∀ c, ChQ c → (chC ch0).size = (chC c).size) := Lib.hid (fun c h => by rw [kinCh.size c h]; rfl); have HMA := Lib.hid (fun a b W ha hb => rmates_any a b W ha hb); have HBC := Lib.hid (fun r b h => built_ch r b h); obtain ⟨CR, hCR⟩ : ∃ C, Rl.choose l = C := ⟨_, rfl⟩; have HCR := Lib.hid hCR; obtain ⟨m, hm⟩ : ∃ m, l.length = m := ⟨_, rfl⟩; have hm1 : 1 ≤ m := by have := List.length_pos_iff.2 h0; omega
  have HM := Lib.hid hm; rw [hm] at hl hcap ⊢; rw [hCR]; obtain ⟨CZ, hCZ⟩ : ∃ C, chC ch0 = C := ⟨_, rfl⟩; obtain ⟨RZ, hRZ⟩ : ∃ C, recC rec0 = C := ⟨_, rfl⟩; rw [hCZ] at hzc HCZ; rw [hRZ] at hz HRZ; obtain ⟨W0, hW0⟩ : ∃ W, w.alloc (.cells CZ 104) = W := ⟨_, rfl⟩; have hb0 : Below w.heap.size w W0 := by rw [← hW0]; exact (Below.refl _ _).alloc (Nat.le_refl _) _
  have hr0 : W0.heap[w.heap.size]? = some (.cells CZ 104 (0, 0)) := by rw [← hW0]; exact heap_alloc_new w _
  have z0 : w.heap.size < W0.heap.size := (Array.getElem?_eq_some_iff.1 hr0).1; have HW0 := Lib.hid hW0; have HB0 := Lib.hid hb0; have HR0 := Lib.hid hr0; have HI0 := Lib.hid (hI.below hb0); have HFIN : Hid (∀ (W : World) (c : Ch), ChQ c → Below W0.heap.size W0 W → Below w.heap.size w (W.setRow w.heap.size (chC c)) ∧ (W.setRow w.heap.size (chC c)).heap[w.heap.size]? = some (.cells (chC c) 104 (0, 0))) := Lib.hid (fun W c hq hB => ⟨below_setRow (hb0.trans (hB.mono (by omega))) (Nat.le_refl _) _, setRow_heap _ _ _ _ _ _ ((hB.block _ z0).trans hr0)⟩); clear hI h0 hCR hm hCZ hRZ hW0 hb0 hr0; go_enter Try.func30, Try.ntmps30; go_upto_region 1 with (fail); rw [HW0.out]; go_wp2; go_loopw [9] (fun u wr => ∃ k : Nat, k ≤ m ∧ u = .int .i64 k ∧ firstPair (l.drop k) = firstPair l ∧ Below W0.heap.size W0 wr) (fun u _ => m - (intOf u).toNat)
  case atStart => exact ⟨0, Nat.zero_le _, rfl, rfl, Below.refl _ _⟩
  case round =>
    obtain ⟨k, hk, rfl, hfp, hBr⟩ := hrel; have zr := hBr.size; have HBR := Lib.hid hBr; have HFP := Lib.hid hfp; clear hBr hfp; by_cases hlt : k < m
    · obtain ⟨x, hx⟩ : ∃ x, l[k]? = some x := ⟨_, List.getElem?_eq_getElem (by rw [HM.out]; exact hlt)⟩; have hqx := (HI.out.all x (List.mem_of_getElem? hx)); have HGX := Lib.hid (Rl2.rowOf_range (HI0.out.below HBR.out) kinRec.size hx); have HST := Lib.hid (firstPair_step hx); obtain ⟨W1, hW1⟩ : ∃ W, wr.alloc (.cells (recC x) 102) = W := ⟨_, rfl⟩; have hb1 : Below wr.heap.size wr W1 := by rw [← hW1]; exact (Below.refl _ _).alloc (Nat.le_refl _) _
      have hx1 : W1.heap[wr.heap.size]? = some (.cells (recC x) 102 (0, 0)) := by rw [← hW1]; exact heap_alloc_new wr _
      have HX1 := Lib.hid hx1; have zX1 : wr.heap.size < W1.heap.size := (Array.getElem?_eq_some_iff.1 hx1).1; have HB1 := Lib.hid (HBR.out.trans (hb1.mono zr)); have HW1 := Lib.hid hW1; have HQX := Lib.hid hqx; clear hx hqx hW1 hb1 hx1; go_upto_region 4 with (first | (refine wpList_load_mid rfl 102 _ rfl b (o + k * 40) rfl (recC x).toList _ HGX.out Try.underlying102 rfl (HRL.out _ HQX.out) ?_) | (refine wpList_store_row rfl 102 _ _ rfl wr.heap.size (recC x) rfl rfl 102 RZ (heap_alloc_new wr _) (HRI.out _ HQX.out) (HRZ.out _ HQX.out) (HRO.out _ HQX.out) ?_; rw [World.setRow_alloc_new])); rw [HW1.out, put_none]; obtain ⟨p, hp⟩ : ∃ p, wr.heap.size = p := ⟨_, rfl⟩; rw [hp] at HX1 zX1 ⊢; clear hp zr; obtain ⟨n1, hn1⟩ : ∃ n, m - (k + 1) = n := ⟨_, rfl⟩; have HN1 : Hid ((l.drop (k + 1)).length = n1) := Lib.hid (by rw [List.length_drop, HM.out]; exact hn1); have hn1b : n1 ≤ 1000 := by omega
      by_cases hce : cap = k + 1
      · have HID : Hid (RowOf W1 40 recC RecQ (some ⟨b, o, none⟩) (l.drop (k + 1))) := Lib.hid (by
          have : l.drop (k + 1) = [] := List.eq_nil_of_length_eq_zero (by rw [HN1.out]; omega); rw [this]; exact RowOf.nil _ _ _ _ _)
        go_wp2
        try rw [hn1]
        clear hn1 hce; go_loopw [19] (fun u wr => ∃ j : Nat, j ≤ n1 ∧ u = .int .i64 j ∧ (∀ y ∈ (l.drop (k + 1)).take j, mates x y = false) ∧ Below W1.heap.size W1 wr) (fun u _ => n1 - (intOf u).toNat)
        case atStart => exact ⟨0, Nat.zero_le _, rfl, by simp, Below.refl _ _⟩
        case round =>
          obtain ⟨j, hj, rfl, hno, hBi⟩ := hrel; have zi := hBi.size; have HBI := Lib.hid hBi; have HNO := Lib.hid hno; clear hBi hno; by_cases hlt2 : j < n1
          · obtain ⟨y, hy⟩ : ∃ y, (l.drop (k + 1))[j]? = some y := ⟨_, List.getElem?_eq_getElem (by rw [HN1.out]; exact hlt2)⟩; have HMY := Lib.hid (List.mem_of_getElem? hy); have HQY : Hid (RecQ y) := Lib.hid (HI.out.all y (List.mem_of_mem_drop HMY.out)); have HGY : Hid (wr.rangeAt b (o + j * 40) (recC y).toList) := Lib.hid (Rl2.rowOf_range (HID.out.below HBI.out) kinRec.size hy); have HTK : Hid ((l.drop (k + 1)).take (j + 1) = (l.drop (k + 1)).take j ++ [y]) := Lib.hid (by rw [List.take_add_one, hy]; rfl); obtain ⟨W2, hW2⟩ : ∃ W, wr.alloc (.cells (recC y) 102) = W := ⟨_, rfl⟩; have hb2 : Below wr.heap.size wr W2 := by rw [← hW2]; exact (Below.refl _ _).alloc (Nat.le_refl _) _
            have hy2 : W2.heap[wr.heap.size]? = some (.cells (recC y) 102 (0, 0)) := by rw [← hW2]; exact heap_alloc_new wr _
            have HY2 := Lib.hid hy2; have HB2 := Lib.hid (HBI.out.trans (hb2.mono zi)); have HX2 := Lib.hid ((HB2.out.block _ zX1).trans HX1.out); have zX2 : p < W2.heap.size := (Array.getElem?_eq_some_iff.1 HX2.out).1; have HW2 := Lib.hid hW2; obtain ⟨mb, hmb⟩ : ∃ mb, mates x y = mb := ⟨_, rfl⟩; have HM2 := Lib.hid (HMA.out x y W2 HQX.out HQY.out); rw [hmb] at HM2; have HMB := Lib.hid hmb; clear hy hW2 hb2 hy2 hmb; go_upto_region 7 with (first | (refine wpList_load_mid rfl 102 _ rfl b (o + j * 40) rfl (recC y).toList _ HGY.out Try.underlying102 rfl (HRL.out _ HQY.out) ?_) | (refine wpList_store_row rfl 102 _ _ rfl wr.heap.size (recC y) rfl rfl 102 RZ (heap_alloc_new wr _) (HRI.out _ HQY.out) (HRZ.out _ HQY.out) (HRO.out _ HQY.out) ?_; rw [World.setRow_alloc_new])); rw [HW2.out, put_none]; go_wp2_with (first | (refine wpList_load_row rfl 102 _ rfl p rfl 102 _ _ _ HX2.out Try.underlying102 rfl (HRI.out _ HQX.out) ?_) | (refine wpList_load_row rfl 102 _ rfl wr.heap.size rfl 102 _ _ _ HY2.out Try.underlying102 rfl (HRI.out _ HQY.out) ?_) | fail); refine HM2.out.mono ?_; rintro e3 w3 ⟨rfl, hB3⟩; have HB3 := Lib.hid (HB1.out.trans ((HB2.out.trans (hB3.mono HB2.out.size)).mono HB1.out.size)); have HB23 := Lib.hid (HB2.out.trans (hB3.mono HB2.out.size)); have HX3 := Lib.hid ((hB3.block _ zX2).trans HX2.out); have HR3 := Lib.hid ((HB3.out.block _ z0).trans HR0.out); clear hB3; cases mb
            · go_wp2
              first | exact ⟨⟨j + 1, by omega, by go_num, (by rw [HTK.out]; intro z hz; rcases List.mem_append.1 hz with hz | hz; exact HNO.out z hz; rw [List.mem_singleton.1 hz]; exact HMB.out), HB23.out⟩, by simp [intOf]; omega⟩ | (go_roundw; exact ⟨j + 1, by omega, by go_num, (by rw [HTK.out]; intro z hz; rcases List.mem_append.1 hz with hz | hz; exact HNO.out z hz; rw [List.mem_singleton.1 hz]; exact HMB.out), HB23.out⟩; simp [intOf]; omega)
            · have hany : (l.drop (k + 1)).any (mates x) = true := List.any_eq_true.2 ⟨y, HMY.out, HMB.out⟩; have hst := HST.out; rw [hany, if_pos rfl, HFP.out] at hst; have hcr := HCR.out; rw [choose_pair hst] at hcr; subst hcr; have hbx := HBC.out x false HQX.out; have hci := HCI.out ⟨x, false⟩ HQX.out; have hcz := HCZ.out ⟨x, false⟩ HQX.out; have hco := HCO.out ⟨x, false⟩ HQX.out; have hfin := HFIN.out w3 ⟨x, false⟩ HQX.out HB3.out; have hix := HRI.out x HQX.out; obtain ⟨CX, hCX⟩ : ∃ C, chC ⟨x, false⟩ = C := ⟨_, rfl⟩; obtain ⟨RX, hRX⟩ : ∃ C, recC x = C := ⟨_, rfl⟩; rw [hCX] at hbx hci hcz hco hfin; rw [hRX] at hbx hix HX3; have HBX := Lib.hid hbx; have HIC := Lib.hid hci; have HZC := Lib.hid hcz; have HOC := Lib.hid hco; have HFX := Lib.hid hfin; have HIX := Lib.hid hix; have HCX := Lib.hid hCX; clear hbx hci hcz hco hfin hix hCX hRX hany hst; go_wp2_with (first | (refine wpList_load_row rfl 102 _ rfl p rfl 102 _ _ _ HX3.out Try.underlying102 rfl HIX.out ?_) | (refine wpList_build_on (by rfl) 104 _ rfl #[(0, .agg RX), (1, .bool false)] (by simp [Act.eval, Act.put]) _ HBX.out ?_) | (refine wpList_store_row rfl 104 _ _ rfl w.heap.size CX rfl rfl 104 CZ HR3.out HIC.out HZC.out HOC.out ?_)); obtain ⟨r1, r2⟩ := HFX.out; refine bodyPost_ret (res_row rfl _ _ w.heap.size 104 CX _ _ rfl r2 Try.underlying104 rfl HIC.out) rfl ?_; exact ⟨by rw [HCX.out], r1⟩
          · obtain rfl : j = n1 := by omega
            have hall : (l.drop (k + 1)).any (mates x) = false := by
              rw [List.any_eq_false]; intro y hy; have := HNO.out y (by rw [List.take_of_length_le (by rw [HN1.out]; exact Nat.le_refl _)]; exact hy); simp [this]
            have hst := HST.out; rw [hall, if_neg (by simp), HFP.out] at hst; have HST2 := Lib.hid hst; clear hall hst; go_wp2
            first | exact ⟨⟨k + 1, by omega, by go_num, HST2.out.symm, HB1.out.trans (HBI.out.mono HB1.out.size)⟩, by simp [intOf]; omega⟩ | (go_roundw; exact ⟨k + 1, by omega, by go_num, HST2.out.symm, HB1.out.trans (HBI.out.mono HB1.out.size)⟩; simp [intOf]; omega)
      · have HID : Hid (RowOf W1 40 recC RecQ (some ⟨b, o + (k + 1) * 40, none⟩) (l.drop (k + 1))) := Lib.hid (Rl2.rowOf_drop (HI0.out.below HB1.out) (k + 1)); go_wp2
        try rw [hn1]
        clear hn1 hce; go_loopw [19] (fun u wr => ∃ j : Nat, j ≤ n1 ∧ u = .int .i64 j ∧ (∀ y ∈ (l.drop (k + 1)).take j, mates x y = false) ∧ Below W1.heap.size W1 wr) (fun u _ => n1 - (intOf u).toNat)
        case atStart => exact ⟨0, Nat.zero_le _, rfl, by simp, Below.refl _ _⟩
        case round =>
          obtain ⟨j, hj, rfl, hno, hBi⟩ := hrel; have zi := hBi.size; have HBI := Lib.hid hBi; have HNO := Lib.hid hno; clear hBi hno; by_cases hlt2 : j < n1
          · obtain ⟨y, hy⟩ : ∃ y, (l.drop (k + 1))[j]? = some y := ⟨_, List.getElem?_eq_getElem (by rw [HN1.out]; exact hlt2)⟩; have HMY := Lib.hid (List.mem_of_getElem? hy); have HQY : Hid (RecQ y) := Lib.hid (HI.out.all y (List.mem_of_mem_drop HMY.out)); have HGY : Hid (wr.rangeAt b (o + (k + 1) * 40 + j * 40) (recC y).toList) := Lib.hid (Rl2.rowOf_range (HID.out.below HBI.out) kinRec.size hy); have HTK : Hid ((l.drop (k + 1)).take (j + 1) = (l.drop (k + 1)).take j ++ [y]) := Lib.hid (by rw [List.take_add_one, hy]; rfl); obtain ⟨W2, hW2⟩ : ∃ W, wr.alloc (.cells (recC y) 102) = W := ⟨_, rfl⟩; have hb2 : Below wr.heap.size wr W2 := by rw [← hW2]; exact (Below.refl _ _).alloc (Nat.le_refl _) _
            have hy2 : W2.heap[wr.heap.size]? = some (.cells (recC y) 102 (0, 0)) := by rw [← hW2]; exact heap_alloc_new wr _
            have HY2 := Lib.hid hy2; have HB2 := Lib.hid (HBI.out.trans (hb2.mono zi)); have HX2 := Lib.hid ((HB2.out.block _ zX1).trans HX1.out); have zX2 : p < W2.heap.size := (Array.getElem?_eq_some_iff.1 HX2.out).1; have HW2 := Lib.hid hW2; obtain ⟨mb, hmb⟩ : ∃ mb, mates x y = mb := ⟨_, rfl⟩; have HM2 := Lib.hid (HMA.out x y W2 HQX.out HQY.out); rw [hmb] at HM2; have HMB := Lib.hid hmb; clear hy hW2 hb2 hy2 hmb; go_upto_region 7 with (first | (refine wpList_load_mid rfl 102 _ rfl b (o + (k + 1) * 40 + j * 40) rfl (recC y).toList _ HGY.out Try.underlying102 rfl (HRL.out _ HQY.out) ?_) | (refine wpList_store_row rfl 102 _ _ rfl wr.heap.size (recC y) rfl rfl 102 RZ (heap_alloc_new wr _) (HRI.out _ HQY.out) (HRZ.out _ HQY.out) (HRO.out _ HQY.out) ?_; rw [World.setRow_alloc_new])); rw [HW2.out, put_none]; go_wp2_with (first | (refine wpList_load_row rfl 102 _ rfl p rfl 102 _ _ _ HX2.out Try.underlying102 rfl (HRI.out _ HQX.out) ?_) | (refine wpList_load_row rfl 102 _ rfl wr.heap.size rfl 102 _ _ _ HY2.out Try.underlying102 rfl (HRI.out _ HQY.out) ?_) | fail); refine HM2.out.mono ?_; rintro e3 w3 ⟨rfl, hB3⟩; have HB3 := Lib.hid (HB1.out.trans ((HB2.out.trans (hB3.mono HB2.out.size)).mono HB1.out.size)); have HB23 := Lib.hid (HB2.out.trans (hB3.mono HB2.out.size)); have HX3 := Lib.hid ((hB3.block _ zX2).trans HX2.out); have HR3 := Lib.hid ((HB3.out.block _ z0).trans HR0.out); clear hB3; cases mb
            · go_wp2
              first | exact ⟨⟨j + 1, by omega, by go_num, (by rw [HTK.out]; intro z hz; rcases List.mem_append.1 hz with hz | hz; exact HNO.out z hz; rw [List.mem_singleton.1 hz]; exact HMB.out), HB23.out⟩, by simp [intOf]; omega⟩ | (go_roundw; exact ⟨j + 1, by omega, by go_num, (by rw [HTK.out]; intro z hz; rcases List.mem_append.1 hz with hz | hz; exact HNO.out z hz; rw [List.mem_singleton.1 hz]; exact HMB.out), HB23.out⟩; simp [intOf]; omega)
            · have hany : (l.drop (k + 1)).any (mates x) = true := List.any_eq_true.2 ⟨y, HMY.out, HMB.out⟩; have hst := HST.out; rw [hany, if_pos rfl, HFP.out] at hst; have hcr := HCR.out; rw [choose_pair hst] at hcr; subst hcr; have hbx := HBC.out x false HQX.out; have hci := HCI.out ⟨x, false⟩ HQX.out; have hcz := HCZ.out ⟨x, false⟩ HQX.out; have hco := HCO.out ⟨x, false⟩ HQX.out; have hfin := HFIN.out w3 ⟨x, false⟩ HQX.out HB3.out; have hix := HRI.out x HQX.out; obtain ⟨CX, hCX⟩ : ∃ C, chC ⟨x, false⟩ = C := ⟨_, rfl⟩; obtain ⟨RX, hRX⟩ : ∃ C, recC x = C := ⟨_, rfl⟩; rw [hCX] at hbx hci hcz hco hfin; rw [hRX] at hbx hix HX3; have HBX := Lib.hid hbx; have HIC := Lib.hid hci; have HZC := Lib.hid hcz; have HOC := Lib.hid hco; have HFX := Lib.hid hfin; have HIX := Lib.hid hix; have HCX := Lib.hid hCX; clear hbx hci hcz hco hfin hix hCX hRX hany hst; go_wp2_with (first | (refine wpList_load_row rfl 102 _ rfl p rfl 102 _ _ _ HX3.out Try.underlying102 rfl HIX.out ?_) | (refine wpList_build_on (by rfl) 104 _ rfl #[(0, .agg RX), (1, .bool false)] (by simp [Act.eval, Act.put]) _ HBX.out ?_) | (refine wpList_store_row rfl 104 _ _ rfl w.heap.size CX rfl rfl 104 CZ HR3.out HIC.out HZC.out HOC.out ?_)); obtain ⟨r1, r2⟩ := HFX.out; refine bodyPost_ret (res_row rfl _ _ w.heap.size 104 CX _ _ rfl r2 Try.underlying104 rfl HIC.out) rfl ?_; exact ⟨by rw [HCX.out], r1⟩
          · obtain rfl : j = n1 := by omega
            have hall : (l.drop (k + 1)).any (mates x) = false := by
              rw [List.any_eq_false]; intro y hy; have := HNO.out y (by rw [List.take_of_length_le (by rw [HN1.out]; exact Nat.le_refl _)]; exact hy); simp [this]
            have hst := HST.out; rw [hall, if_neg (by simp), HFP.out] at hst; have HST2 := Lib.hid hst; clear hall hst; go_wp2
            first | exact ⟨⟨k + 1, by omega, by go_num, HST2.out.symm, HB1.out.trans (HBI.out.mono HB1.out.size)⟩, by simp [intOf]; omega⟩ | (go_roundw; exact ⟨k + 1, by omega, by go_num, HST2.out.symm, HB1.out.trans (HBI.out.mono HB1.out.size)⟩; simp [intOf]; omega)
    · obtain rfl : k = m := by omega
      obtain ⟨x, hx⟩ : ∃ x, l[0]? = some x := ⟨_, List.getElem?_eq_getElem (by rw [HM.out]; omega)⟩; have HQX := Lib.hid (HI.out.all x (List.mem_of_getElem? hx)); have HGX : Hid (wr.rangeAt b o (recC x).toList) := Lib.hid (by have := Rl2.rowOf_range (HI0.out.below HBR.out) kinRec.size hx; simpa using this); have hfp := HFP.out; rw [List.drop_of_length_le (by rw [HM.out]; exact Nat.le_refl _)] at hfp; have hcr := HCR.out; rw [choose_none hfp.symm hx] at hcr; subst hcr; have hbx := HBC.out x true HQX.out; have hci := HCI.out ⟨x, true⟩ HQX.out; have hcz := HCZ.out ⟨x, true⟩ HQX.out; have hco := HCO.out ⟨x, true⟩ HQX.out; have hfin := HFIN.out wr ⟨x, true⟩ HQX.out HBR.out; have hix := HRL.out x HQX.out; have HR3 := Lib.hid ((HBR.out.block _ z0).trans HR0.out); obtain ⟨CX, hCX⟩ : ∃ C, chC ⟨x, true⟩ = C := ⟨_, rfl⟩; obtain ⟨RX, hRX⟩ : ∃ C, recC x = C := ⟨_, rfl⟩; rw [hCX] at hbx hci hcz hco hfin; rw [hRX] at hbx hix HGX; have HBX := Lib.hid hbx; have HIC := Lib.hid hci; have HZC := Lib.hid hcz; have HOC := Lib.hid hco; have HFX := Lib.hid hfin; have HIX := Lib.hid hix; have HCX := Lib.hid hCX; clear hbx hci hcz hco hfin hix hCX hRX hx hfp; go_wp2_with (first | (refine wpList_load_mid rfl 102 _ rfl b o rfl RX.toList _ HGX.out Try.underlying102 rfl HIX.out ?_) | (refine wpList_build_on (by rfl) 104 _ rfl #[(0, .agg RX), (1, .bool true)] (by simp [Act.eval, Act.put]) _ HBX.out ?_) | (refine wpList_store_row rfl 104 _ _ rfl w.heap.size CX rfl rfl 104 CZ HR3.out HIC.out HZC.out HOC.out ?_)); obtain ⟨r1, r2⟩ := HFX.out; refine bodyPost_ret (res_row rfl _ _ w.heap.size 104 CX _ _ rfl r2 Try.underlying104 rfl HIC.out) rfl ?_; exact ⟨by rw [HCX.out], r1⟩
end Go.Proofs.Ytoiephmngdecaaa
namespace Go.Rv
open Go.RowKit
def Obls3 (P : Program) (ops : Array Oper) (Q : Exit → Act → World → Prop) (A : (Nat → Value) → Act) (n : Nat) (J : Array Bool → (Nat → Value) → World → Prop) : Prop :=
  ∀ (i : Nat) (o : Oper), i < n → ops[i]? = some o → ∀ (listed : Array Bool) (v : Nat → Value) (w : World) (K : Act → World → Prop), listed.getD i true = false → (∀ e ∈ o.after, Region.binds .any e = true → listed.getD e.on false = true) → J listed v w →
    Hid (∀ u w', J (listed.setIfInBounds i true) (upd v i u) w' → K ((A v).put o.dst u) w') → wpList P ops (Exit.then K Q) [o] (A v) w
theorem conf3_walk {P : Program} {ops : Array Oper} {Q : Exit → Act → World → Prop} {a0 : Act} {n : Nat} {J : Array Bool → (Nat → Value) → World → Prop} {A : (Nat → Value) → Act} (hok : confOk ops n = true)
    (hA : ∀ v, putAll v 0 (ops.toList.take n) a0 = A v) (ho : Obls3 P ops Q A n J)
    (hend : ∀ v w, J (headListed n (ops.size - n)) v w → wpList P ops Q (ops.toList.drop n) (A v) w) :
    ∀ (f : Nat) (listed : Array Bool) (v : Nat → Value) (w : World), HeadInv .any ops n listed → unl listed n = f → J listed v w →
      wpAny P .any ops Q (f + (ops.size - n)) listed (A v) w := by
  simp only [confOk, Bool.and_eq_true, decide_eq_true_eq] at hok; obtain ⟨⟨⟨⟨⟨hd, hbk⟩, hn⟩, hs⟩, hc⟩, hq⟩ := hok; intro f
  induction f with
  | zero =>
    intro listed v w inv hu hJ; have hall := unl_zero hu
    have hl : listed = headListed n (ops.size - n) := by
      apply Array.ext
      · simp only [headListed, List.size_toArray, List.length_append, List.length_replicate]; rw [inv.size]; omega
      · intro i h1 h2; have e1 : listed[i] = listed.getD i true := by simp [h1]
        by_cases hin : i < n
        · rw [e1, hall i hin]; simp only [headListed, List.getElem_toArray]; rw [List.getElem_append_left (by simpa using hin)]; simp
        · rw [e1, inv.tail i (by omega) (by rw [← inv.size]; exact h1)]; simp only [headListed, List.getElem_toArray]; rw [List.getElem_append_right (by simpa using Nat.le_of_not_lt hin)]; simp
    rw [Nat.zero_add]; have hlen : (ops.toList.drop n).length = ops.size - n := by simp
    rw [← hlen]; refine wpAny_of_seq (ops.toList.drop n) n listed (A v) w (fun j => by simp) (by rw [hlen, hl]; exact hq) (hend v w (by rw [← hl]; exact hJ))
  | succ f ih =>
    intro listed v w inv hu hJ; obtain ⟨i0, hi0, hun0, hbef⟩ := unl_pos (listed := listed) (k := n) (by omega); have hnt := tail_waits hs hc hn inv _ i0 rfl hi0 hun0; rw [show f + 1 + (ops.size - n) = (f + (ops.size - n)) + 1 by omega]; refine ⟨fun h => ?_, fun i hi => ?_⟩
    · exfalso; have hlt : i0 < ops.size := by omega
      have hr : i0 ∈ Region.ready .any ops listed := mem_ready.2 ⟨hun0, ops[i0], by simp, fun e he hb => by
        have hlt2 := edgesBack_spec hbk (i := i0) (o := ops[i0]) (by simp) e he hb; have h1 := hbef e.on (by omega); have hes : e.on < listed.size := by rw [inv.size]; omega
        simp [hes] at h1 ⊢; exact h1⟩
      rw [h] at hr; cases hr
    · have hin : i < n := by
        rcases Nat.lt_or_ge i n with h | h
        · exact h
        · exact absurd hi (hnt i h)
      obtain ⟨hui, o, hoi, hdep⟩ := mem_ready.1 hi; have hoi' : (ops.toList.take n)[i]? = some o := by simp [hin, hoi]
      refine wpOp_of_list hoi (ho i o hin hoi listed v w _ hui (fun e he hb => hdep e he hb) hJ (Lib.hid ?_)); intro u w' hJ'; rw [← hA v, putAll_upd (k := 0) hd hoi', hA, Nat.zero_add]; refine ih (listed.setIfInBounds i true) (upd v i u) w' (inv.set hi hin) ?_ hJ'; have := (unl_set hui (k := n)).1 hin; omega
/-- the law with one assertion of all slots, of what is over and of the world: an operation may write what the region has made -/
theorem wp_region_conf3 {P : Program} {ops : Array Oper} {Q : Exit → Act → World → Prop} {a0 : Act} {w0 : World} {id : Nat} (n : Nat) (J : Array Bool → (Nat → Value) → World → Prop) (A : (Nat → Value) → Act) (hm : P.follows .mixedOrders = true) (hok : confOk ops n = true)
    (hA : ∀ v, putAll v 0 (ops.toList.take n) a0 = A v) (ho : Obls3 P ops Q A n J) (hstart : ∀ v, J (Array.replicate ops.size false) v w0.drew)
    (hend : ∀ v w, J (headListed n (ops.size - n)) v w → wpList P ops Q (ops.toList.drop n) (A v) w) : (Code.region id ops true).wp P Q a0 w0 := by
  have hok' := hok; simp only [confOk, Bool.and_eq_true, decide_eq_true_eq] at hok'; obtain ⟨⟨⟨⟨⟨hd, _⟩, hn⟩, _⟩, _⟩, _⟩ := hok'; obtain ⟨v, hv⟩ := putAll_self (k := 0) (a := a0) hd
  have inv0 : HeadInv .any ops n (Array.replicate ops.size false) :=
    ⟨by simp, fun j oj _ hl => (by rw [getD_replicate_false] at hl; cases hl), fun t _ ht => getD_in (by simpa using ht) (getD_replicate_false _ _)⟩
  have hu : ∀ k, k ≤ n → unl (Array.replicate ops.size false) k = k := by
    intro k
    induction k with
    | zero => intro _; rfl
    | succ k ih =>
      intro hk; simp only [unl]; rw [ih (by omega), getD_in (by simp; omega) (getD_replicate_false _ _)]; simp
  have h := conf3_walk hok hA ho hend n _ v w0.drew inv0 (hu n (Nat.le_refl _)) (hstart v); rw [← hA v, hv, show n + (ops.size - n) = ops.size by omega] at h; exact wp_region_any hm h
end Go.Rv
namespace Go.Rv
open Go.RowKit
set_option linter.unusedVariables false
def DepsV (V : List Value) (v : Nat → Value) : List Edge → Prop
  | [] => True
  | e :: r => (Region.binds .any e = true → v e.on = V.getD e.on undef) ∧ DepsV V v r
/-- lower bounds of the stage: an operation that is over, or may begin, tells that so many of the list are over -/
def loOk (ms lo : List Nat) : Nat → List Oper → Bool
  | _, [] => true
  | i, o :: r => (lo.getD i 0 == 0 || (match ms.idxOf? i with | some k => decide (lo.getD i 0 ≤ k + 1) | none => o.after.any fun e => Region.binds .any e && decide (lo.getD i 0 ≤ lo.getD e.on 0))) && loOk ms lo (i + 1) r
theorem loOk_at {ms lo : List Nat} : ∀ {k : Nat} {l : List Oper}, loOk ms lo k l = true → ∀ {i : Nat} {o : Oper}, l[i]? = some o → lo.getD (k + i) 0 = 0 ∨ (∃ m, ms.idxOf? (k + i) = some m ∧ lo.getD (k + i) 0 ≤ m + 1) ∨ (ms.idxOf? (k + i) = none ∧ ∃ e ∈ o.after, Region.binds .any e = true ∧ lo.getD (k + i) 0 ≤ lo.getD e.on 0)
  | _, [], _, _, _, h => by simp at h
  | k, x :: r, h, 0, o, ho => by
    simp at ho; subst ho; simp only [loOk, Bool.and_eq_true, Bool.or_eq_true, beq_iff_eq] at h; rcases h.1 with h1 | h1
    · exact .inl h1
    · cases hm : ms.idxOf? k with
      | some m =>
        rw [hm] at h1; exact .inr (.inl ⟨m, by rw [← hm], by simpa using h1⟩)
      | none =>
        rw [hm] at h1; obtain ⟨e, he, h3⟩ := Array.any_eq_true.1 h1; rw [Bool.and_eq_true, decide_eq_true_eq] at h3; exact .inr (.inr ⟨by rw [← hm], x.after[e], Array.getElem_mem _, h3⟩)
  | k, x :: r, h, i + 1, o, ho => by
    simp only [loOk, Bool.and_eq_true] at h; have := loOk_at h.2 (i := i) (o := o) (by simpa using ho)
    rwa [show k + 1 + i = k + (i + 1) by omega] at this
def Obl5 (P : Program) (ops : Array Oper) (Q : Exit → Act → World → Prop) (A : (Nat → Value) → Act) (V : List Value) (ms lo : List Nat) (I : Nat → World → Prop) (i : Nat) (o : Oper) : Prop :=
  match ms.idxOf? i with
  | none => ∀ (v : Nat → Value) (w : World) (K : Act → World → Prop) (s : Nat), lo.getD i 0 ≤ s → I s w → DepsV V v o.after.toList →
      Hid (∀ u w', Below w.heap.size w w' → u = V.getD i undef → K ((A v).put o.dst u) w') → wpList P ops (Exit.then K Q) [o] (A v) w
  | some k => ∀ (v : Nat → Value) (w : World) (K : Act → World → Prop), I k w → DepsV V v o.after.toList →
      Hid (∀ u w', I (k + 1) w' → u = V.getD i undef → K ((A v).put o.dst u) w') → wpList P ops (Exit.then K Q) [o] (A v) w
def Obls5 (P : Program) (ops : Array Oper) (Q : Exit → Act → World → Prop) (A : (Nat → Value) → Act) (V : List Value) (ms lo : List Nat) (I : Nat → World → Prop) : Nat → List Oper → Prop
  | _, [] => True
  | i, o :: r => Obl5 P ops Q A V ms lo I i o ∧ Obls5 P ops Q A V ms lo I (i + 1) r
theorem Obls5.at {P : Program} {ops : Array Oper} {Q : Exit → Act → World → Prop} {A : (Nat → Value) → Act} {V : List Value} {ms lo : List Nat} {I : Nat → World → Prop} : ∀ {k : Nat} {l : List Oper}, Obls5 P ops Q A V ms lo I k l → ∀ {i : Nat} {o : Oper}, l[i]? = some o → Obl5 P ops Q A V ms lo I (k + i) o
  | _, [], _, _, _, h => by simp at h
  | k, _ :: r, h, 0, _, ho => by simp at ho; subst ho; exact h.1
  | k, _ :: r, h, i + 1, _, ho => by
    have := Obls5.at h.2 (i := i) (by simpa using ho)
    rwa [show k + 1 + i = k + (i + 1) by omega] at this
/-- each operation of the list but the first one waits for the one before it -/
def chainMs (ops : Array Oper) : List Nat → Bool
  | [] => true
  | [_] => true
  | a :: b :: r => (match ops[b]? with | some o => o.after.any fun e => Region.binds .any e && e.on == a | none => false) && chainMs ops (b :: r)
def incMs (n : Nat) : List Nat → Bool
  | [] => true
  | [a] => decide (a < n)
  | a :: b :: r => decide (a < b) && incMs n (b :: r)
theorem chainMs_at {ops : Array Oper} : ∀ {ms : List Nat}, chainMs ops ms = true → ∀ {k a b : Nat}, ms[k]? = some a → ms[k + 1]? = some b → ∃ o, ops[b]? = some o ∧ ∃ e ∈ o.after, Region.binds .any e = true ∧ e.on = a
  | [], _, k, a, b, h, _ => by simp at h
  | [x], _, k, a, b, _, h => by simp at h
  | x :: y :: r, hc, 0, a, b, h1, h2 => by
    simp at h1 h2; subst h1 h2; simp only [chainMs, Bool.and_eq_true] at hc
    cases ho : ops[y]? with
    | none => rw [ho] at hc; simp at hc
    | some o =>
      rw [ho] at hc; obtain ⟨e, he, h3⟩ := Array.any_eq_true.1 hc.1; rw [Bool.and_eq_true, beq_iff_eq] at h3; exact ⟨o, rfl, o.after[e], Array.getElem_mem _, h3⟩
  | x :: y :: r, hc, k + 1, a, b, h1, h2 => by
    simp only [chainMs, Bool.and_eq_true] at hc; exact chainMs_at hc.2 (k := k) (by simpa using h1) (by simpa using h2)
theorem incMs_lt {n : Nat} : ∀ {ms : List Nat}, incMs n ms = true → ∀ {k a : Nat}, ms[k]? = some a → a < n ∧ ∀ j b, k < j → ms[j]? = some b → a < b
  | [], _, k, a, h => by simp at h
  | [x], hc, k, a, h => by
    match k, h with
    | 0, h =>
      simp at h; subst h; simp only [incMs, decide_eq_true_eq] at hc
      exact ⟨hc, fun j b hj hb => by
        have := (List.getElem?_eq_some_iff.1 hb).1; simp at this; omega⟩
  | x :: y :: r, hc, k, a, h => by
    simp only [incMs, Bool.and_eq_true, decide_eq_true_eq] at hc
    match k, h with
    | 0, h =>
      simp at h; subst h; have hy := incMs_lt hc.2 (k := 0) (a := y) (by simp); refine ⟨by omega, fun j b hj hb => ?_⟩
      match j, hj, hb with
      | 1, _, hb => simp at hb; omega
      | j + 2, _, hb =>
        have := hy.2 (j + 1) b (by omega) (by simpa using hb); omega
    | k + 1, h =>
      obtain ⟨h1, h2⟩ := incMs_lt hc.2 (k := k) (a := a) (by simpa using h)
      exact ⟨h1, fun j b hj hb => by
        match j, hj, hb with
        | j + 1, hj, hb => exact h2 j b (by omega) (by simpa using hb)⟩
theorem incMs_inj {n : Nat} {ms : List Nat} (h : incMs n ms = true) {j k a : Nat} (hj : ms[j]? = some a) (hk : ms[k]? = some a) : j = k := by
  by_cases h1 : j < k
  · have := (incMs_lt h hj).2 k a h1 hk; omega
  · by_cases h2 : k < j
    · have := (incMs_lt h hk).2 j a h2 hj; omega
    · omega
theorem idx_none {ms : List Nat} {i : Nat} (h : ms.idxOf? i = none) : ∀ k : Nat, ms[k]? ≠ some i := by
  intro k hk; have := List.mem_of_getElem? hk; rw [List.idxOf?_eq_none_iff] at h; exact h this
theorem idx_some : ∀ {ms : List Nat} {i k : Nat}, ms.idxOf? i = some k → ms[k]? = some i
  | [], i, k, h => by simp at h
  | x :: r, i, k, h => by
    rw [List.idxOf?_cons] at h; split at h
    · rename_i hx; simp at h hx; subst h hx; rfl
    · simp only [Option.map_eq_some_iff] at h; obtain ⟨j, hj, rfl⟩ := h; simpa using idx_some hj
theorem wp_region_stage {P : Program} {ops : Array Oper} {Q : Exit → Act → World → Prop} {a0 : Act} {w0 : World} {id : Nat} (n : Nat) (V : List Value) (ms lo : List Nat) (I : Nat → World → Prop) (A : (Nat → Value) → Act) (hm : P.follows .mixedOrders = true) (hok : confOk ops n = true) (hms : (chainMs ops ms && incMs n ms && loOk ms lo 0 (ops.toList.take n)) = true)
    (hA : ∀ v, putAll v 0 (ops.toList.take n) a0 = A v) (h0 : I 0 w0.drew) (hIb : ∀ s w w', I s w → Below w.heap.size w w' → I s w') (ho : Obls5 P ops Q A V ms lo I 0 (ops.toList.take n))
    (hend : ∀ v w, I ms.length w → (∀ j, j < n → v j = V.getD j undef) → wpList P ops Q (ops.toList.drop n) (A v) w) : (Code.region id ops true).wp P Q a0 w0 := by
  rw [Bool.and_eq_true, Bool.and_eq_true] at hms; obtain ⟨⟨hch, hinc⟩, hlok⟩ := hms; refine wp_region_conf3 n (fun L v w => (∀ j, j < n → L.getD j false = true → v j = V.getD j undef) ∧ ∃ s, (∀ k m, ms[k]? = some m → (L.getD m false = true ↔ k < s)) ∧ s ≤ ms.length ∧ (∀ j, j < n → L.getD j false = true → lo.getD j 0 ≤ s) ∧ I s w) A hm hok hA ?_ ?_ ?_
  · intro i o hin hoi L v w K hui hdep ⟨hv, s, hs, hsl, hls, hI⟩ HK
    have hilt : i < L.size := by
      rcases Nat.lt_or_ge i L.size with h | h
      · exact h
      · simp [Array.getElem?_eq_none h] at hui
    have hif : L.getD i false = false := by simp [hilt] at hui ⊢; exact hui
    have hit : (L.setIfInBounds i true).getD i false = true := by simp [hilt]
    have hdv : ∀ l : List Edge, (∀ e ∈ l, e ∈ o.after) → DepsV V v l := by
      intro l
      induction l with
      | nil => intro _; exact trivial
      | cons e r ihl =>
        intro hl; refine ⟨fun hb => hv e.on ?_ (hdep e (hl e (by simp)) hb), ihl fun x hx => hl x (by simp [hx])⟩
        have hbk : edgesBack 0 ops.toList = true := by
          simp only [confOk, Bool.and_eq_true] at hok; exact hok.1.1.1.1.2
        have := edgesBack_spec hbk (i := i) (o := o) (by simpa using hoi) e (hl e (by simp)) hb; omega
    have hdv := hdv o.after.toList (fun e he => by simpa using he); have ob := ho.at (i := i) (o := o) (by simp [hin, hoi]); rw [Nat.zero_add] at ob
    have hv' : ∀ u, u = V.getD i undef → ∀ j, j < n → (L.setIfInBounds i true).getD j false = true → upd v i u j = V.getD j undef := fun u hu j hj hl => by
      by_cases hji : j = i
      · subst hji; rw [show upd v j u j = u by simp [upd], hu]
      · rw [show upd v i u j = v j by simp [upd, hji]]; rw [getD_set_ne false (Ne.symm hji)] at hl; exact hv j hj hl
    unfold Obl5 at ob; split at ob
    · rename_i hno
      have hlo : lo.getD i 0 ≤ s := by
        have hat := loOk_at hlok (i := i) (o := o) (by simp [hin, hoi]); rw [Nat.zero_add] at hat; rcases hat with h | ⟨m, h, _⟩ | ⟨_, e, he, hb, h⟩
        · omega
        · rw [hno] at h; cases h
        · have hbk : edgesBack 0 ops.toList = true := by
            simp only [confOk, Bool.and_eq_true] at hok; exact hok.1.1.1.1.2
          have := edgesBack_spec hbk (i := i) (o := o) (by simpa using hoi) e he hb; have := hls e.on (by omega) (hdep e he hb); omega
      refine ob v w K s hlo hI hdv (Lib.hid fun u w' hB hu => HK.out u w' ⟨hv' u hu, s, fun k m hk => ?_, hsl, fun j hj hl => ?_, hIb s w w' hI hB⟩)
      · rw [getD_set_ne false (fun e => idx_none hno k (by rw [hk, e]))]; exact hs k m hk
      · by_cases hji : j = i
        · rw [hji]; exact hlo
        · rw [getD_set_ne false (Ne.symm hji)] at hl; exact hls j hj hl
    · rename_i k0 hsome; have hk0 := idx_some hsome; have hkl : k0 < ms.length := (List.getElem?_eq_some_iff.1 hk0).1
      have hsk : s = k0 := by
        have h1 : ¬ k0 < s := fun h => by
          have := (hs k0 i hk0).2 h; rw [hif] at this; cases this
        match k0, hk0, h1 with
        | 0, _, h1 => omega
        | j + 1, hk0, h1 =>
          obtain ⟨a, ha⟩ : ∃ a, ms[j]? = some a := ⟨_, List.getElem?_eq_getElem (by have := (List.getElem?_eq_some_iff.1 hk0).1; omega)⟩; obtain ⟨o', ho', e, he, hb, hea⟩ := chainMs_at hch ha hk0; rw [hoi] at ho'; cases ho'; have h2 := hdep e he hb; rw [hea] at h2; have := (hs j a ha).1 h2; omega
      subst hsk; refine ob v w K hI hdv (Lib.hid fun u w' hI' hu => HK.out u w' ⟨hv' u hu, s + 1, fun k m hk => ?_, by omega, fun j hj hl => ?_, hI'⟩)
      · by_cases e : m = i
        · subst e; have := incMs_inj hinc hk hk0; subst this; rw [hit]; simp
        · rw [getD_set_ne false (Ne.symm e), hs k m hk]
          have : k ≠ s := fun h => by
            rw [h, hk0] at hk; cases hk; exact e rfl
          omega
      · by_cases hji : j = i
        · subst hji; have hat := loOk_at hlok (i := j) (o := o) (by simp [hin, hoi]); rw [Nat.zero_add] at hat; rcases hat with h | ⟨m, h, h'⟩ | ⟨h, _⟩
          · omega
          · rw [hsome] at h; cases h; exact h'
          · rw [hsome] at h; cases h
        · rw [getD_set_ne false (Ne.symm hji)] at hl; have := hls j hj hl; omega
  · intro v; refine ⟨fun j hj hl => (by rw [getD_replicate_false] at hl; cases hl), 0, fun k m hk => ?_, Nat.zero_le _, fun j hj hl => (by rw [getD_replicate_false] at hl; cases hl), h0⟩; rw [getD_replicate_false]; simp
  · intro v w ⟨hv, s, hs, hsl, _, hI⟩
    have hall : ∀ j, j < n → (headListed n (ops.size - n)).getD j false = true := fun j hj => by
      simp only [headListed]; rw [Array.getD_eq_getD_getElem?, List.getElem?_toArray, List.getElem?_append_left (by simpa using hj)]; simp [hj]
    have hsn : s = ms.length := by
      rcases Nat.lt_or_ge s ms.length with h | h
      · have h1 : ms[s]? = some ms[s] := List.getElem?_eq_getElem h; have h2 := (hs s _ h1).1 (hall _ (incMs_lt hinc h1).1); omega
      · omega
    subst hsn; exact hend v w hI (fun j hj => hv j hj (hall j hj))
theorem conf5Rules : (∀ (V : List Value) (v : Nat → Value), DepsV V v [] = True) ∧ (∀ (V : List Value) (v : Nat → Value) (e : Edge) (r : List Edge), DepsV V v (e :: r) = ((Region.binds .any e = true → v e.on = V.getD e.on undef) ∧ DepsV V v r)) ∧ (∀ (x : Value) l d, (x :: l).getD 0 d = x) ∧ (∀ (x : Value) l n d, (x :: l).getD (n + 1) d = l.getD n d) :=
  ⟨fun _ _ => rfl, fun _ _ _ _ => rfl, fun _ _ _ => rfl, fun _ _ _ _ => rfl⟩
end Go.Rv
namespace Go.Rv
open Go.RowKit
set_option linter.unusedVariables false
/-- a slot's fact, that stands while none but the blocks of S are turned -/
structure FactS (S : List Nat) where
  p : Value → World → Prop
  st : ∀ u w w', p u w → Only S w w' → p u w'
def FactS.eq {S : List Nat} (x : Value) : FactS S := ⟨fun u _ => u = x, fun _ _ _ h _ => h⟩
def fpS {S : List Nat} (F : List (FactS S)) (j : Nat) (u : Value) (w : World) : Prop := (F.getD j (FactS.eq undef)).p u w
theorem fpS.st {S : List Nat} {F : List (FactS S)} {j : Nat} {u : Value} {w w' : World} (h : fpS F j u w) (hO : Only S w w') : fpS F j u w' := (F.getD j (FactS.eq undef)).st u w w' h hO
def DepsS {S : List Nat} (F : List (FactS S)) (v : Nat → Value) (w : World) : List Edge → Prop
  | [] => True
  | e :: r => (Region.binds .any e = true → fpS F e.on (v e.on) w) ∧ DepsS F v w r
def Obl6 {S : List Nat} (P : Program) (ops : Array Oper) (Q : Exit → Act → World → Prop) (A : (Nat → Value) → Act) (F : List (FactS S)) (ms lo : List Nat) (I : Nat → World → Prop) (i : Nat) (o : Oper) : Prop :=
  match ms.idxOf? i with
  | none => ∀ (v : Nat → Value) (w : World) (K : Act → World → Prop) (s : Nat), lo.getD i 0 ≤ s → I s w → DepsS F v w o.after.toList →
      Hid (∀ u w', Below w.heap.size w w' → fpS F i u w' → K ((A v).put o.dst u) w') → wpList P ops (Exit.then K Q) [o] (A v) w
  | some k => ∀ (v : Nat → Value) (w : World) (K : Act → World → Prop), I k w → DepsS F v w o.after.toList →
      Hid (∀ u w', I (k + 1) w' → Only S w w' → fpS F i u w' → K ((A v).put o.dst u) w') → wpList P ops (Exit.then K Q) [o] (A v) w
def Obls6 {S : List Nat} (P : Program) (ops : Array Oper) (Q : Exit → Act → World → Prop) (A : (Nat → Value) → Act) (F : List (FactS S)) (ms lo : List Nat) (I : Nat → World → Prop) : Nat → List Oper → Prop
  | _, [] => True
  | i, o :: r => Obl6 P ops Q A F ms lo I i o ∧ Obls6 P ops Q A F ms lo I (i + 1) r
theorem Obls6.at {S : List Nat} {P : Program} {ops : Array Oper} {Q : Exit → Act → World → Prop} {A : (Nat → Value) → Act} {F : List (FactS S)} {ms lo : List Nat} {I : Nat → World → Prop} : ∀ {k : Nat} {l : List Oper}, Obls6 P ops Q A F ms lo I k l → ∀ {i : Nat} {o : Oper}, l[i]? = some o → Obl6 P ops Q A F ms lo I (k + i) o
  | _, [], _, _, _, h => by simp at h
  | k, _ :: r, h, 0, _, ho => by simp at ho; subst ho; exact h.1
  | k, _ :: r, h, i + 1, _, ho => by
    have := Obls6.at h.2 (i := i) (by simpa using ho)
    rwa [show k + 1 + i = k + (i + 1) by omega] at this
theorem conf6Rules {S : List Nat} : (∀ (F : List (FactS S)) (v : Nat → Value) (w : World), DepsS F v w [] = True) ∧ (∀ (F : List (FactS S)) (v : Nat → Value) (w : World) (e : Edge) (r : List Edge), DepsS F v w (e :: r) = ((Region.binds .any e = true → fpS F e.on (v e.on) w) ∧ DepsS F v w r)) ∧ (∀ (x : FactS S) l u w, fpS (x :: l) 0 u w = x.p u w) ∧ (∀ (x : FactS S) l n u w, fpS (x :: l) (n + 1) u w = fpS l n u w) ∧ (∀ (x u : Value) (w : World), (FactS.eq (S := S) x).p u w = (u = x)) :=
  ⟨fun _ _ _ => rfl, fun _ _ _ _ _ => rfl, fun _ _ _ _ => rfl, fun _ _ _ _ _ => rfl, fun _ _ _ => rfl⟩
end Go.Rv
