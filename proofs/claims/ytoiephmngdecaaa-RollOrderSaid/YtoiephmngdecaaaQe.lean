/- Proved here, one behind the other: Proved here: plain facts on what a log says: what plays no part, what is cut off, what stays; Proved here: which of some records counts (choose); A law over any program: a region that draws its order, its operations looked at once each, under one assertion of the slots, of what is over and of the world; A law over any program: a region that draws its order and in which a few operations, each behind the one before it, turn the world stage by stage; each operation is looked at once; A law over any program: a region that draws its order, in which a few operations, each behind the one before it, turn some blocks stage by stage, and others make blocks; each operation is looked at once, each slot has a fact; A law over any program: a region that draws its order, in which one operation may turn the blocks of a list, others make blocks; none but what comes last leans on that one; what it gives is told of the world in which it stands; Laws over any program: an operation of a region whose guard says no, or is itself left out; Proved here: a Data is taken (the roller's data); Proved here: contracts of the document's Right of an entry, and of the law's turn of an entry; Proved here: the contract of the document's Read: the number of bytes; Proved here: the contract of the document's entry of a body (Of); Proved here: the contract of the document's Num: a number's bytes, in memory of the call's own; Proved here: the contract of the document's Body of an entry; '==' of the document's entries; what an entry of a frame comes to; Proved here: the entry of a record (roll's Record). -/
import Derived.LoopTactic
import Derived.Great.BuildSlice
import Derived.Deep.MidRow
import Derived.Test.YtoiephmngdecaaaQa
import Derived.Test.YtoiephmngdecaaaQb
import Derived.Test.YtoiephmngdecaaaQc
import Derived.Test.YtoiephmngdecaaaQd
namespace Go.Proofs.Ytoiephmngdecaaa
open Go.RowKit Go.Rv Frm
set_option linter.unusedVariables false
namespace Rl
theorem recs_append (g : Geo.G) (epoch next : Int) (a b : List Fnd) : recs g epoch next (a ++ b) = recs g epoch next a ++ recs g epoch next b := by
  unfold recs
  rw [List.filterMap_append]
theorem recF_none {g : Geo.G} {epoch next : Int} {f : Fnd} (h : f.fr.epoch ≠ epoch ∨ f.fr.seq < next) : recF g epoch next f = none := by
  unfold recF
  rcases h with h | h
  · have : recE g epoch f = none := by
      unfold recE
      rw [if_neg (fun hh => h hh.2.1)]
    rw [this]
  · split
    · rfl
    · rw [if_pos h]
theorem recs_none {g : Geo.G} {epoch next : Int} {l : List Fnd} (h : ∀ f ∈ l, f.fr.epoch ≠ epoch ∨ f.fr.seq < next) : recs g epoch next l = [] := by
  unfold recs
  rw [List.filterMap_eq_nil_iff]
  exact fun f hf => recF_none (h f hf)
theorem recF_seq {g : Geo.G} {epoch next : Int} {f : Fnd} {x : Int × Rec} (h : recF g epoch next f = some x) : x.1 = f.fr.seq ∧ next ≤ x.1 := by
  unfold recF at h
  split at h
  · cases h
  · split at h
    · cases h
    · simp only [Option.some.injEq] at h
      subst h
      exact ⟨rfl, by simp only; omega⟩
theorem recs_cut (g : Geo.G) (epoch next cut : Int) : ∀ l : List Fnd, recs g epoch next (l.filter fun f => decide (f.fr.seq < cut)) = (recs g epoch next l).filter fun x => decide (x.1 < cut)
  | [] => rfl
  | f :: l => by
    have ih := recs_cut g epoch next cut l
    unfold recs at ih ⊢
    rw [List.filter_cons, List.filterMap_cons]
    cases hf : recF g epoch next f with
    | none =>
      simp only
      split
      · rw [List.filterMap_cons, hf]; exact ih
      · exact ih
    | some x =>
      have hx := (recF_seq hf).1
      simp only
      rw [List.filter_cons]
      by_cases hc : f.fr.seq < cut
      · rw [if_pos (by simpa using hc), if_pos (by rw [hx]; simpa using hc), List.filterMap_cons, hf]
        simp only
        rw [ih]
      · rw [if_neg (by simpa using hc), if_neg (by rw [hx]; simpa using hc)]
        exact ih
theorem atSeq_cut (R : List (Int × Rec)) (cut s : Int) : atSeq (R.filter fun x => decide (x.1 < cut)) s = if s < cut then atSeq R s else [] := by
  unfold atSeq
  rw [List.filter_filter]
  by_cases h : s < cut
  · rw [if_pos h]
    congr 1
    apply List.filter_congr
    intro x _
    by_cases hx : x.1 = s
    · simp [hx, h]
    · simp [hx]
  · rw [if_neg h, List.map_eq_nil_iff, List.filter_eq_nil_iff]
    intro x _
    by_cases hx : x.1 = s
    · simp [hx, h]
    · simp [hx]
theorem runLen_eq {R : List (Int × Rec)} {next : Int} {K : Nat} (h1 : ∀ k, k < K → atSeq R (next + (k : Nat)) ≠ []) (h2 : atSeq R (next + (K : Nat)) = []) : runLen R next = K := by
  rcases Nat.lt_trichotomy (runLen R next) K with h | h | h
  · exact absurd (runLen_none R next) (h1 _ h)
  · exact h
  · exact absurd h2 (runLen_some h)
theorem runLen_nil (next : Int) : runLen [] next = 0 := runLen_eq (fun k hk => by omega) rfl
theorem runLen_cut (R : List (Int × Rec)) (next cut : Int) : runLen (R.filter fun x => decide (x.1 < cut)) next = min (runLen R next) (cut - next).toNat := by
  apply runLen_eq
  · intro k hk
    rw [atSeq_cut, if_pos (by omega)]
    exact runLen_some (by omega)
  · rw [atSeq_cut]
    split
    · rename_i h
      have : min (runLen R next) (cut - next).toNat = runLen R next := by omega
      rw [this]
      exact runLen_none R next
    · rfl
theorem after_cut (g : Geo.G) (R : List (Int × Rec)) (next cut : Int) (st : St) : ∀ k : Nat, k ≤ (cut - next).toNat → after g (R.filter fun x => decide (x.1 < cut)) next st k = after g R next st k
  | 0, _ => rfl
  | k + 1, h => by
    unfold after
    rw [after_cut g R next cut st k (by omega), atSeq_cut, if_pos (by omega)]
theorem lieAll_applied (g : Geo.G) (first : Int) : ∀ (l : List Ch) (i : Nat) (st : St), (lieAll g first l i st).applied = st.applied
  | [], _, _ => rfl
  | c :: r, i, st => by
    unfold lieAll
    rw [lieAll_applied g first r]
    rfl
theorem trim_applied (g : Geo.G) : ∀ (n : Nat) (b : Int) (st : St), (trim g b n st).applied = st.applied
  | 0, _, _ => rfl
  | n + 1, b, st => by
    unfold trim
    rw [trim_applied g n]
theorem opened_applied (st : St) (seq : Int) (e : En.E) : (opened st seq e).applied = st.applied := by
  unfold opened
  split <;> rfl
theorem step_applied (g : Geo.G) (st : St) (seq : Int) (c : Ch) : st.applied ≤ (step g st seq c).applied ∧ (step g st seq c).applied ≤ st.applied + 1 := by
  unfold step
  split
  · unfold data
    have h1 := opened_applied st seq c.r.e
    simp only
    split
    · show st.applied ≤ (opened st seq c.r.e).applied ∧ (opened st seq c.r.e).applied ≤ st.applied + 1
      omega
    · split
      · show st.applied ≤ (opened st seq c.r.e).applied ∧ (opened st seq c.r.e).applied ≤ st.applied + 1
        omega
      · show st.applied ≤ (opened st seq c.r.e).applied + 1 ∧ (opened st seq c.r.e).applied + 1 ≤ st.applied + 1
        omega
  · unfold other
    simp only
    split
    · show st.applied ≤ st.applied + 1 ∧ st.applied + 1 ≤ st.applied + 1
      omega
    · rw [trim_applied]
      show st.applied ≤ st.applied + 1 ∧ st.applied + 1 ≤ st.applied + 1
      omega
theorem after_applied (g : Geo.G) (R : List (Int × Rec)) (next : Int) (st : St) : ∀ k d : Nat, (after g R next st k).applied ≤ (after g R next st (k + d)).applied ∧ (after g R next st (k + d)).applied ≤ (after g R next st k).applied + (d : Nat)
  | k, 0 => by simp
  | k, d + 1 => by
    have ih := after_applied g R next st k d
    have h := step_applied g (after g R next st (k + d)) (next + ((k + d : Nat) : Int)) (choose (atSeq R (next + ((k + d : Nat) : Int))))
    rw [show k + (d + 1) = (k + d) + 1 by omega]
    show _ ≤ (step g (after g R next st (k + d)) _ _).applied ∧ (step g (after g R next st (k + d)) _ _).applied ≤ _
    omega
/-- the lists keep their lengths -/
theorem lie_len (g : Geo.G) (st : St) (seq : Int) (c : Ch) : (lie g st seq c).es.length = st.es.length ∧ (lie g st seq c).single.length = st.single.length := by
  unfold lie
  exact ⟨setEs_length _ _ _ _, by simp⟩
theorem lieAll_len (g : Geo.G) (first : Int) : ∀ (l : List Ch) (i : Nat) (st : St), (lieAll g first l i st).es.length = st.es.length ∧ (lieAll g first l i st).single.length = st.single.length
  | [], _, _ => ⟨rfl, rfl⟩
  | c :: r, i, st => by
    unfold lieAll
    have h1 := lieAll_len g first r (i + 1) (lie g st (first + (i : Nat)) c)
    have h2 := lie_len g st (first + (i : Nat)) c
    exact ⟨h1.1.trans h2.1, h1.2.trans h2.2⟩
theorem trim_len (g : Geo.G) : ∀ (n : Nat) (b : Int) (st : St), (trim g b n st).es.length = st.es.length ∧ (trim g b n st).single.length = st.single.length
  | 0, _, _ => ⟨rfl, rfl⟩
  | n + 1, b, st => by
    unfold trim
    have h1 := trim_len g n (b + 1) { st with es := setEs g st.es b BE.zero, single := st.single.set b.toNat 0 }
    exact ⟨h1.1.trans (setEs_length _ _ _ _), h1.2.trans (by simp)⟩
end Rl
end Go.Proofs.Ytoiephmngdecaaa
namespace Go.Proofs.Ytoiephmngdecaaa
open Go.RowKit Go.Rv Rl
set_option linter.unusedVariables false
attribute [local go_sem] Oper.semAt_some
theorem built_ch (r : Rec) (b : Bool) (h : RecQ r) : Try.prog.built 104 [(0, .agg (recC r)), (1, .bool b)] = some (chC ⟨r, b⟩) := by
  obtain ⟨⟨k, f, c, bl, m, t, l⟩, z, o⟩ := r
  obtain ⟨fn, rfl⟩ := list_fn l 32 h.1
  kernel_rfl
namespace Rl2
theorem rowOf_drop {α : Type} {w : World} {n : Nat} {X : α → Array Value} {Q : α → Prop} {b o : Nat} {xs : List α} (h : RowOf w n X Q (some ⟨b, o, none⟩) xs) (k : Nat) : RowOf w n X Q (some ⟨b, o + k * n, none⟩) (xs.drop k) := by
  rcases h with rfl | ⟨b', o', e, hlt, hc⟩
  · exact .inl (by simp)
  · cases e
    refine .inr ⟨b, o + k * n, rfl, hlt, fun j x hj => ?_⟩
    rw [List.getElem?_drop] at hj
    have := hc (k + j) x hj
    refine ⟨fun i hi => ?_, this.2⟩
    rw [← this.1 i hi]
    congr 2
    rw [Nat.add_mul]
    omega
theorem rowOf_range {α : Type} {w : World} {n : Nat} {X : α → Array Value} {Q : α → Prop} {b o : Nat} {xs : List α} (h : RowOf w n X Q (some ⟨b, o, none⟩) xs) (hs : ∀ x, Q x → (X x).size = n) {k : Nat} {x : α} (hk : xs[k]? = some x) : w.rangeAt b (o + k * n) (X x).toList := fun j v hv => by
  obtain ⟨b', o', e, -, hc, hq⟩ := h.at hk
  cases e
  have hj : j < n := by
    have := (List.getElem?_eq_some_iff.1 hv).1
    rw [Array.length_toList, hs x hq] at this
    exact this
  rw [hc j hj, ← Array.getElem?_toList, hv]
end Rl2
namespace Rl
theorem firstPair_step {l : List Rec} {k : Nat} {x : Rec} (hx : l[k]? = some x) : firstPair (l.drop k) = if (l.drop (k + 1)).any (mates x) = true then some x else firstPair (l.drop (k + 1)) := by
  have hk := (List.getElem?_eq_some_iff.1 hx).1
  rw [List.drop_eq_getElem_cons hk]
  have : l[k] = x := by rw [List.getElem?_eq_getElem hk] at hx; exact Option.some.inj hx
  rw [this]
  rfl
theorem choose_pair {l : List Rec} {x : Rec} (h : firstPair l = some x) : choose l = ⟨x, false⟩ := by
  unfold choose
  rw [h]
theorem choose_none {l : List Rec} {x : Rec} (h : firstPair l = none) (hx : l[0]? = some x) : choose l = ⟨x, true⟩ := by
  unfold choose
  rw [h]
  cases l with
  | nil => simp at hx
  | cons y r => simp at hx; subst hx; rfl
end Rl
set_option maxRecDepth 100000 in
set_option maxHeartbeats 8000000 in
theorem rchoose_any (w : World) (b o : Nat) (l : List Rec) (cap : Nat) (hI : RowOf w 40 recC RecQ (some ⟨b, o, none⟩) l) (h0 : l ≠ []) (hl : l.length ≤ 1000) (hcap : l.length ≤ cap) (hcm : cap ≤ 9223372036854775807) :
    Calls Try.prog 30 #[.slice (some ⟨b, o, none⟩) l.length cap] w fun e w' => e = .returned (.agg (chC (Rl.choose l))) ∧ Below w.heap.size w w' := by
  have hz := (zero_of_info Try.infoRec).1
  have hzc := (zero_of_info Try.infoCh).1
  have HI := Lib.hid hI
  have HRI := Lib.hid (fun r (h : RecQ r) => size_rec h)
  have HRL : Hid (∀ r, RecQ r → (Try.prog.info? 102).map (·.size) = some (recC r).toList.length) := Lib.hid (fun r h => size_rec h)
  have HRZ : Hid (∀ r, RecQ r → (recC rec0).size = (recC r).size) := Lib.hid (fun r h => by rw [kinRec.size r h]; rfl)
  have HRO := Lib.hid (fun r h => kinRec.one r h)
  have HCI := Lib.hid (fun c (h : ChQ c) => size_ch h)
  have HCO := Lib.hid (fun c h => kinCh.one c h)
  have HCZ : Hid (∀ c, ChQ c → (chC ch0).size = (chC c).size) := Lib.hid (fun c h => by rw [kinCh.size c h]; rfl)
  have HMA := Lib.hid (fun a b W ha hb => rmates_any a b W ha hb)
  have HBC := Lib.hid (fun r b h => built_ch r b h)
  obtain ⟨CR, hCR⟩ : ∃ C, Rl.choose l = C := ⟨_, rfl⟩
  have HCR := Lib.hid hCR
  obtain ⟨m, hm⟩ : ∃ m, l.length = m := ⟨_, rfl⟩
  have hm1 : 1 ≤ m := by have := List.length_pos_iff.2 h0; omega
  have HM := Lib.hid hm
  rw [hm] at hl hcap ⊢
  rw [hCR]
  obtain ⟨CZ, hCZ⟩ : ∃ C, chC ch0 = C := ⟨_, rfl⟩
  obtain ⟨RZ, hRZ⟩ : ∃ C, recC rec0 = C := ⟨_, rfl⟩
  rw [hCZ] at hzc HCZ
  rw [hRZ] at hz HRZ
  obtain ⟨W0, hW0⟩ : ∃ W, w.alloc (.cells CZ 104) = W := ⟨_, rfl⟩
  have hb0 : Below w.heap.size w W0 := by rw [← hW0]; exact (Below.refl _ _).alloc (Nat.le_refl _) _
  have hr0 : W0.heap[w.heap.size]? = some (.cells CZ 104 (0, 0)) := by rw [← hW0]; exact heap_alloc_new w _
  have z0 : w.heap.size < W0.heap.size := (Array.getElem?_eq_some_iff.1 hr0).1
  have HW0 := Lib.hid hW0
  have HB0 := Lib.hid hb0
  have HR0 := Lib.hid hr0
  have HI0 := Lib.hid (hI.below hb0)
  have HFIN : Hid (∀ (W : World) (c : Ch), ChQ c → Below W0.heap.size W0 W → Below w.heap.size w (W.setRow w.heap.size (chC c)) ∧ (W.setRow w.heap.size (chC c)).heap[w.heap.size]? = some (.cells (chC c) 104 (0, 0))) := Lib.hid (fun W c hq hB => ⟨below_setRow (hb0.trans (hB.mono (by omega))) (Nat.le_refl _) _, setRow_heap _ _ _ _ _ _ ((hB.block _ z0).trans hr0)⟩)
  clear hI h0 hCR hm hCZ hRZ hW0 hb0 hr0
  go_enter Try.func30, Try.ntmps30
  go_upto_region 1 with (fail)
  rw [HW0.out]
  go_wp2
  go_loopw [9] (fun u wr => ∃ k : Nat, k ≤ m ∧ u = .int .i64 k ∧ firstPair (l.drop k) = firstPair l ∧ Below W0.heap.size W0 wr) (fun u _ => m - (intOf u).toNat)
  case atStart => exact ⟨0, Nat.zero_le _, rfl, rfl, Below.refl _ _⟩
  case round =>
    obtain ⟨k, hk, rfl, hfp, hBr⟩ := hrel
    have zr := hBr.size
    have HBR := Lib.hid hBr
    have HFP := Lib.hid hfp
    clear hBr hfp
    by_cases hlt : k < m
    · obtain ⟨x, hx⟩ : ∃ x, l[k]? = some x := ⟨_, List.getElem?_eq_getElem (by rw [HM.out]; exact hlt)⟩
      have hqx := (HI.out.all x (List.mem_of_getElem? hx))
      have HGX := Lib.hid (Rl2.rowOf_range (HI0.out.below HBR.out) kinRec.size hx)
      have HST := Lib.hid (firstPair_step hx)
      obtain ⟨W1, hW1⟩ : ∃ W, wr.alloc (.cells (recC x) 102) = W := ⟨_, rfl⟩
      have hb1 : Below wr.heap.size wr W1 := by rw [← hW1]; exact (Below.refl _ _).alloc (Nat.le_refl _) _
      have hx1 : W1.heap[wr.heap.size]? = some (.cells (recC x) 102 (0, 0)) := by rw [← hW1]; exact heap_alloc_new wr _
      have HX1 := Lib.hid hx1
      have zX1 : wr.heap.size < W1.heap.size := (Array.getElem?_eq_some_iff.1 hx1).1
      have HB1 := Lib.hid (HBR.out.trans (hb1.mono zr))
      have HW1 := Lib.hid hW1
      have HQX := Lib.hid hqx
      clear hx hqx hW1 hb1 hx1
      go_upto_region 4 with (first | (refine wpList_load_mid rfl 102 _ rfl b (o + k * 40) rfl (recC x).toList _ HGX.out Try.underlying102 rfl (HRL.out _ HQX.out) ?_) | (refine wpList_store_row rfl 102 _ _ rfl wr.heap.size (recC x) rfl rfl 102 RZ (heap_alloc_new wr _) (HRI.out _ HQX.out) (HRZ.out _ HQX.out) (HRO.out _ HQX.out) ?_; rw [World.setRow_alloc_new]))
      rw [HW1.out, put_none]
      obtain ⟨p, hp⟩ : ∃ p, wr.heap.size = p := ⟨_, rfl⟩
      rw [hp] at HX1 zX1 ⊢
      clear hp zr
      obtain ⟨n1, hn1⟩ : ∃ n, m - (k + 1) = n := ⟨_, rfl⟩
      have HN1 : Hid ((l.drop (k + 1)).length = n1) := Lib.hid (by rw [List.length_drop, HM.out]; exact hn1)
      have hn1b : n1 ≤ 1000 := by omega
      by_cases hce : cap = k + 1
      · have HID : Hid (RowOf W1 40 recC RecQ (some ⟨b, o, none⟩) (l.drop (k + 1))) := Lib.hid (by
          have : l.drop (k + 1) = [] := List.eq_nil_of_length_eq_zero (by rw [HN1.out]; omega)
          rw [this]
          exact RowOf.nil _ _ _ _ _)
        go_wp2
        try rw [hn1]
        clear hn1 hce
        go_loopw [19] (fun u wr => ∃ j : Nat, j ≤ n1 ∧ u = .int .i64 j ∧ (∀ y ∈ (l.drop (k + 1)).take j, mates x y = false) ∧ Below W1.heap.size W1 wr) (fun u _ => n1 - (intOf u).toNat)
        case atStart => exact ⟨0, Nat.zero_le _, rfl, by simp, Below.refl _ _⟩
        case round =>
          obtain ⟨j, hj, rfl, hno, hBi⟩ := hrel
          have zi := hBi.size
          have HBI := Lib.hid hBi
          have HNO := Lib.hid hno
          clear hBi hno
          by_cases hlt2 : j < n1
          · obtain ⟨y, hy⟩ : ∃ y, (l.drop (k + 1))[j]? = some y := ⟨_, List.getElem?_eq_getElem (by rw [HN1.out]; exact hlt2)⟩
            have HMY := Lib.hid (List.mem_of_getElem? hy)
            have HQY : Hid (RecQ y) := Lib.hid (HI.out.all y (List.mem_of_mem_drop HMY.out))
            have HGY : Hid (wr.rangeAt b (o + j * 40) (recC y).toList) := Lib.hid (Rl2.rowOf_range (HID.out.below HBI.out) kinRec.size hy)
            have HTK : Hid ((l.drop (k + 1)).take (j + 1) = (l.drop (k + 1)).take j ++ [y]) := Lib.hid (by rw [List.take_add_one, hy]; rfl)
            obtain ⟨W2, hW2⟩ : ∃ W, wr.alloc (.cells (recC y) 102) = W := ⟨_, rfl⟩
            have hb2 : Below wr.heap.size wr W2 := by rw [← hW2]; exact (Below.refl _ _).alloc (Nat.le_refl _) _
            have hy2 : W2.heap[wr.heap.size]? = some (.cells (recC y) 102 (0, 0)) := by rw [← hW2]; exact heap_alloc_new wr _
            have HY2 := Lib.hid hy2
            have HB2 := Lib.hid (HBI.out.trans (hb2.mono zi))
            have HX2 := Lib.hid ((HB2.out.block _ zX1).trans HX1.out)
            have zX2 : p < W2.heap.size := (Array.getElem?_eq_some_iff.1 HX2.out).1
            have HW2 := Lib.hid hW2
            obtain ⟨mb, hmb⟩ : ∃ mb, mates x y = mb := ⟨_, rfl⟩
            have HM2 := Lib.hid (HMA.out x y W2 HQX.out HQY.out)
            rw [hmb] at HM2
            have HMB := Lib.hid hmb
            clear hy hW2 hb2 hy2 hmb
            go_upto_region 7 with (first | (refine wpList_load_mid rfl 102 _ rfl b (o + j * 40) rfl (recC y).toList _ HGY.out Try.underlying102 rfl (HRL.out _ HQY.out) ?_) | (refine wpList_store_row rfl 102 _ _ rfl wr.heap.size (recC y) rfl rfl 102 RZ (heap_alloc_new wr _) (HRI.out _ HQY.out) (HRZ.out _ HQY.out) (HRO.out _ HQY.out) ?_; rw [World.setRow_alloc_new]))
            rw [HW2.out, put_none]
            go_wp2_with (first | (refine wpList_load_row rfl 102 _ rfl p rfl 102 _ _ _ HX2.out Try.underlying102 rfl (HRI.out _ HQX.out) ?_) | (refine wpList_load_row rfl 102 _ rfl wr.heap.size rfl 102 _ _ _ HY2.out Try.underlying102 rfl (HRI.out _ HQY.out) ?_) | fail)
            refine HM2.out.mono ?_
            rintro e3 w3 ⟨rfl, hB3⟩
            have HB3 := Lib.hid (HB1.out.trans ((HB2.out.trans (hB3.mono HB2.out.size)).mono HB1.out.size))
            have HB23 := Lib.hid (HB2.out.trans (hB3.mono HB2.out.size))
            have HX3 := Lib.hid ((hB3.block _ zX2).trans HX2.out)
            have HR3 := Lib.hid ((HB3.out.block _ z0).trans HR0.out)
            clear hB3
            cases mb
            · go_wp2
              first | exact ⟨⟨j + 1, by omega, by go_num, (by rw [HTK.out]; intro z hz; rcases List.mem_append.1 hz with hz | hz; exact HNO.out z hz; rw [List.mem_singleton.1 hz]; exact HMB.out), HB23.out⟩, by simp [intOf]; omega⟩ | (go_roundw; exact ⟨j + 1, by omega, by go_num, (by rw [HTK.out]; intro z hz; rcases List.mem_append.1 hz with hz | hz; exact HNO.out z hz; rw [List.mem_singleton.1 hz]; exact HMB.out), HB23.out⟩; simp [intOf]; omega)
            · have hany : (l.drop (k + 1)).any (mates x) = true := List.any_eq_true.2 ⟨y, HMY.out, HMB.out⟩
              have hst := HST.out
              rw [hany, if_pos rfl, HFP.out] at hst
              have hcr := HCR.out
              rw [choose_pair hst] at hcr
              subst hcr
              have hbx := HBC.out x false HQX.out
              have hci := HCI.out ⟨x, false⟩ HQX.out
              have hcz := HCZ.out ⟨x, false⟩ HQX.out
              have hco := HCO.out ⟨x, false⟩ HQX.out
              have hfin := HFIN.out w3 ⟨x, false⟩ HQX.out HB3.out
              have hix := HRI.out x HQX.out
              obtain ⟨CX, hCX⟩ : ∃ C, chC ⟨x, false⟩ = C := ⟨_, rfl⟩
              obtain ⟨RX, hRX⟩ : ∃ C, recC x = C := ⟨_, rfl⟩
              rw [hCX] at hbx hci hcz hco hfin
              rw [hRX] at hbx hix HX3
              have HBX := Lib.hid hbx
              have HIC := Lib.hid hci
              have HZC := Lib.hid hcz
              have HOC := Lib.hid hco
              have HFX := Lib.hid hfin
              have HIX := Lib.hid hix
              have HCX := Lib.hid hCX
              clear hbx hci hcz hco hfin hix hCX hRX hany hst
              go_wp2_with (first | (refine wpList_load_row rfl 102 _ rfl p rfl 102 _ _ _ HX3.out Try.underlying102 rfl HIX.out ?_) | (refine wpList_build_on (by rfl) 104 _ rfl #[(0, .agg RX), (1, .bool false)] (by simp [Act.eval, Act.put]) _ HBX.out ?_) | (refine wpList_store_row rfl 104 _ _ rfl w.heap.size CX rfl rfl 104 CZ HR3.out HIC.out HZC.out HOC.out ?_))
              obtain ⟨r1, r2⟩ := HFX.out
              refine bodyPost_ret (res_row rfl _ _ w.heap.size 104 CX _ _ rfl r2 Try.underlying104 rfl HIC.out) rfl ?_
              exact ⟨by rw [HCX.out], r1⟩
          · obtain rfl : j = n1 := by omega
            have hall : (l.drop (k + 1)).any (mates x) = false := by
              rw [List.any_eq_false]
              intro y hy
              have := HNO.out y (by rw [List.take_of_length_le (by rw [HN1.out]; exact Nat.le_refl _)]; exact hy)
              simp [this]
            have hst := HST.out
            rw [hall, if_neg (by simp), HFP.out] at hst
            have HST2 := Lib.hid hst
            clear hall hst
            go_wp2
            first | exact ⟨⟨k + 1, by omega, by go_num, HST2.out.symm, HB1.out.trans (HBI.out.mono HB1.out.size)⟩, by simp [intOf]; omega⟩ | (go_roundw; exact ⟨k + 1, by omega, by go_num, HST2.out.symm, HB1.out.trans (HBI.out.mono HB1.out.size)⟩; simp [intOf]; omega)
      · have HID : Hid (RowOf W1 40 recC RecQ (some ⟨b, o + (k + 1) * 40, none⟩) (l.drop (k + 1))) := Lib.hid (Rl2.rowOf_drop (HI0.out.below HB1.out) (k + 1))
        go_wp2
        try rw [hn1]
        clear hn1 hce
        go_loopw [19] (fun u wr => ∃ j : Nat, j ≤ n1 ∧ u = .int .i64 j ∧ (∀ y ∈ (l.drop (k + 1)).take j, mates x y = false) ∧ Below W1.heap.size W1 wr) (fun u _ => n1 - (intOf u).toNat)
        case atStart => exact ⟨0, Nat.zero_le _, rfl, by simp, Below.refl _ _⟩
        case round =>
          obtain ⟨j, hj, rfl, hno, hBi⟩ := hrel
          have zi := hBi.size
          have HBI := Lib.hid hBi
          have HNO := Lib.hid hno
          clear hBi hno
          by_cases hlt2 : j < n1
          · obtain ⟨y, hy⟩ : ∃ y, (l.drop (k + 1))[j]? = some y := ⟨_, List.getElem?_eq_getElem (by rw [HN1.out]; exact hlt2)⟩
            have HMY := Lib.hid (List.mem_of_getElem? hy)
            have HQY : Hid (RecQ y) := Lib.hid (HI.out.all y (List.mem_of_mem_drop HMY.out))
            have HGY : Hid (wr.rangeAt b (o + (k + 1) * 40 + j * 40) (recC y).toList) := Lib.hid (Rl2.rowOf_range (HID.out.below HBI.out) kinRec.size hy)
            have HTK : Hid ((l.drop (k + 1)).take (j + 1) = (l.drop (k + 1)).take j ++ [y]) := Lib.hid (by rw [List.take_add_one, hy]; rfl)
            obtain ⟨W2, hW2⟩ : ∃ W, wr.alloc (.cells (recC y) 102) = W := ⟨_, rfl⟩
            have hb2 : Below wr.heap.size wr W2 := by rw [← hW2]; exact (Below.refl _ _).alloc (Nat.le_refl _) _
            have hy2 : W2.heap[wr.heap.size]? = some (.cells (recC y) 102 (0, 0)) := by rw [← hW2]; exact heap_alloc_new wr _
            have HY2 := Lib.hid hy2
            have HB2 := Lib.hid (HBI.out.trans (hb2.mono zi))
            have HX2 := Lib.hid ((HB2.out.block _ zX1).trans HX1.out)
            have zX2 : p < W2.heap.size := (Array.getElem?_eq_some_iff.1 HX2.out).1
            have HW2 := Lib.hid hW2
            obtain ⟨mb, hmb⟩ : ∃ mb, mates x y = mb := ⟨_, rfl⟩
            have HM2 := Lib.hid (HMA.out x y W2 HQX.out HQY.out)
            rw [hmb] at HM2
            have HMB := Lib.hid hmb
            clear hy hW2 hb2 hy2 hmb
            go_upto_region 7 with (first | (refine wpList_load_mid rfl 102 _ rfl b (o + (k + 1) * 40 + j * 40) rfl (recC y).toList _ HGY.out Try.underlying102 rfl (HRL.out _ HQY.out) ?_) | (refine wpList_store_row rfl 102 _ _ rfl wr.heap.size (recC y) rfl rfl 102 RZ (heap_alloc_new wr _) (HRI.out _ HQY.out) (HRZ.out _ HQY.out) (HRO.out _ HQY.out) ?_; rw [World.setRow_alloc_new]))
            rw [HW2.out, put_none]
            go_wp2_with (first | (refine wpList_load_row rfl 102 _ rfl p rfl 102 _ _ _ HX2.out Try.underlying102 rfl (HRI.out _ HQX.out) ?_) | (refine wpList_load_row rfl 102 _ rfl wr.heap.size rfl 102 _ _ _ HY2.out Try.underlying102 rfl (HRI.out _ HQY.out) ?_) | fail)
            refine HM2.out.mono ?_
            rintro e3 w3 ⟨rfl, hB3⟩
            have HB3 := Lib.hid (HB1.out.trans ((HB2.out.trans (hB3.mono HB2.out.size)).mono HB1.out.size))
            have HB23 := Lib.hid (HB2.out.trans (hB3.mono HB2.out.size))
            have HX3 := Lib.hid ((hB3.block _ zX2).trans HX2.out)
            have HR3 := Lib.hid ((HB3.out.block _ z0).trans HR0.out)
            clear hB3
            cases mb
            · go_wp2
              first | exact ⟨⟨j + 1, by omega, by go_num, (by rw [HTK.out]; intro z hz; rcases List.mem_append.1 hz with hz | hz; exact HNO.out z hz; rw [List.mem_singleton.1 hz]; exact HMB.out), HB23.out⟩, by simp [intOf]; omega⟩ | (go_roundw; exact ⟨j + 1, by omega, by go_num, (by rw [HTK.out]; intro z hz; rcases List.mem_append.1 hz with hz | hz; exact HNO.out z hz; rw [List.mem_singleton.1 hz]; exact HMB.out), HB23.out⟩; simp [intOf]; omega)
            · have hany : (l.drop (k + 1)).any (mates x) = true := List.any_eq_true.2 ⟨y, HMY.out, HMB.out⟩
              have hst := HST.out
              rw [hany, if_pos rfl, HFP.out] at hst
              have hcr := HCR.out
              rw [choose_pair hst] at hcr
              subst hcr
              have hbx := HBC.out x false HQX.out
              have hci := HCI.out ⟨x, false⟩ HQX.out
              have hcz := HCZ.out ⟨x, false⟩ HQX.out
              have hco := HCO.out ⟨x, false⟩ HQX.out
              have hfin := HFIN.out w3 ⟨x, false⟩ HQX.out HB3.out
              have hix := HRI.out x HQX.out
              obtain ⟨CX, hCX⟩ : ∃ C, chC ⟨x, false⟩ = C := ⟨_, rfl⟩
              obtain ⟨RX, hRX⟩ : ∃ C, recC x = C := ⟨_, rfl⟩
              rw [hCX] at hbx hci hcz hco hfin
              rw [hRX] at hbx hix HX3
              have HBX := Lib.hid hbx
              have HIC := Lib.hid hci
              have HZC := Lib.hid hcz
              have HOC := Lib.hid hco
              have HFX := Lib.hid hfin
              have HIX := Lib.hid hix
              have HCX := Lib.hid hCX
              clear hbx hci hcz hco hfin hix hCX hRX hany hst
              go_wp2_with (first | (refine wpList_load_row rfl 102 _ rfl p rfl 102 _ _ _ HX3.out Try.underlying102 rfl HIX.out ?_) | (refine wpList_build_on (by rfl) 104 _ rfl #[(0, .agg RX), (1, .bool false)] (by simp [Act.eval, Act.put]) _ HBX.out ?_) | (refine wpList_store_row rfl 104 _ _ rfl w.heap.size CX rfl rfl 104 CZ HR3.out HIC.out HZC.out HOC.out ?_))
              obtain ⟨r1, r2⟩ := HFX.out
              refine bodyPost_ret (res_row rfl _ _ w.heap.size 104 CX _ _ rfl r2 Try.underlying104 rfl HIC.out) rfl ?_
              exact ⟨by rw [HCX.out], r1⟩
          · obtain rfl : j = n1 := by omega
            have hall : (l.drop (k + 1)).any (mates x) = false := by
              rw [List.any_eq_false]
              intro y hy
              have := HNO.out y (by rw [List.take_of_length_le (by rw [HN1.out]; exact Nat.le_refl _)]; exact hy)
              simp [this]
            have hst := HST.out
            rw [hall, if_neg (by simp), HFP.out] at hst
            have HST2 := Lib.hid hst
            clear hall hst
            go_wp2
            first | exact ⟨⟨k + 1, by omega, by go_num, HST2.out.symm, HB1.out.trans (HBI.out.mono HB1.out.size)⟩, by simp [intOf]; omega⟩ | (go_roundw; exact ⟨k + 1, by omega, by go_num, HST2.out.symm, HB1.out.trans (HBI.out.mono HB1.out.size)⟩; simp [intOf]; omega)
    · obtain rfl : k = m := by omega
      obtain ⟨x, hx⟩ : ∃ x, l[0]? = some x := ⟨_, List.getElem?_eq_getElem (by rw [HM.out]; omega)⟩
      have HQX := Lib.hid (HI.out.all x (List.mem_of_getElem? hx))
      have HGX : Hid (wr.rangeAt b o (recC x).toList) := Lib.hid (by have := Rl2.rowOf_range (HI0.out.below HBR.out) kinRec.size hx; simpa using this)
      have hfp := HFP.out
      rw [List.drop_of_length_le (by rw [HM.out]; exact Nat.le_refl _)] at hfp
      have hcr := HCR.out
      rw [choose_none hfp.symm hx] at hcr
      subst hcr
      have hbx := HBC.out x true HQX.out
      have hci := HCI.out ⟨x, true⟩ HQX.out
      have hcz := HCZ.out ⟨x, true⟩ HQX.out
      have hco := HCO.out ⟨x, true⟩ HQX.out
      have hfin := HFIN.out wr ⟨x, true⟩ HQX.out HBR.out
      have hix := HRL.out x HQX.out
      have HR3 := Lib.hid ((HBR.out.block _ z0).trans HR0.out)
      obtain ⟨CX, hCX⟩ : ∃ C, chC ⟨x, true⟩ = C := ⟨_, rfl⟩
      obtain ⟨RX, hRX⟩ : ∃ C, recC x = C := ⟨_, rfl⟩
      rw [hCX] at hbx hci hcz hco hfin
      rw [hRX] at hbx hix HGX
      have HBX := Lib.hid hbx
      have HIC := Lib.hid hci
      have HZC := Lib.hid hcz
      have HOC := Lib.hid hco
      have HFX := Lib.hid hfin
      have HIX := Lib.hid hix
      have HCX := Lib.hid hCX
      clear hbx hci hcz hco hfin hix hCX hRX hx hfp
      go_wp2_with (first | (refine wpList_load_mid rfl 102 _ rfl b o rfl RX.toList _ HGX.out Try.underlying102 rfl HIX.out ?_) | (refine wpList_build_on (by rfl) 104 _ rfl #[(0, .agg RX), (1, .bool true)] (by simp [Act.eval, Act.put]) _ HBX.out ?_) | (refine wpList_store_row rfl 104 _ _ rfl w.heap.size CX rfl rfl 104 CZ HR3.out HIC.out HZC.out HOC.out ?_))
      obtain ⟨r1, r2⟩ := HFX.out
      refine bodyPost_ret (res_row rfl _ _ w.heap.size 104 CX _ _ rfl r2 Try.underlying104 rfl HIC.out) rfl ?_
      exact ⟨by rw [HCX.out], r1⟩
end Go.Proofs.Ytoiephmngdecaaa
namespace Go.Rv
open Go.RowKit
def Obls3 (P : Program) (ops : Array Oper) (Q : Exit → Act → World → Prop) (A : (Nat → Value) → Act) (n : Nat) (J : Array Bool → (Nat → Value) → World → Prop) : Prop :=
  ∀ (i : Nat) (o : Oper), i < n → ops[i]? = some o → ∀ (listed : Array Bool) (v : Nat → Value) (w : World) (K : Act → World → Prop), listed.getD i true = false → (∀ e ∈ o.after, Region.binds .any e = true → listed.getD e.on false = true) → J listed v w →
    Hid (∀ u w', J (listed.setIfInBounds i true) (upd v i u) w' → K ((A v).put o.dst u) w') → wpList P ops (Exit.then K Q) [o] (A v) w
theorem conf3_walk {P : Program} {ops : Array Oper} {Q : Exit → Act → World → Prop} {a0 : Act} {n : Nat} {J : Array Bool → (Nat → Value) → World → Prop} {A : (Nat → Value) → Act} (hok : confOk ops n = true)
    (hA : ∀ v, putAll v 0 (ops.toList.take n) a0 = A v) (ho : Obls3 P ops Q A n J)
    (hend : ∀ v w, J (headListed n (ops.size - n)) v w → wpList P ops Q (ops.toList.drop n) (A v) w) :
    ∀ (f : Nat) (listed : Array Bool) (v : Nat → Value) (w : World), HeadInv .any ops n listed → unl listed n = f → J listed v w →
      wpAny P .any ops Q (f + (ops.size - n)) listed (A v) w := by
  simp only [confOk, Bool.and_eq_true, decide_eq_true_eq] at hok
  obtain ⟨⟨⟨⟨⟨hd, hbk⟩, hn⟩, hs⟩, hc⟩, hq⟩ := hok
  intro f
  induction f with
  | zero =>
    intro listed v w inv hu hJ
    have hall := unl_zero hu
    have hl : listed = headListed n (ops.size - n) := by
      apply Array.ext
      · simp only [headListed, List.size_toArray, List.length_append, List.length_replicate]
        rw [inv.size]
        omega
      · intro i h1 h2
        have e1 : listed[i] = listed.getD i true := by simp [h1]
        by_cases hin : i < n
        · rw [e1, hall i hin]
          simp only [headListed, List.getElem_toArray]
          rw [List.getElem_append_left (by simpa using hin)]
          simp
        · rw [e1, inv.tail i (by omega) (by rw [← inv.size]; exact h1)]
          simp only [headListed, List.getElem_toArray]
          rw [List.getElem_append_right (by simpa using Nat.le_of_not_lt hin)]
          simp
    rw [Nat.zero_add]
    have hlen : (ops.toList.drop n).length = ops.size - n := by simp
    rw [← hlen]
    refine wpAny_of_seq (ops.toList.drop n) n listed (A v) w (fun j => by simp) (by rw [hlen, hl]; exact hq) (hend v w (by rw [← hl]; exact hJ))
  | succ f ih =>
    intro listed v w inv hu hJ
    obtain ⟨i0, hi0, hun0, hbef⟩ := unl_pos (listed := listed) (k := n) (by omega)
    have hnt := tail_waits hs hc hn inv _ i0 rfl hi0 hun0
    rw [show f + 1 + (ops.size - n) = (f + (ops.size - n)) + 1 by omega]
    refine ⟨fun h => ?_, fun i hi => ?_⟩
    · exfalso
      have hlt : i0 < ops.size := by omega
      have hr : i0 ∈ Region.ready .any ops listed := mem_ready.2 ⟨hun0, ops[i0], by simp, fun e he hb => by
        have hlt2 := edgesBack_spec hbk (i := i0) (o := ops[i0]) (by simp) e he hb
        have h1 := hbef e.on (by omega)
        have hes : e.on < listed.size := by rw [inv.size]; omega
        simp [hes] at h1 ⊢
        exact h1⟩
      rw [h] at hr
      cases hr
    · have hin : i < n := by
        rcases Nat.lt_or_ge i n with h | h
        · exact h
        · exact absurd hi (hnt i h)
      obtain ⟨hui, o, hoi, hdep⟩ := mem_ready.1 hi
      have hoi' : (ops.toList.take n)[i]? = some o := by simp [hin, hoi]
      refine wpOp_of_list hoi (ho i o hin hoi listed v w _ hui (fun e he hb => hdep e he hb) hJ (Lib.hid ?_))
      intro u w' hJ'
      rw [← hA v, putAll_upd (k := 0) hd hoi', hA, Nat.zero_add]
      refine ih (listed.setIfInBounds i true) (upd v i u) w' (inv.set hi hin) ?_ hJ'
      have := (unl_set hui (k := n)).1 hin
      omega
/-- the law with one assertion of all slots, of what is over and of the world: an operation may write what the region has made -/
theorem wp_region_conf3 {P : Program} {ops : Array Oper} {Q : Exit → Act → World → Prop} {a0 : Act} {w0 : World} {id : Nat} (n : Nat) (J : Array Bool → (Nat → Value) → World → Prop) (A : (Nat → Value) → Act) (hm : P.follows .mixedOrders = true) (hok : confOk ops n = true)
    (hA : ∀ v, putAll v 0 (ops.toList.take n) a0 = A v) (ho : Obls3 P ops Q A n J) (hstart : ∀ v, J (Array.replicate ops.size false) v w0.drew)
    (hend : ∀ v w, J (headListed n (ops.size - n)) v w → wpList P ops Q (ops.toList.drop n) (A v) w) : (Code.region id ops true).wp P Q a0 w0 := by
  have hok' := hok
  simp only [confOk, Bool.and_eq_true, decide_eq_true_eq] at hok'
  obtain ⟨⟨⟨⟨⟨hd, _⟩, hn⟩, _⟩, _⟩, _⟩ := hok'
  obtain ⟨v, hv⟩ := putAll_self (k := 0) (a := a0) hd
  have inv0 : HeadInv .any ops n (Array.replicate ops.size false) :=
    ⟨by simp, fun j oj _ hl => (by rw [getD_replicate_false] at hl; cases hl), fun t _ ht => getD_in (by simpa using ht) (getD_replicate_false _ _)⟩
  have hu : ∀ k, k ≤ n → unl (Array.replicate ops.size false) k = k := by
    intro k
    induction k with
    | zero => intro _; rfl
    | succ k ih =>
      intro hk
      simp only [unl]
      rw [ih (by omega), getD_in (by simp; omega) (getD_replicate_false _ _)]
      simp
  have h := conf3_walk hok hA ho hend n _ v w0.drew inv0 (hu n (Nat.le_refl _)) (hstart v)
  rw [← hA v, hv, show n + (ops.size - n) = ops.size by omega] at h
  exact wp_region_any hm h
end Go.Rv
namespace Go.Rv
open Go.RowKit
set_option linter.unusedVariables false
def DepsV (V : List Value) (v : Nat → Value) : List Edge → Prop
  | [] => True
  | e :: r => (Region.binds .any e = true → v e.on = V.getD e.on undef) ∧ DepsV V v r
/-- lower bounds of the stage: an operation that is over, or may begin, tells that so many of the list are over -/
def loOk (ms lo : List Nat) : Nat → List Oper → Bool
  | _, [] => true
  | i, o :: r => (lo.getD i 0 == 0 || (match ms.idxOf? i with | some k => decide (lo.getD i 0 ≤ k + 1) | none => o.after.any fun e => Region.binds .any e && decide (lo.getD i 0 ≤ lo.getD e.on 0))) && loOk ms lo (i + 1) r
theorem loOk_at {ms lo : List Nat} : ∀ {k : Nat} {l : List Oper}, loOk ms lo k l = true → ∀ {i : Nat} {o : Oper}, l[i]? = some o → lo.getD (k + i) 0 = 0 ∨ (∃ m, ms.idxOf? (k + i) = some m ∧ lo.getD (k + i) 0 ≤ m + 1) ∨ (ms.idxOf? (k + i) = none ∧ ∃ e ∈ o.after, Region.binds .any e = true ∧ lo.getD (k + i) 0 ≤ lo.getD e.on 0)
  | _, [], _, _, _, h => by simp at h
  | k, x :: r, h, 0, o, ho => by
    simp at ho
    subst ho
    simp only [loOk, Bool.and_eq_true, Bool.or_eq_true, beq_iff_eq] at h
    rcases h.1 with h1 | h1
    · exact .inl h1
    · cases hm : ms.idxOf? k with
      | some m =>
        rw [hm] at h1
        exact .inr (.inl ⟨m, by rw [← hm], by simpa using h1⟩)
      | none =>
        rw [hm] at h1
        obtain ⟨e, he, h3⟩ := Array.any_eq_true.1 h1
        rw [Bool.and_eq_true, decide_eq_true_eq] at h3
        exact .inr (.inr ⟨by rw [← hm], x.after[e], Array.getElem_mem _, h3⟩)
  | k, x :: r, h, i + 1, o, ho => by
    simp only [loOk, Bool.and_eq_true] at h
    have := loOk_at h.2 (i := i) (o := o) (by simpa using ho)
    rwa [show k + 1 + i = k + (i + 1) by omega] at this
def Obl5 (P : Program) (ops : Array Oper) (Q : Exit → Act → World → Prop) (A : (Nat → Value) → Act) (V : List Value) (ms lo : List Nat) (I : Nat → World → Prop) (i : Nat) (o : Oper) : Prop :=
  match ms.idxOf? i with
  | none => ∀ (v : Nat → Value) (w : World) (K : Act → World → Prop) (s : Nat), lo.getD i 0 ≤ s → I s w → DepsV V v o.after.toList →
      Hid (∀ u w', Below w.heap.size w w' → u = V.getD i undef → K ((A v).put o.dst u) w') → wpList P ops (Exit.then K Q) [o] (A v) w
  | some k => ∀ (v : Nat → Value) (w : World) (K : Act → World → Prop), I k w → DepsV V v o.after.toList →
      Hid (∀ u w', I (k + 1) w' → u = V.getD i undef → K ((A v).put o.dst u) w') → wpList P ops (Exit.then K Q) [o] (A v) w
def Obls5 (P : Program) (ops : Array Oper) (Q : Exit → Act → World → Prop) (A : (Nat → Value) → Act) (V : List Value) (ms lo : List Nat) (I : Nat → World → Prop) : Nat → List Oper → Prop
  | _, [] => True
  | i, o :: r => Obl5 P ops Q A V ms lo I i o ∧ Obls5 P ops Q A V ms lo I (i + 1) r
theorem Obls5.at {P : Program} {ops : Array Oper} {Q : Exit → Act → World → Prop} {A : (Nat → Value) → Act} {V : List Value} {ms lo : List Nat} {I : Nat → World → Prop} : ∀ {k : Nat} {l : List Oper}, Obls5 P ops Q A V ms lo I k l → ∀ {i : Nat} {o : Oper}, l[i]? = some o → Obl5 P ops Q A V ms lo I (k + i) o
  | _, [], _, _, _, h => by simp at h
  | k, _ :: r, h, 0, _, ho => by simp at ho; subst ho; exact h.1
  | k, _ :: r, h, i + 1, _, ho => by
    have := Obls5.at h.2 (i := i) (by simpa using ho)
    rwa [show k + 1 + i = k + (i + 1) by omega] at this
/-- each operation of the list but the first one waits for the one before it -/
def chainMs (ops : Array Oper) : List Nat → Bool
  | [] => true
  | [_] => true
  | a :: b :: r => (match ops[b]? with | some o => o.after.any fun e => Region.binds .any e && e.on == a | none => false) && chainMs ops (b :: r)
def incMs (n : Nat) : List Nat → Bool
  | [] => true
  | [a] => decide (a < n)
  | a :: b :: r => decide (a < b) && incMs n (b :: r)
theorem chainMs_at {ops : Array Oper} : ∀ {ms : List Nat}, chainMs ops ms = true → ∀ {k a b : Nat}, ms[k]? = some a → ms[k + 1]? = some b → ∃ o, ops[b]? = some o ∧ ∃ e ∈ o.after, Region.binds .any e = true ∧ e.on = a
  | [], _, k, a, b, h, _ => by simp at h
  | [x], _, k, a, b, _, h => by simp at h
  | x :: y :: r, hc, 0, a, b, h1, h2 => by
    simp at h1 h2
    subst h1 h2
    simp only [chainMs, Bool.and_eq_true] at hc
    cases ho : ops[y]? with
    | none => rw [ho] at hc; simp at hc
    | some o =>
      rw [ho] at hc
      obtain ⟨e, he, h3⟩ := Array.any_eq_true.1 hc.1
      rw [Bool.and_eq_true, beq_iff_eq] at h3
      exact ⟨o, rfl, o.after[e], Array.getElem_mem _, h3⟩
  | x :: y :: r, hc, k + 1, a, b, h1, h2 => by
    simp only [chainMs, Bool.and_eq_true] at hc
    exact chainMs_at hc.2 (k := k) (by simpa using h1) (by simpa using h2)
theorem incMs_lt {n : Nat} : ∀ {ms : List Nat}, incMs n ms = true → ∀ {k a : Nat}, ms[k]? = some a → a < n ∧ ∀ j b, k < j → ms[j]? = some b → a < b
  | [], _, k, a, h => by simp at h
  | [x], hc, k, a, h => by
    match k, h with
    | 0, h =>
      simp at h
      subst h
      simp only [incMs, decide_eq_true_eq] at hc
      exact ⟨hc, fun j b hj hb => by
        have := (List.getElem?_eq_some_iff.1 hb).1
        simp at this
        omega⟩
  | x :: y :: r, hc, k, a, h => by
    simp only [incMs, Bool.and_eq_true, decide_eq_true_eq] at hc
    match k, h with
    | 0, h =>
      simp at h
      subst h
      have hy := incMs_lt hc.2 (k := 0) (a := y) (by simp)
      refine ⟨by omega, fun j b hj hb => ?_⟩
      match j, hj, hb with
      | 1, _, hb => simp at hb; omega
      | j + 2, _, hb =>
        have := hy.2 (j + 1) b (by omega) (by simpa using hb)
        omega
    | k + 1, h =>
      obtain ⟨h1, h2⟩ := incMs_lt hc.2 (k := k) (a := a) (by simpa using h)
      exact ⟨h1, fun j b hj hb => by
        match j, hj, hb with
        | j + 1, hj, hb => exact h2 j b (by omega) (by simpa using hb)⟩
theorem incMs_inj {n : Nat} {ms : List Nat} (h : incMs n ms = true) {j k a : Nat} (hj : ms[j]? = some a) (hk : ms[k]? = some a) : j = k := by
  by_cases h1 : j < k
  · have := (incMs_lt h hj).2 k a h1 hk; omega
  · by_cases h2 : k < j
    · have := (incMs_lt h hk).2 j a h2 hj; omega
    · omega
theorem idx_none {ms : List Nat} {i : Nat} (h : ms.idxOf? i = none) : ∀ k : Nat, ms[k]? ≠ some i := by
  intro k hk
  have := List.mem_of_getElem? hk
  rw [List.idxOf?_eq_none_iff] at h
  exact h this
theorem idx_some : ∀ {ms : List Nat} {i k : Nat}, ms.idxOf? i = some k → ms[k]? = some i
  | [], i, k, h => by simp at h
  | x :: r, i, k, h => by
    rw [List.idxOf?_cons] at h
    split at h
    · rename_i hx
      simp at h hx
      subst h hx
      rfl
    · simp only [Option.map_eq_some_iff] at h
      obtain ⟨j, hj, rfl⟩ := h
      simpa using idx_some hj
theorem wp_region_stage {P : Program} {ops : Array Oper} {Q : Exit → Act → World → Prop} {a0 : Act} {w0 : World} {id : Nat} (n : Nat) (V : List Value) (ms lo : List Nat) (I : Nat → World → Prop) (A : (Nat → Value) → Act) (hm : P.follows .mixedOrders = true) (hok : confOk ops n = true) (hms : (chainMs ops ms && incMs n ms && loOk ms lo 0 (ops.toList.take n)) = true)
    (hA : ∀ v, putAll v 0 (ops.toList.take n) a0 = A v) (h0 : I 0 w0.drew) (hIb : ∀ s w w', I s w → Below w.heap.size w w' → I s w') (ho : Obls5 P ops Q A V ms lo I 0 (ops.toList.take n))
    (hend : ∀ v w, I ms.length w → (∀ j, j < n → v j = V.getD j undef) → wpList P ops Q (ops.toList.drop n) (A v) w) : (Code.region id ops true).wp P Q a0 w0 := by
  rw [Bool.and_eq_true, Bool.and_eq_true] at hms
  obtain ⟨⟨hch, hinc⟩, hlok⟩ := hms
  refine wp_region_conf3 n (fun L v w => (∀ j, j < n → L.getD j false = true → v j = V.getD j undef) ∧ ∃ s, (∀ k m, ms[k]? = some m → (L.getD m false = true ↔ k < s)) ∧ s ≤ ms.length ∧ (∀ j, j < n → L.getD j false = true → lo.getD j 0 ≤ s) ∧ I s w) A hm hok hA ?_ ?_ ?_
  · intro i o hin hoi L v w K hui hdep ⟨hv, s, hs, hsl, hls, hI⟩ HK
    have hilt : i < L.size := by
      rcases Nat.lt_or_ge i L.size with h | h
      · exact h
      · simp [Array.getElem?_eq_none h] at hui
    have hif : L.getD i false = false := by simp [hilt] at hui ⊢; exact hui
    have hit : (L.setIfInBounds i true).getD i false = true := by simp [hilt]
    have hdv : ∀ l : List Edge, (∀ e ∈ l, e ∈ o.after) → DepsV V v l := by
      intro l
      induction l with
      | nil => intro _; exact trivial
      | cons e r ihl =>
        intro hl
        refine ⟨fun hb => hv e.on ?_ (hdep e (hl e (by simp)) hb), ihl fun x hx => hl x (by simp [hx])⟩
        have hbk : edgesBack 0 ops.toList = true := by
          simp only [confOk, Bool.and_eq_true] at hok
          exact hok.1.1.1.1.2
        have := edgesBack_spec hbk (i := i) (o := o) (by simpa using hoi) e (hl e (by simp)) hb
        omega
    have hdv := hdv o.after.toList (fun e he => by simpa using he)
    have ob := ho.at (i := i) (o := o) (by simp [hin, hoi])
    rw [Nat.zero_add] at ob
    have hv' : ∀ u, u = V.getD i undef → ∀ j, j < n → (L.setIfInBounds i true).getD j false = true → upd v i u j = V.getD j undef := fun u hu j hj hl => by
      by_cases hji : j = i
      · subst hji
        rw [show upd v j u j = u by simp [upd], hu]
      · rw [show upd v i u j = v j by simp [upd, hji]]
        rw [getD_set_ne false (Ne.symm hji)] at hl
        exact hv j hj hl
    unfold Obl5 at ob
    split at ob
    · rename_i hno
      have hlo : lo.getD i 0 ≤ s := by
        have hat := loOk_at hlok (i := i) (o := o) (by simp [hin, hoi])
        rw [Nat.zero_add] at hat
        rcases hat with h | ⟨m, h, _⟩ | ⟨_, e, he, hb, h⟩
        · omega
        · rw [hno] at h; cases h
        · have hbk : edgesBack 0 ops.toList = true := by
            simp only [confOk, Bool.and_eq_true] at hok
            exact hok.1.1.1.1.2
          have := edgesBack_spec hbk (i := i) (o := o) (by simpa using hoi) e he hb
          have := hls e.on (by omega) (hdep e he hb)
          omega
      refine ob v w K s hlo hI hdv (Lib.hid fun u w' hB hu => HK.out u w' ⟨hv' u hu, s, fun k m hk => ?_, hsl, fun j hj hl => ?_, hIb s w w' hI hB⟩)
      · rw [getD_set_ne false (fun e => idx_none hno k (by rw [hk, e]))]
        exact hs k m hk
      · by_cases hji : j = i
        · rw [hji]; exact hlo
        · rw [getD_set_ne false (Ne.symm hji)] at hl
          exact hls j hj hl
    · rename_i k0 hsome
      have hk0 := idx_some hsome
      have hkl : k0 < ms.length := (List.getElem?_eq_some_iff.1 hk0).1
      have hsk : s = k0 := by
        have h1 : ¬ k0 < s := fun h => by
          have := (hs k0 i hk0).2 h
          rw [hif] at this
          cases this
        match k0, hk0, h1 with
        | 0, _, h1 => omega
        | j + 1, hk0, h1 =>
          obtain ⟨a, ha⟩ : ∃ a, ms[j]? = some a := ⟨_, List.getElem?_eq_getElem (by have := (List.getElem?_eq_some_iff.1 hk0).1; omega)⟩
          obtain ⟨o', ho', e, he, hb, hea⟩ := chainMs_at hch ha hk0
          rw [hoi] at ho'
          cases ho'
          have h2 := hdep e he hb
          rw [hea] at h2
          have := (hs j a ha).1 h2
          omega
      subst hsk
      refine ob v w K hI hdv (Lib.hid fun u w' hI' hu => HK.out u w' ⟨hv' u hu, s + 1, fun k m hk => ?_, by omega, fun j hj hl => ?_, hI'⟩)
      · by_cases e : m = i
        · subst e
          have := incMs_inj hinc hk hk0
          subst this
          rw [hit]
          simp
        · rw [getD_set_ne false (Ne.symm e), hs k m hk]
          have : k ≠ s := fun h => by
            rw [h, hk0] at hk
            cases hk
            exact e rfl
          omega
      · by_cases hji : j = i
        · subst hji
          have hat := loOk_at hlok (i := j) (o := o) (by simp [hin, hoi])
          rw [Nat.zero_add] at hat
          rcases hat with h | ⟨m, h, h'⟩ | ⟨h, _⟩
          · omega
          · rw [hsome] at h; cases h; exact h'
          · rw [hsome] at h; cases h
        · rw [getD_set_ne false (Ne.symm hji)] at hl
          have := hls j hj hl
          omega
  · intro v
    refine ⟨fun j hj hl => (by rw [getD_replicate_false] at hl; cases hl), 0, fun k m hk => ?_, Nat.zero_le _, fun j hj hl => (by rw [getD_replicate_false] at hl; cases hl), h0⟩
    rw [getD_replicate_false]
    simp
  · intro v w ⟨hv, s, hs, hsl, _, hI⟩
    have hall : ∀ j, j < n → (headListed n (ops.size - n)).getD j false = true := fun j hj => by
      simp only [headListed]
      rw [Array.getD_eq_getD_getElem?, List.getElem?_toArray, List.getElem?_append_left (by simpa using hj)]
      simp [hj]
    have hsn : s = ms.length := by
      rcases Nat.lt_or_ge s ms.length with h | h
      · have h1 : ms[s]? = some ms[s] := List.getElem?_eq_getElem h
        have h2 := (hs s _ h1).1 (hall _ (incMs_lt hinc h1).1)
        omega
      · omega
    subst hsn
    exact hend v w hI (fun j hj => hv j hj (hall j hj))
theorem conf5Rules : (∀ (V : List Value) (v : Nat → Value), DepsV V v [] = True) ∧ (∀ (V : List Value) (v : Nat → Value) (e : Edge) (r : List Edge), DepsV V v (e :: r) = ((Region.binds .any e = true → v e.on = V.getD e.on undef) ∧ DepsV V v r)) ∧ (∀ (x : Value) l d, (x :: l).getD 0 d = x) ∧ (∀ (x : Value) l n d, (x :: l).getD (n + 1) d = l.getD n d) :=
  ⟨fun _ _ => rfl, fun _ _ _ _ => rfl, fun _ _ _ => rfl, fun _ _ _ _ => rfl⟩
end Go.Rv
namespace Go.Rv
open Go.RowKit
set_option linter.unusedVariables false
/-- a slot's fact, that stands while none but the blocks of S are turned -/
structure FactS (S : List Nat) where
  p : Value → World → Prop
  st : ∀ u w w', p u w → Only S w w' → p u w'
def FactS.eq {S : List Nat} (x : Value) : FactS S := ⟨fun u _ => u = x, fun _ _ _ h _ => h⟩
def FactS.rowOf {S : List Nat} (B : Nat) (C : Array Value) (t : TypeId) (hS : ∀ x ∈ S, x < B) : FactS S := ⟨fun u w => ∃ g, u = .pointer (some ⟨g, 0, none⟩) ∧ B ≤ g ∧ w.heap[g]? = some (.cells C t (0, 0)), fun u w w' ⟨g, e, hb, h⟩ hO => ⟨g, e, hb, (hO.block g (Array.getElem?_eq_some_iff.1 h).1 (fun hm => by have := hS _ hm; omega)).trans h⟩⟩
def fpS {S : List Nat} (F : List (FactS S)) (j : Nat) (u : Value) (w : World) : Prop := (F.getD j (FactS.eq undef)).p u w
theorem fpS.st {S : List Nat} {F : List (FactS S)} {j : Nat} {u : Value} {w w' : World} (h : fpS F j u w) (hO : Only S w w') : fpS F j u w' := (F.getD j (FactS.eq undef)).st u w w' h hO
def DepsS {S : List Nat} (F : List (FactS S)) (v : Nat → Value) (w : World) : List Edge → Prop
  | [] => True
  | e :: r => (Region.binds .any e = true → fpS F e.on (v e.on) w) ∧ DepsS F v w r
def Obl6 {S : List Nat} (P : Program) (ops : Array Oper) (Q : Exit → Act → World → Prop) (A : (Nat → Value) → Act) (F : List (FactS S)) (ms lo : List Nat) (I : Nat → World → Prop) (i : Nat) (o : Oper) : Prop :=
  match ms.idxOf? i with
  | none => ∀ (v : Nat → Value) (w : World) (K : Act → World → Prop) (s : Nat), lo.getD i 0 ≤ s → I s w → DepsS F v w o.after.toList →
      Hid (∀ u w', Below w.heap.size w w' → fpS F i u w' → K ((A v).put o.dst u) w') → wpList P ops (Exit.then K Q) [o] (A v) w
  | some k => ∀ (v : Nat → Value) (w : World) (K : Act → World → Prop), I k w → DepsS F v w o.after.toList →
      Hid (∀ u w', I (k + 1) w' → Only S w w' → fpS F i u w' → K ((A v).put o.dst u) w') → wpList P ops (Exit.then K Q) [o] (A v) w
def Obls6 {S : List Nat} (P : Program) (ops : Array Oper) (Q : Exit → Act → World → Prop) (A : (Nat → Value) → Act) (F : List (FactS S)) (ms lo : List Nat) (I : Nat → World → Prop) : Nat → List Oper → Prop
  | _, [] => True
  | i, o :: r => Obl6 P ops Q A F ms lo I i o ∧ Obls6 P ops Q A F ms lo I (i + 1) r
theorem Obls6.at {S : List Nat} {P : Program} {ops : Array Oper} {Q : Exit → Act → World → Prop} {A : (Nat → Value) → Act} {F : List (FactS S)} {ms lo : List Nat} {I : Nat → World → Prop} : ∀ {k : Nat} {l : List Oper}, Obls6 P ops Q A F ms lo I k l → ∀ {i : Nat} {o : Oper}, l[i]? = some o → Obl6 P ops Q A F ms lo I (k + i) o
  | _, [], _, _, _, h => by simp at h
  | k, _ :: r, h, 0, _, ho => by simp at ho; subst ho; exact h.1
  | k, _ :: r, h, i + 1, _, ho => by
    have := Obls6.at h.2 (i := i) (by simpa using ho)
    rwa [show k + 1 + i = k + (i + 1) by omega] at this
theorem wp_region_stage6 {S : List Nat} {P : Program} {ops : Array Oper} {Q : Exit → Act → World → Prop} {a0 : Act} {w0 : World} {id : Nat} (n : Nat) (F : List (FactS S)) (ms lo : List Nat) (I : Nat → World → Prop) (A : (Nat → Value) → Act) (hm : P.follows .mixedOrders = true) (hok : confOk ops n = true) (hms : (chainMs ops ms && incMs n ms && loOk ms lo 0 (ops.toList.take n)) = true)
    (hA : ∀ v, putAll v 0 (ops.toList.take n) a0 = A v) (h0 : I 0 w0.drew) (hIb : ∀ s w w', I s w → Below w.heap.size w w' → I s w') (ho : Obls6 P ops Q A F ms lo I 0 (ops.toList.take n))
    (hend : ∀ v w, I ms.length w → (∀ j, j < n → fpS F j (v j) w) → wpList P ops Q (ops.toList.drop n) (A v) w) : (Code.region id ops true).wp P Q a0 w0 := by
  rw [Bool.and_eq_true, Bool.and_eq_true] at hms
  obtain ⟨⟨hch, hinc⟩, hlok⟩ := hms
  refine wp_region_conf3 n (fun L v w => (∀ j, j < n → L.getD j false = true → fpS F j (v j) w) ∧ ∃ s, (∀ k m, ms[k]? = some m → (L.getD m false = true ↔ k < s)) ∧ s ≤ ms.length ∧ (∀ j, j < n → L.getD j false = true → lo.getD j 0 ≤ s) ∧ I s w) A hm hok hA ?_ ?_ ?_
  · intro i o hin hoi L v w K hui hdep ⟨hv, s, hs, hsl, hls, hI⟩ HK
    have hilt : i < L.size := by
      rcases Nat.lt_or_ge i L.size with h | h
      · exact h
      · simp [Array.getElem?_eq_none h] at hui
    have hif : L.getD i false = false := by simp [hilt] at hui ⊢; exact hui
    have hit : (L.setIfInBounds i true).getD i false = true := by simp [hilt]
    have hdv : ∀ l : List Edge, (∀ e ∈ l, e ∈ o.after) → DepsS F v w l := by
      intro l
      induction l with
      | nil => intro _; exact trivial
      | cons e r ihl =>
        intro hl
        refine ⟨fun hb => hv e.on ?_ (hdep e (hl e (by simp)) hb), ihl fun x hx => hl x (by simp [hx])⟩
        have hbk : edgesBack 0 ops.toList = true := by
          simp only [confOk, Bool.and_eq_true] at hok
          exact hok.1.1.1.1.2
        have := edgesBack_spec hbk (i := i) (o := o) (by simpa using hoi) e (hl e (by simp)) hb
        omega
    have hdv := hdv o.after.toList (fun e he => by simpa using he)
    have ob := ho.at (i := i) (o := o) (by simp [hin, hoi])
    rw [Nat.zero_add] at ob
    have hv' : ∀ u w', Only S w w' → fpS F i u w' → ∀ j, j < n → (L.setIfInBounds i true).getD j false = true → fpS F j (upd v i u j) w' := fun u w' hO hu j hj hl => by
      by_cases hji : j = i
      · subst hji
        rw [show upd v j u j = u by simp [upd]]
        exact hu
      · rw [show upd v i u j = v j by simp [upd, hji]]
        rw [getD_set_ne false (Ne.symm hji)] at hl
        exact (hv j hj hl).st hO
    unfold Obl6 at ob
    split at ob
    · rename_i hno
      have hlo : lo.getD i 0 ≤ s := by
        have hat := loOk_at hlok (i := i) (o := o) (by simp [hin, hoi])
        rw [Nat.zero_add] at hat
        rcases hat with h | ⟨m, h, _⟩ | ⟨_, e, he, hb, h⟩
        · omega
        · rw [hno] at h; cases h
        · have hbk : edgesBack 0 ops.toList = true := by
            simp only [confOk, Bool.and_eq_true] at hok
            exact hok.1.1.1.1.2
          have := edgesBack_spec hbk (i := i) (o := o) (by simpa using hoi) e he hb
          have := hls e.on (by omega) (hdep e he hb)
          omega
      refine ob v w K s hlo hI hdv (Lib.hid fun u w' hB hu => HK.out u w' ⟨hv' u w' (Only.of_below hB) hu, s, fun k m hk => ?_, hsl, fun j hj hl => ?_, hIb s w w' hI hB⟩)
      · rw [getD_set_ne false (fun e => idx_none hno k (by rw [hk, e]))]
        exact hs k m hk
      · by_cases hji : j = i
        · rw [hji]; exact hlo
        · rw [getD_set_ne false (Ne.symm hji)] at hl
          exact hls j hj hl
    · rename_i k0 hsome
      have hk0 := idx_some hsome
      have hkl : k0 < ms.length := (List.getElem?_eq_some_iff.1 hk0).1
      have hsk : s = k0 := by
        have h1 : ¬ k0 < s := fun h => by
          have := (hs k0 i hk0).2 h
          rw [hif] at this
          cases this
        match k0, hk0, h1 with
        | 0, _, h1 => omega
        | j + 1, hk0, h1 =>
          obtain ⟨a, ha⟩ : ∃ a, ms[j]? = some a := ⟨_, List.getElem?_eq_getElem (by have := (List.getElem?_eq_some_iff.1 hk0).1; omega)⟩
          obtain ⟨o', ho', e, he, hb, hea⟩ := chainMs_at hch ha hk0
          rw [hoi] at ho'
          cases ho'
          have h2 := hdep e he hb
          rw [hea] at h2
          have := (hs j a ha).1 h2
          omega
      subst hsk
      refine ob v w K hI hdv (Lib.hid fun u w' hI' hO hu => HK.out u w' ⟨hv' u w' hO hu, s + 1, fun k m hk => ?_, by omega, fun j hj hl => ?_, hI'⟩)
      · by_cases e : m = i
        · subst e
          have := incMs_inj hinc hk hk0
          subst this
          rw [hit]
          simp
        · rw [getD_set_ne false (Ne.symm e), hs k m hk]
          have : k ≠ s := fun h => by
            rw [h, hk0] at hk
            cases hk
            exact e rfl
          omega
      · by_cases hji : j = i
        · subst hji
          have hat := loOk_at hlok (i := j) (o := o) (by simp [hin, hoi])
          rw [Nat.zero_add] at hat
          rcases hat with h | ⟨m, h, h'⟩ | ⟨h, _⟩
          · omega
          · rw [hsome] at h; cases h; exact h'
          · rw [hsome] at h; cases h
        · rw [getD_set_ne false (Ne.symm hji)] at hl
          have := hls j hj hl
          omega
  · intro v
    refine ⟨fun j hj hl => (by rw [getD_replicate_false] at hl; cases hl), 0, fun k m hk => ?_, Nat.zero_le _, fun j hj hl => (by rw [getD_replicate_false] at hl; cases hl), h0⟩
    rw [getD_replicate_false]
    simp
  · intro v w ⟨hv, s, hs, hsl, _, hI⟩
    have hall : ∀ j, j < n → (headListed n (ops.size - n)).getD j false = true := fun j hj => by
      simp only [headListed]
      rw [Array.getD_eq_getD_getElem?, List.getElem?_toArray, List.getElem?_append_left (by simpa using hj)]
      simp [hj]
    have hsn : s = ms.length := by
      rcases Nat.lt_or_ge s ms.length with h | h
      · have h1 : ms[s]? = some ms[s] := List.getElem?_eq_getElem h
        have h2 := (hs s _ h1).1 (hall _ (incMs_lt hinc h1).1)
        omega
      · omega
    subst hsn
    exact hend v w hI (fun j hj => hv j hj (hall j hj))
theorem conf6Rules {S : List Nat} : (∀ (F : List (FactS S)) (v : Nat → Value) (w : World), DepsS F v w [] = True) ∧ (∀ (F : List (FactS S)) (v : Nat → Value) (w : World) (e : Edge) (r : List Edge), DepsS F v w (e :: r) = ((Region.binds .any e = true → fpS F e.on (v e.on) w) ∧ DepsS F v w r)) ∧ (∀ (x : FactS S) l u w, fpS (x :: l) 0 u w = x.p u w) ∧ (∀ (x : FactS S) l n u w, fpS (x :: l) (n + 1) u w = fpS l n u w) ∧ (∀ (x u : Value) (w : World), (FactS.eq (S := S) x).p u w = (u = x)) :=
  ⟨fun _ _ _ => rfl, fun _ _ _ _ _ => rfl, fun _ _ _ _ => rfl, fun _ _ _ _ _ => rfl, fun _ _ _ => rfl⟩
end Go.Rv
namespace Go.Rv
open Go.RowKit
set_option linter.unusedVariables false
def Obl11 (S : List Nat) (P : Program) (ops : Array Oper) (Q : Exit → Act → World → Prop) (A : (Nat → Value) → Act) (w0 : World) (F : List (FactS S)) (I : World → Prop) (G : Value → World → Prop) (iw : Nat) (i : Nat) (o : Oper) : Prop :=
  cond (i == iw) (∀ (v : Nat → Value) (w : World) (K : Act → World → Prop), Only S w0 w → I w → DepsS F v w o.after.toList →
      Hid (∀ u w', Only S w w' → G u w' → K ((A v).put o.dst u) w') → wpList P ops (Exit.then K Q) [o] (A v) w)
    (∀ (v : Nat → Value) (w : World) (K : Act → World → Prop), Only S w0 w → DepsS F v w o.after.toList →
      Hid (∀ u w', Below w.heap.size w w' → fpS F i u w' → K ((A v).put o.dst u) w') → wpList P ops (Exit.then K Q) [o] (A v) w)
def Obls11 (S : List Nat) (P : Program) (ops : Array Oper) (Q : Exit → Act → World → Prop) (A : (Nat → Value) → Act) (w0 : World) (F : List (FactS S)) (I : World → Prop) (G : Value → World → Prop) (iw : Nat) : Nat → List Oper → Prop
  | _, [] => True
  | i, o :: r => Obl11 S P ops Q A w0 F I G iw i o ∧ Obls11 S P ops Q A w0 F I G iw (i + 1) r
theorem Obls11.at {S : List Nat} {P : Program} {ops : Array Oper} {Q : Exit → Act → World → Prop} {A : (Nat → Value) → Act} {w0 : World} {F : List (FactS S)} {I : World → Prop} {G : Value → World → Prop} {iw : Nat} : ∀ {k : Nat} {l : List Oper}, Obls11 S P ops Q A w0 F I G iw k l → ∀ {i : Nat} {o : Oper}, l[i]? = some o → Obl11 S P ops Q A w0 F I G iw (k + i) o
  | _, [], _, _, _, h => by simp at h
  | k, _ :: r, h, 0, _, ho => by simp at ho; subst ho; exact h.1
  | k, _ :: r, h, i + 1, _, ho => by
    have := Obls11.at h.2 (i := i) (by simpa using ho)
    rwa [show k + 1 + i = k + (i + 1) by omega] at this
/-- none of the first leans on the writing one -/
def noDep (ops : Array Oper) (n iw : Nat) : Bool := decide (iw < n) && (List.range n).all fun i => match ops[i]? with | some o => o.after.all fun e => !(Region.binds .any e) || !(e.on == iw) | none => true
theorem wp_region_conf11 {P : Program} {ops : Array Oper} {Q : Exit → Act → World → Prop} {a0 : Act} {w0 : World} {id : Nat} (S : List Nat) (n : Nat) (F : List (FactS S)) (iw : Nat) (I : World → Prop) (G : Value → World → Prop) (A : (Nat → Value) → Act) (hm : P.follows .mixedOrders = true) (hok : confOk ops n = true) (hnd : noDep ops n iw = true)
    (hA : ∀ v, putAll v 0 (ops.toList.take n) a0 = A v) (h0 : I w0.drew) (hIb : ∀ w w', I w → Below w.heap.size w w' → I w') (hGb : ∀ u w w', G u w → Below w.heap.size w w' → G u w') (ho : Obls11 S P ops Q A w0 F I G iw 0 (ops.toList.take n))
    (hend : ∀ v w, Only S w0 w → (∀ j, j < n → (j == iw) = false → fpS F j (v j) w) → G (v iw) w → wpList P ops Q (ops.toList.drop n) (A v) w) : (Code.region id ops true).wp P Q a0 w0 := by
  simp only [noDep, Bool.and_eq_true, decide_eq_true_eq, List.all_eq_true, List.mem_range] at hnd
  obtain ⟨hiw, hnd⟩ := hnd
  refine wp_region_conf3 n (fun L v w => (∀ j, j < n → (j == iw) = false → L.getD j false = true → fpS F j (v j) w) ∧ Only S w0 w ∧ (L.getD iw false = false → I w) ∧ (L.getD iw false = true → G (v iw) w)) A hm hok hA ?_ ?_ ?_
  · intro i o hin hoi L v w K hui hdep ⟨hv, hOw, hI, hG⟩ HK
    have hilt : i < L.size := by
      rcases Nat.lt_or_ge i L.size with h | h
      · exact h
      · simp [Array.getElem?_eq_none h] at hui
    have hif : L.getD i false = false := by simp [hilt] at hui ⊢; exact hui
    have hit : (L.setIfInBounds i true).getD i false = true := by simp [hilt]
    have hdv : ∀ l : List Edge, (∀ e ∈ l, e ∈ o.after) → DepsS F v w l := by
      intro l
      induction l with
      | nil => intro _; exact trivial
      | cons e r ihl =>
        intro hl
        refine ⟨fun hb => hv e.on ?_ ?_ (hdep e (hl e (by simp)) hb), ihl fun x hx => hl x (by simp [hx])⟩
        · have hbk : edgesBack 0 ops.toList = true := by
            simp only [confOk, Bool.and_eq_true] at hok
            exact hok.1.1.1.1.2
          have := edgesBack_spec hbk (i := i) (o := o) (by simpa using hoi) e (hl e (by simp)) hb
          omega
        · have h1 := hnd i hin
          rw [hoi] at h1
          simp only [Array.all_eq_true] at h1
          obtain ⟨k, hk, hke⟩ := Array.getElem_of_mem (hl e (by simp))
          have h3 := h1 k hk
          rw [hke, hb, Bool.not_true, Bool.false_or] at h3
          simpa using h3
    have hdv := hdv o.after.toList (fun e he => by simpa using he)
    have ob := ho.at (i := i) (o := o) (by simp [hin, hoi])
    rw [Nat.zero_add] at ob
    unfold Obl11 at ob
    cases hiiw : i == iw
    · rw [hiiw] at ob
      have hne : i ≠ iw := by simpa using hiiw
      refine ob v w K hOw hdv (Lib.hid fun u w' hB hu => HK.out u w' ⟨fun j hj hjw hl => ?_, hOw.trans (Only.of_below hB), fun h => ?_, fun h => ?_⟩)
      · by_cases hji : j = i
        · subst hji
          rw [show upd v j u j = u by simp [upd]]
          exact hu
        · rw [show upd v i u j = v j by simp [upd, hji]]
          rw [getD_set_ne false (Ne.symm hji)] at hl
          exact (hv j hj hjw hl).st (Only.of_below hB)
      · rw [getD_set_ne false hne] at h
        exact hIb w w' (hI h) hB
      · rw [getD_set_ne false hne] at h
        rw [show upd v i u iw = v iw by simp [upd, Ne.symm hne]]
        exact hGb _ w w' (hG h) hB
    · rw [hiiw] at ob
      have he : i = iw := by simpa using hiiw
      subst he
      refine ob v w K hOw (hI hif) hdv (Lib.hid fun u w' hO hu => HK.out u w' ⟨fun j hj hjw hl => ?_, hOw.trans hO, fun h => ?_, fun h => ?_⟩)
      · have hji : j ≠ i := by simpa using hjw
        rw [show upd v i u j = v j by simp [upd, hji]]
        rw [getD_set_ne false (Ne.symm hji)] at hl
        exact (hv j hj hjw hl).st hO
      · rw [hit] at h
        cases h
      · rw [show upd v i u i = u by simp [upd]]
        exact hu
  · intro v
    refine ⟨fun j hj _ hl => (by rw [getD_replicate_false] at hl; cases hl), (Only.refl _ _).drew, fun _ => h0, fun h => (by rw [getD_replicate_false] at h; cases h)⟩
  · intro v w ⟨hv, hOw, hI, hG⟩
    have hall : ∀ j, j < n → (headListed n (ops.size - n)).getD j false = true := fun j hj => by
      simp only [headListed]
      rw [Array.getD_eq_getD_getElem?, List.getElem?_toArray, List.getElem?_append_left (by simpa using hj)]
      simp [hj]
    exact hend v w hOw (fun j hj hjw => hv j hj hjw (hall j hj)) (hG (hall iw hiw))
theorem conf11Rules {S : List Nat} : (∀ (F : List (FactS S)) (v : Nat → Value) (w : World), DepsS F v w [] = True) ∧ (∀ (F : List (FactS S)) (v : Nat → Value) (w : World) (e : Edge) (r : List Edge), DepsS F v w (e :: r) = ((Region.binds .any e = true → fpS F e.on (v e.on) w) ∧ DepsS F v w r)) := ⟨fun _ _ _ => rfl, fun _ _ _ _ _ => rfl⟩
end Go.Rv
namespace Go.Rv
open Go.RowKit
theorem wpList_guard_un {P : Program} {ops : Array Oper} {Q : Exit → Act → World → Prop} {dst : Option Tmp} {op : Op} {type : TypeId} {pos : String} {after : Array Edge} {g : Nat} {b : Bool} {a : Act} {w : World}
    (hy : (yielded ops a.tmps g == some b) = false) (h : Q .normal (a.put dst undef) w) : wpList P ops Q [⟨dst, op, type, pos, after, some (g, b)⟩] a w := by
  have hw : Region.wanted (⟨dst, op, type, pos, after, some (g, b)⟩ : Oper) (yielded ops a.tmps) = false := by simp only [Region.wanted]; exact hy
  simp only [wpList, hw, Bool.false_eq_true, if_false]
  exact h
end Go.Rv
namespace Go.Proofs.Ytoiephmngdecaaa
open Go.RowKit Go.Rv Rl Frm
set_option linter.unusedVariables false
attribute [local go_sem] Oper.semAt_some
theorem filled_ch (c : Ch) (h : ChQ c) (ie : Array Value) (h0 : ie = chC ch0) : Instr.fill (fun i => some (i * 41, 41)) ((Array.range (1 * 41)).map (ie[· % 41]!)) [(0, .agg (chC c))] = some (chC c) := by
  obtain ⟨⟨⟨k, f, c, bl, m, t, l⟩, z, o⟩, s⟩ := c
  obtain ⟨fn, rfl⟩ := list_fn l 32 h.1
  subst h0
  kernel_rfl
/-- a slice of one choice is made -/
theorem wpList_slice1h {w : World} {ops : Array Oper} {rest : List Oper} {o : Oper} {a : Act} {Q : Exit → Act → World → Prop} (hg : o.guard = none) (x : Operand) (ho : o.op = .buildSlice 95 1 #[(0, x)]) (c : Ch) (hq : ChQ c) (X : Array Value) (hX : chC c = X) (hx : a.eval x = .agg X)
    (h : wpList Try.prog ops Q rest (a.put o.dst (.slice (some ⟨w.heap.size, 0, none⟩) 1 1)) (w.alloc (.cells X 104))) : wpList Try.prog ops Q (o :: rest) a w := by
  subst hX
  have hi := Try.infoCh
  cases hie : Try.prog.info? 104 with
  | none => rw [hie] at hi; cases hi
  | some ie =>
    rw [hie, Option.map_some, Option.some.injEq, Prod.mk.injEq] at hi
    obtain ⟨hz, hs⟩ := hi
    refine wpList_buildSlice hg 95 104 1 #[(0, x)] ho (chC c) ie (.agg (chC ch0)) Try.underlying95 hie hz (by rw [hs]; decide) (by rw [hs]; decide) ?_ h
    rw [hs]
    have h1 := filled_ch c hq _ rfl
    simp only [List.map_toArray, List.map_cons, List.map_nil, hx]
    exact h1
theorem built_grp (f c : Int) : Try.prog.built 97 [(0, .int .i64 f), (1, .int .i64 c)] = some #[.int .i64 f, .int .i64 c, .slice none 0 0] := by kernel_rfl
def FactS.rowSl {S : List Nat} (B : Nat) (C : Array Value) (t : TypeId) (hS : ∀ x ∈ S, x < B) : FactS S := ⟨fun u w => ∃ g, u = .slice (some ⟨g, 0, none⟩) 1 1 ∧ B ≤ g ∧ w.heap[g]? = some (.cells C t (0, 0)), fun u w w' ⟨g, e, hb, h⟩ hO => ⟨g, e, hb, (hO.block g (Array.getElem?_eq_some_iff.1 h).1 (fun hm => by have := hS _ hm; omega)).trans h⟩⟩
theorem RolIs.pushed {w w' : World} {B q p le ll ce cl sb : Nat} {g : Geo.G} {v : Value} {st : St} (h : RolIs w B q p le ll ce cl sb g v st) {SB : List Nat} (hO : Only SB w w') (hSB : ∀ x ∈ SB, v.ownBlock = some x) (u : Value) (ol : List Ch) (hv : OwnM w' 104 41 chC ChQ B u ol) : RolIs (w'.setCell ⟨q, 259, none⟩ u) B q p le ll ce cl sb g u { st with ol := ol } := by
  obtain ⟨n1, n2, n3, n4, n5, n6, nv⟩ := h.ne
  have key : ∀ x ∈ SB, x ≠ q ∧ x ≠ p ∧ x ≠ le ∧ x ≠ ll ∧ x ≠ sb := fun x hx => nv x (hSB x hx)
  have hq := hO.get h.hq (fun hm => (key _ hm).1 rfl)
  have h2 := heap_setCell_same w' q 259 _ _ u hq
  rw [show (259 : Nat) = 256 + 3 from rfl, rolC_set] at h2
  have hO2 : Only [q] w' (w'.setCell ⟨q, 259, none⟩ u) := (Only.refl _ _).setCell (.inl (by simp)) _
  have hm := h.hm.only hO (fun hm => (key _ hm).2.1 rfl) (fun hm => (key _ hm).2.2.1 rfl) (fun hm => (key _ hm).2.2.2.1 rfl)
  refine ⟨h2, hv.only hO2 (fun k hk => ?_), hm.only hO2 (by simp [Ne.symm n1]) (by simp [Ne.symm n2]) (by simp [Ne.symm n3]), hO2.get (hO.get h.hs (fun hm => (key _ hm).2.2.2.2 rfl)) (by simp [Ne.symm n4]), by have h1 := hO.size; have h2 := hO2.size; have := h.hB; omega, h.hok, h.hn, h.hne⟩
  obtain ⟨-, C, hC⟩ := hv.base_le hk
  simp only [List.mem_singleton]
  intro e
  subst e
  have := hC.symm.trans hq
  simp at this
namespace Rl
theorem lieAll_snoc (g : Geo.G) (first : Int) : ∀ (l : List Ch) (i : Nat) (c : Ch) (st : St), lieAll g first (l ++ [c]) i st = lie g (lieAll g first l i st) (first + ((i + l.length : Nat) : Int)) c
  | [], i, c, st => rfl
  | x :: l, i, c, st => by
    have ih := lieAll_snoc g first l (i + 1) c (lie g st (first + (i : Nat)) x)
    rw [List.cons_append]
    unfold lieAll
    rw [ih, show i + 1 + l.length = i + (x :: l).length by simp; omega]
theorem lieAll_ol (g : Geo.G) (first : Int) (ol : List Ch) : ∀ (l : List Ch) (i : Nat) (st : St), lieAll g first l i { st with ol := ol } = { lieAll g first l i st with ol := ol }
  | [], _, _ => rfl
  | x :: l, i, st => by
    unfold lieAll
    rw [← lieAll_ol g first ol l (i + 1) (lie g st (first + (i : Nat)) x)]
    rfl
theorem lieAll_keeps (g : Geo.G) (first : Int) : ∀ (l : List Ch) (i : Nat) (st : St), (lieAll g first l i st).first = st.first ∧ (lieAll g first l i st).count = st.count ∧ (lieAll g first l i st).ol = st.ol ∧ (lieAll g first l i st).applied = st.applied
  | [], _, _ => ⟨rfl, rfl, rfl, rfl⟩
  | x :: l, i, st => by
    unfold lieAll
    exact lieAll_keeps g first l (i + 1) (lie g st (first + (i : Nat)) x)
end Rl
end Go.Proofs.Ytoiephmngdecaaa
namespace Go.Proofs.Ytoiephmngdecaaa
open Go.RowKit Go.Rv Frm
set_option linter.unusedVariables false
theorem Try.infoRE : (Try.prog.info? 72).map (fun i => (i.zero, i.size)) = some (some (.agg (EC En.E.zero)), 38) := by kernel_rfl
theorem size_re {e : En.E} (h : e.bytes.length = 32) : (Try.prog.info? 72).map (·.size) = some (EC e).size := by rw [EC_size, h]; exact (zero_of_info Try.infoRE).2
theorem Try.infoA32 : (Try.prog.info? 62).map (fun i => (i.zero, i.size)) = some (some (.agg (byteCells (List.replicate 32 0))), 32) := by kernel_rfl
theorem built_re (k f c b m t : Int) (l : List Nat) (hl : l.length = 32) : Try.prog.built 72 [(0, .int .i64 k), (1, .int .i64 f), (2, .int .i64 c), (3, .int .i64 b), (4, .int .i64 m), (5, .int .i64 t), (6, .agg (byteCells l))] = some (EC ⟨k, f, c, b, m, t, l⟩) := by
  obtain ⟨g, rfl⟩ := list_fn l 32 hl
  kernel_rfl
theorem built_a32 : Try.prog.built 62 [] = some (byteCells (List.replicate 32 0)) := by kernel_rfl
set_option maxRecDepth 100000 in
set_option maxHeartbeats 4000000 in
theorem rright_core (k f c b m t : Int) (C : Array Value) (BL : List Value) (bz : Bool) (w : World)
    (hc : ∀ W : World, W.heap[w.heap.size]? = some (.cells C 72 (0, 0)) → (W.cell? ⟨w.heap.size, 0, none⟩ = some (.int .i64 k) ∧ W.cell? ⟨w.heap.size, 1, none⟩ = some (.int .i64 f) ∧ W.cell? ⟨w.heap.size, 2, none⟩ = some (.int .i64 c) ∧ W.cell? ⟨w.heap.size, 3, none⟩ = some (.int .i64 b) ∧ W.cell? ⟨w.heap.size, 4, none⟩ = some (.int .i64 m) ∧ W.cell? ⟨w.heap.size, 5, none⟩ = some (.int .i64 t)) ∧ W.rangeAt w.heap.size 6 BL)
    (hIL : (Try.prog.info? 62).map (·.size) = some BL.length) (hq : ∀ W, (Op.equalIn 10000 62 (.agg BL.toArray) (.agg #[.int .u8 0, .int .u8 0, .int .u8 0, .int .u8 0, .int .u8 0, .int .u8 0, .int .u8 0, .int .u8 0, .int .u8 0, .int .u8 0, .int .u8 0, .int .u8 0, .int .u8 0, .int .u8 0, .int .u8 0, .int .u8 0, .int .u8 0, .int .u8 0, .int .u8 0, .int .u8 0, .int .u8 0, .int .u8 0, .int .u8 0, .int .u8 0, .int .u8 0, .int .u8 0, .int .u8 0, .int .u8 0, .int .u8 0, .int .u8 0, .int .u8 0, .int .u8 0])).run Try.prog W = .ok bz W) :
    Calls Try.prog 61 #[.agg C] w fun x w' => x = .returned (.bool (if decide (f < 0) = true then false else if decide (281474976710655 < f) = true then false else if decide (b < 0) = true then false else if decide (255 < b) = true then false else if decide (t < 0) = true then false else if decide (65535 < t) = true then false else if decide (c < 1) = true then false else if (k == 1) = true then (decide (c ≤ 4) && (m == 0)) else if (k == 2) = true then ((c == 1) && (decide (1 ≤ m) && (decide (m ≤ 256 - b) && bz))) else ((k == 3) && ((c == 1) && (m == 0))))) ∧ Below w.heap.size w w' := by
  obtain ⟨W0, hW0⟩ : ∃ W0, w.alloc (.cells C 72) = W0 := ⟨_, rfl⟩
  have hE0 : W0.heap[w.heap.size]? = some (.cells C 72 (0, 0)) := by rw [← hW0]; exact heap_alloc_new w _
  have hB : Below w.heap.size w W0 := by rw [← hW0]; exact (Below.refl _ w).alloc (Nat.le_refl _) _
  obtain ⟨⟨c0, c1, c2, c3, c4, c5⟩, hmid⟩ := hc W0 hE0
  have HW0 := Lib.hid hW0
  have HIL := Lib.hid hIL
  have HQ := Lib.hid hq
  have HMID := Lib.hid hmid
  clear hW0 hE0 hc hIL hq hmid
  by_cases t1 : decide (f < 0) = true
  · rw [if_pos t1]
    go_enter Try.func61, Try.ntmps61
    go_upto_region 1 with (fail)
    rw [HW0.out]
    go_wp2
    go_ret
    exact ⟨rfl, hB⟩
  rw [if_neg t1]
  rw [Bool.not_eq_true] at t1
  by_cases t2 : decide (281474976710655 < f) = true
  · rw [if_pos t2]
    go_enter Try.func61, Try.ntmps61
    go_upto_region 1 with (fail)
    rw [HW0.out]
    go_wp2
    go_ret
    exact ⟨rfl, hB⟩
  rw [if_neg t2]
  rw [Bool.not_eq_true] at t2
  by_cases t3 : decide (b < 0) = true
  · rw [if_pos t3]
    go_enter Try.func61, Try.ntmps61
    go_upto_region 1 with (fail)
    rw [HW0.out]
    go_wp2
    go_ret
    exact ⟨rfl, hB⟩
  rw [if_neg t3]
  rw [Bool.not_eq_true] at t3
  by_cases t4 : decide (255 < b) = true
  · rw [if_pos t4]
    go_enter Try.func61, Try.ntmps61
    go_upto_region 1 with (fail)
    rw [HW0.out]
    go_wp2
    go_ret
    exact ⟨rfl, hB⟩
  rw [if_neg t4]
  rw [Bool.not_eq_true] at t4
  by_cases t5 : decide (t < 0) = true
  · rw [if_pos t5]
    go_enter Try.func61, Try.ntmps61
    go_upto_region 1 with (fail)
    rw [HW0.out]
    go_wp2
    go_ret
    exact ⟨rfl, hB⟩
  rw [if_neg t5]
  rw [Bool.not_eq_true] at t5
  by_cases t6 : decide (65535 < t) = true
  · rw [if_pos t6]
    go_enter Try.func61, Try.ntmps61
    go_upto_region 1 with (fail)
    rw [HW0.out]
    go_wp2
    go_ret
    exact ⟨rfl, hB⟩
  rw [if_neg t6]
  rw [Bool.not_eq_true] at t6
  by_cases t7 : decide (c < 1) = true
  · rw [if_pos t7]
    go_enter Try.func61, Try.ntmps61
    go_upto_region 1 with (fail)
    rw [HW0.out]
    go_wp2
    go_ret
    exact ⟨rfl, hB⟩
  rw [if_neg t7]
  rw [Bool.not_eq_true] at t7
  have hb0 : 0 ≤ b := by have := of_decide_eq_false t3; omega
  have hb1 : b ≤ 255 := by have := of_decide_eq_false t4; omega
  by_cases t8 : (k == 1) = true
  · rw [if_pos t8]
    cases u1 : decide (c ≤ 4)
    · go_enter Try.func61, Try.ntmps61
      go_upto_region 1 with (fail)
      rw [HW0.out]
      go_wp2
      go_ret
      exact ⟨rfl, hB⟩
    · skip
      cases u2 : m == 0
      · go_enter Try.func61, Try.ntmps61
        go_upto_region 1 with (fail)
        rw [HW0.out]
        go_wp2
        go_ret
        exact ⟨rfl, hB⟩
      · go_enter Try.func61, Try.ntmps61
        go_upto_region 1 with (fail)
        rw [HW0.out]
        go_wp2
        go_ret
        exact ⟨rfl, hB⟩
  rw [if_neg t8]
  rw [Bool.not_eq_true] at t8
  by_cases t9 : (k == 2) = true
  · rw [if_pos t9]
    cases u1 : c == 1
    · go_enter Try.func61, Try.ntmps61
      go_upto_region 1 with (fail)
      rw [HW0.out]
      go_wp2
      go_ret
      exact ⟨rfl, hB⟩
    · skip
      cases u2 : decide (1 ≤ m)
      · go_enter Try.func61, Try.ntmps61
        go_upto_region 1 with (fail)
        rw [HW0.out]
        go_wp2
        go_ret
        exact ⟨rfl, hB⟩
      · skip
        cases u3 : decide (m ≤ 256 - b)
        · go_enter Try.func61, Try.ntmps61
          go_upto_region 1 with (fail)
          rw [HW0.out]
          go_wp2
          go_ret
          exact ⟨rfl, hB⟩
        · go_enter Try.func61, Try.ntmps61
          go_upto_region 1 with (fail)
          rw [HW0.out]
          have hq := HQ.out
          go_wp2_with (refine wpList_load_mid_asked (by rfl) 62 _ rfl w.heap.size 6 rfl BL _ HMID.out Try.underlying62 rfl HIL.out ?_)
          go_ret
          exact ⟨rfl, hB⟩
  rw [if_neg t9]
  rw [Bool.not_eq_true] at t9
  cases u1 : k == 3
  · go_enter Try.func61, Try.ntmps61
    go_upto_region 1 with (fail)
    rw [HW0.out]
    go_wp2
    go_ret
    exact ⟨rfl, hB⟩
  · skip
    cases u2 : c == 1
    · go_enter Try.func61, Try.ntmps61
      go_upto_region 1 with (fail)
      rw [HW0.out]
      go_wp2
      go_ret
      exact ⟨rfl, hB⟩
    · skip
      cases u3 : m == 0
      · go_enter Try.func61, Try.ntmps61
        go_upto_region 1 with (fail)
        rw [HW0.out]
        go_wp2
        go_ret
        exact ⟨rfl, hB⟩
      · go_enter Try.func61, Try.ntmps61
        go_upto_region 1 with (fail)
        rw [HW0.out]
        go_wp2
        go_ret
        exact ⟨rfl, hB⟩
set_option maxRecDepth 100000 in
theorem rright_any (e : En.E) (w : World) (hb : EBody e) :
    Calls Try.prog 61 #[.agg (EC e)] w fun x w' => x = .returned (.bool (En.right e)) ∧ Below w.heap.size w w' := by
  have h := rright_core e.kind e.first e.count e.block e.many e.mate (EC e) (byteCells e.bytes).toList (decide (e.bytes = List.replicate 32 0)) w (fun W hW => ⟨ent_cells hW, ent_range hW⟩)
    (by rw [Array.length_toList, size_byteCells, hb.1]; exact (zero_of_info Try.infoA32).2) (fun W => by rw [Array.toArray_toList]; exact eq_arr32 e.bytes (List.replicate 32 0) hb.1 (by simp) hb.2 (by simp) _ (by simp) W)
  refine h.mono ?_
  rintro x w' ⟨rfl, hB⟩
  refine ⟨?_, hB⟩
  congr 2
  unfold En.right En.counts En.inB
  by_cases t1 : e.first < 0
  · simp [t1]; omega
  by_cases t2 : 281474976710655 < e.first
  · simp [t2]; omega
  by_cases t3 : e.block < 0
  · simp [t3]; omega
  by_cases t4 : 255 < e.block
  · simp [t4]; omega
  by_cases t5 : e.mate < 0
  · simp [t5]; omega
  by_cases t6 : 65535 < e.mate
  · simp [t6]; omega
  have a1 : decide (0 ≤ e.first) = true := decide_eq_true (by omega)
  have a2 : decide (e.first ≤ 281474976710655) = true := decide_eq_true (by omega)
  have a3 : decide (0 ≤ e.block) = true := decide_eq_true (by omega)
  have a4 : decide (e.block ≤ 255) = true := decide_eq_true (by omega)
  have a5 : decide (0 ≤ e.mate) = true := decide_eq_true (by omega)
  have a6 : decide (e.mate ≤ 65535) = true := decide_eq_true (by omega)
  simp only [decide_eq_false t1, decide_eq_false t2, decide_eq_false t3, decide_eq_false t4, decide_eq_false t5, decide_eq_false t6, a1, a2, a3, a4, a5, a6, Bool.true_and, Bool.false_eq_true, if_false]
  by_cases t7 : e.count < 1
  · have b1 : decide (1 ≤ e.count) = false := decide_eq_false (by omega)
    have b2 : (e.count == 1) = false := by simp; omega
    simp only [decide_eq_true t7, b1, b2, if_true, Bool.false_and, Bool.and_false]
    split <;> simp
  · have b1 : decide (1 ≤ e.count) = true := decide_eq_true (by omega)
    simp only [decide_eq_false t7, b1, Bool.false_eq_true, if_false, Bool.true_and]
    split
    · rfl
    · split
      · cases (e.count == 1) <;> cases decide (1 ≤ e.many) <;> simp
      · rfl
end Go.Proofs.Ytoiephmngdecaaa
namespace Go.Proofs.Ytoiephmngdecaaa
open Go.RowKit Go.Rv
set_option linter.unusedVariables false
set_option maxRecDepth 100000 in
set_option maxHeartbeats 400000 in
theorem rread_any (a : Option Addr) (l : List Nat) (cap : Nat) (w : World) (hb : Bytes w a l) (hlen : l.length ≤ 7) :
    Calls Try.prog 60 #[.slice a l.length cap] w fun e w' => e = .returned (.int .i64 (Cod.rd l : Nat)) ∧ w = w' := by
  go_enter Try.func60, Try.ntmps60
  go_wp2
  go_loop [3, 4] (fun v i => ∃ k : Nat, k ≤ l.length ∧ i = .int .i64 ((k : Int) - 1) ∧ v = .int .i64 (Cod.rd (l.drop k) : Nat)) (fun _ i => (intOf i + 1).toNat)
  case atStart => exact ⟨l.length, by omega, rfl, by simp [Cod.rd]⟩
  case round =>
    obtain ⟨k, hk, rfl, rfl⟩ := hrel
    by_cases hlt : 0 < k
    · obtain ⟨j, rfl⟩ : ∃ j, k = j + 1 := ⟨k - 1, by omega⟩
      obtain ⟨b1, o1, c, rfl, hbl, hc, hc8, hlk⟩ := hb.at (show j < l.length by omega)
      have hs := Lib.hid (Cod.rd_drop l j c hlk)
      have hlt := Cod.rd_drop_lt l hb.1 (j + 1)
      have hpw := (Cod.pow_le (l.length - (j + 1)) (by omega)).1
      have hpw6 := Cod.pw_le6 (l.length - (j + 1)) (by omega)
      unfold Cod.pw at hpw6
      have hx : Cod.rd (l.drop (j + 1)) < 281474976710656 := Nat.lt_of_lt_of_le hlt hpw6
      clear hlt hpw hpw6 hlk
      generalize Cod.rd (l.drop (j + 1)) = x at *
      have e1 : ((j + 1 : Nat) : Int) - 1 = (j : Int) := by omega
      rw [e1]
      go_wp2
      go_round
      case rel => exact ⟨j, by omega, rfl, by rw [hs.out]; go_num⟩
      case measure => simp [intOf]
    · obtain rfl : k = 0 := by omega
      go_wp2
      go_ret
      exact ⟨by simp, rfl⟩
end Go.Proofs.Ytoiephmngdecaaa
namespace Go.Proofs.Ytoiephmngdecaaa
open Go.RowKit Go.Rv Frm
set_option linter.unusedVariables false
def rowOfFact (B : Nat) (C : Array Value) (t : TypeId) : Fact := ⟨fun u w => ∃ g, u = .pointer (some ⟨g, 0, none⟩) ∧ B ≤ g ∧ w.heap[g]? = some (.cells C t (0, 0)), fun u w w' ⟨g, e, hb, h⟩ hB => ⟨g, e, hb, (hB.block g (Array.getElem?_eq_some_iff.1 h).1).trans h⟩⟩
theorem built_re6 (k f c b m t : Int) : Try.prog.built 72 [(0, .int .i64 k), (1, .int .i64 f), (2, .int .i64 c), (3, .int .i64 b), (4, .int .i64 m), (5, .int .i64 t)] = some (EC ⟨k, f, c, b, m, t, List.replicate 32 0⟩) := by kernel_rfl
theorem built_re0 : Try.prog.built 72 [] = some (EC En.E.zero) := by kernel_rfl
/-- the bytes, k of them filled -/
def part32 (l : List Nat) (k : Nat) : List Nat := l.take k ++ List.replicate (32 - k) 0
theorem part32_length (l : List Nat) (k : Nat) (hl : l.length = 32) (h : k ≤ 32) : (part32 l k).length = 32 := by simp [part32, hl]; omega
theorem part32_set (l : List Nat) (k : Nat) (hl : l.length = 32) (h : k < 32) : (part32 l k).set k (l.getD k 0) = part32 l (k + 1) := by
  unfold part32
  rw [List.set_append_right _ _ (by simp [hl]; omega), List.length_take, hl, show k - min k 32 = 0 by omega, show 32 - k = (32 - (k + 1)) + 1 by omega, List.replicate_succ, List.set_cons_zero, List.take_succ_eq_append_getElem (show k < l.length by omega), List.append_assoc, List.getD_eq_getElem?_getD, List.getElem?_eq_getElem (show k < l.length by omega)]
  rfl
theorem part32_all (l : List Nat) (hl : l.length = 32) : part32 l 32 = l := by simp [part32, List.take_of_length_le (show l.length ≤ 32 by omega)]
theorem EC_set_byte (f : En.E) (k c : Nat) : (EC f).setIfInBounds (6 + k) (.int .u8 (c : Nat)) = EC { f with bytes := f.bytes.set k c } := by
  apply Array.toList_inj.1
  simp only [EC, Array.toList_setIfInBounds, Array.toList_append]
  rw [List.set_append_right _ _ (by simp)]
  simp [byteCells, List.map_set]
def RofPost (r : En.E × Int) (w : World) (e : Ending) (w' : World) : Prop := e = .returned (.tuple #[.agg (EC r.1), .bool (decide (r.2 = 0))]) ∧ Below w.heap.size w w'
set_option maxRecDepth 100000 in
set_option maxHeartbeats 4000000 in
theorem rof_any (kind : Int) (s : List Nat) (w : World) (hl : s.length = 44) (hs : ∀ c ∈ s, c < 256) :
    Calls Try.prog 42 #[.int .i64 kind, .agg (byteCells s)] w (RofPost (En.ofE kind s) w) := by
  have hz := (zero_of_info Try.infoRE).1
  have HIZ := Lib.hid (size_re (e := En.E.zero) (by simp [En.E.zero]))
  have hone := EC_one En.E.zero
  have HBZ := Lib.hid built_re0
  have hA0 := heap_alloc2_old w (.cells (byteCells s) 57) (.cells (EC En.E.zero) 72)
  have hC0 := heap_alloc2_new w (.cells (byteCells s) 57) (.cells (EC En.E.zero) 72)
  have hB0 : Below w.heap.size w ((w.alloc (.cells (byteCells s) 57)).alloc (.cells (EC En.E.zero) 72)) := ((Below.refl _ w).alloc (Nat.le_refl _) _).alloc (by simp) _
  have HL := Lib.hid hl
  have HS := Lib.hid hs
  have HBW := Lib.hid (fun (W : World) (h : W.heap[w.heap.size]? = some (.cells (byteCells s) 57 (0, 0))) => byteCells_row h hs)
  have hrd := fun (a b : Nat) (h : b ≤ 7) (hab : a + b ≤ 44) (cap : Nat) (W : World) (hb : Bytes W (some ⟨w.heap.size, 0, none⟩) s) => (show Calls Try.prog 60 #[.slice (some ⟨w.heap.size, a, none⟩) b cap] W fun e w' => e = .returned (.int .i64 (Cod.rd ((s.drop a).take b) : Nat)) ∧ W = w' by
    have hb2 := (hb.drop a).take b
    rw [Nat.zero_add] at hb2
    have hlen : ((s.drop a).take b).length = b := by rw [List.length_take, List.length_drop, HL.out]; omega
    have := rread_any (some ⟨w.heap.size, a, none⟩) ((s.drop a).take b) cap W hb2 (by omega)
    rwa [hlen] at this)
  have HRD := Lib.hid hrd
  have HC0 := Lib.hid (fun (W : World) (j : Nat) (h : W.heap[w.heap.size]? = some (.cells (byteCells s) 57 (0, 0))) (hj : j < 44) => (show W.cell? ⟨w.heap.size, j, none⟩ = some (.int .u8 (s.getD j 0 : Nat)) from (cell_of_row _ _ _ _ _ _ h).trans (byteCells_at s j (by rw [HL.out]; exact hj))))
  obtain ⟨k6, hk6⟩ : ∃ k, s.getD 6 0 = k := ⟨_, rfl⟩
  obtain ⟨k7, hk7⟩ : ∃ k, s.getD 7 0 = k := ⟨_, rfl⟩
  have hk6b : k6 < 256 := by
    rw [← hk6, List.getD_eq_getElem?_getD, List.getElem?_eq_getElem (by omega)]
    exact hs _ (List.getElem_mem _)
  have hk7b : k7 < 256 := by
    rw [← hk7, List.getD_eq_getElem?_getD, List.getElem?_eq_getElem (by omega)]
    exact hs _ (List.getElem_mem _)
  have hone1 : ∀ j, j < 44 → Cod.rd ((s.drop j).take 1) = s.getD j 0 := fun j h => by
    have hjl : j < s.length := by omega
    have h1 : (s.drop j).take 1 = [s[j]] := by rw [List.drop_eq_getElem_cons hjl]; rfl
    rw [h1, List.getD_eq_getElem?_getD, List.getElem?_eq_getElem hjl]
    show s[j] + 256 * 0 = s[j]
    omega
  obtain ⟨f0, hf0⟩ : ∃ f0 : En.E, f0 = ⟨kind, (Cod.rd ((s.drop 0).take 6) : Nat), (k6 : Nat), (k7 : Nat), (Cod.rd ((s.drop 8).take 2) : Nat), (Cod.rd ((s.drop 10).take 2) : Nat), List.replicate 32 0⟩ := ⟨_, rfl⟩
  have hbu := built_re6 kind (Cod.rd ((s.drop 0).take 6) : Nat) (k6 : Nat) (k7 : Nat) (Cod.rd ((s.drop 8).take 2) : Nat) (Cod.rd ((s.drop 10).take 2) : Nat)
  rw [← hf0] at hbu
  have hpar : En.parse kind s = { f0 with bytes := (s.drop 12).take 32 } := by
    rw [hf0]
    unfold En.parse
    rw [hone1 6 (by omega), hone1 7 (by omega), hk6, hk7, List.drop_zero]
  have HPAR := Lib.hid hpar
  have HIX0 := Lib.hid (size_re (e := f0) (by rw [hf0]; simp))
  have H1X0 := Lib.hid (EC_one f0)
  have HF0 := Lib.hid hf0
  have HK6 := Lib.hid hk6
  have HK7 := Lib.hid hk7
  obtain ⟨X0, hX0⟩ : ∃ X0, EC f0 = X0 := ⟨_, rfl⟩
  obtain ⟨Z, hZ⟩ : ∃ Z, EC En.E.zero = Z := ⟨_, rfl⟩
  obtain ⟨BS, hBS⟩ : ∃ BS, byteCells s = BS := ⟨_, rfl⟩
  have HZX0 : Hid (Z.size = X0.size) := Lib.hid (by rw [← hX0, ← hZ, EC_size, EC_size, hf0]; rfl)
  rw [hX0] at hbu HIX0 H1X0
  rw [hZ] at hz HIZ hone HBZ hA0 hC0 hB0
  rw [hBS] at hA0 hC0 hB0 HBW HC0 ⊢
  have HX0 := Lib.hid hX0
  have HZ := Lib.hid hZ
  have HBU := Lib.hid hbu
  clear hrd hl hs hk6 hk7 hone1 hf0 hbu hpar hX0 hZ hBS
  have zz : w.heap.size + 1 + 1 ≤ ((w.alloc (.cells BS 57)).alloc (.cells Z 72)).heap.size := by simp
  go_enter Try.func42, Try.ntmps42
  go_upto_region 1 with (fail)
  obtain ⟨W0, hW0⟩ : ∃ W0, (w.alloc (.cells BS 57)).alloc (.cells Z 72) = W0 := ⟨_, rfl⟩
  rw [hW0] at hA0 hC0 hB0 zz ⊢
  have HA1 := Lib.hid hA0
  have HC1 := Lib.hid hC0
  have HB1 := Lib.hid hB0
  have n0 : w.heap.size < W0.heap.size := by omega
  have n1 : w.heap.size + 1 < W0.heap.size := by omega
  have HZB : Hid (W0.heap.size ≤ W0.heap.size) := Lib.hid (Nat.le_refl _)
  clear hW0 hA0 hC0 hB0
  go_wp2
  refine wp_region_conf2 20 [Fact.eq ?rax0, Fact.eq ?rax1, Fact.eq ?rax2, Fact.eq ?rax3, Fact.eq ?rax4, Fact.eq ?rax5, Fact.eq ?rax6, Fact.eq ?rax7, Fact.eq ?rax8, Fact.eq ?rax9, Fact.eq ?rax10, Fact.eq ?rax11, Fact.eq ?rax12, Fact.eq ?rax13, Fact.eq ?rax14, Fact.eq ?rax15, Fact.eq ?rax16, Fact.eq ?rax17, Fact.eq (.agg X0), rowOfFact W0.heap.size Z 72] ?raA (by kernel_rfl) (by kernel_rfl) ?rahA ?raho ?rahend
  case rahA =>
    intro vv
    simp only [putRules, Nat.reduceAdd]
    rfl
  case raho =>
    refine ⟨?_, ?_, ?_, ?_, ?_, ?_, ?_, ?_, ?_, ?_, ?_, ?_, ?_, ?_, ?_, ?_, ?_, ?_, ?_, ?_, trivial⟩
    · intro vv W K hB hd HK
      simp only [confRules] at HK
      clear hd
      go_wp2
      refine HK.out _ _ (Below.refl _ _) ?_
      rfl
    · intro vv W K hB hd HK
      simp only [confRules] at HK
      clear hd
      go_wp2
      refine HK.out _ _ (Below.refl _ _) ?_
      rfl
    · intro vv W K hB hd HK
      simp only [confRules] at hd HK
      have h1 := hd
      clear hd
      simp only [h1] at HK ⊢
      clear h1
      go_wp2
      refine HK.out _ _ (Below.refl _ _) ?_
      rfl
    · intro vv W K hB hd HK
      simp only [confRules] at hd HK
      have h2 := hd
      clear hd
      simp only [h2] at HK ⊢
      clear h2
      have hT := HBW.out W ((hB.block w.heap.size n0).trans HA1.out)
      go_wp2_with (refine (HRD.out 0 6 (by omega) (by omega) _ _ hT).mono ?_; rintro e w9 ⟨rfl, rfl⟩)
      refine HK.out _ _ (Below.refl _ _) ?_
      rfl
    · intro vv W K hB hd HK
      simp only [confRules] at HK
      clear hd
      go_wp2
      refine HK.out _ _ (Below.refl _ _) ?_
      rfl
    · intro vv W K hB hd HK
      simp only [confRules] at hd HK
      have h4 := hd
      clear hd
      simp only [h4] at HK ⊢
      clear h4
      go_wp2
      refine HK.out _ _ (Below.refl _ _) ?_
      rfl
    · intro vv W K hB hd HK
      simp only [confRules] at hd HK
      have h5 := hd
      clear hd
      simp only [h5] at HK ⊢
      clear h5
      have hT := HC0.out W 6 ((hB.block w.heap.size n0).trans HA1.out) (by omega)
      rw [HK6.out] at hT
      go_wp2
      refine HK.out _ _ (Below.refl _ _) ?_
      rfl
    · intro vv W K hB hd HK
      simp only [confRules] at hd HK
      have h6 := hd
      clear hd
      simp only [h6] at HK ⊢
      clear h6
      go_wp2
      refine HK.out _ _ (Below.refl _ _) ?_
      rfl
    · intro vv W K hB hd HK
      simp only [confRules] at HK
      clear hd
      go_wp2
      refine HK.out _ _ (Below.refl _ _) ?_
      rfl
    · intro vv W K hB hd HK
      simp only [confRules] at hd HK
      have h8 := hd
      clear hd
      simp only [h8] at HK ⊢
      clear h8
      go_wp2
      refine HK.out _ _ (Below.refl _ _) ?_
      rfl
    · intro vv W K hB hd HK
      simp only [confRules] at hd HK
      have h9 := hd
      clear hd
      simp only [h9] at HK ⊢
      clear h9
      have hT := HC0.out W 7 ((hB.block w.heap.size n0).trans HA1.out) (by omega)
      rw [HK7.out] at hT
      go_wp2
      refine HK.out _ _ (Below.refl _ _) ?_
      rfl
    · intro vv W K hB hd HK
      simp only [confRules] at hd HK
      have h10 := hd
      clear hd
      simp only [h10] at HK ⊢
      clear h10
      go_wp2
      refine HK.out _ _ (Below.refl _ _) ?_
      rfl
    · intro vv W K hB hd HK
      simp only [confRules] at HK
      clear hd
      go_wp2
      refine HK.out _ _ (Below.refl _ _) ?_
      rfl
    · intro vv W K hB hd HK
      simp only [confRules] at hd HK
      have h12 := hd
      clear hd
      simp only [h12] at HK ⊢
      clear h12
      go_wp2
      refine HK.out _ _ (Below.refl _ _) ?_
      rfl
    · intro vv W K hB hd HK
      simp only [confRules] at hd HK
      obtain ⟨h13, h3⟩ := hd
      simp only [h13, h3] at HK ⊢
      clear h13 h3
      have hT := HBW.out W ((hB.block w.heap.size n0).trans HA1.out)
      go_wp2_with (refine (HRD.out 8 2 (by omega) (by omega) _ _ hT).mono ?_; rintro e w9 ⟨rfl, rfl⟩)
      refine HK.out _ _ (Below.refl _ _) ?_
      rfl
    · intro vv W K hB hd HK
      simp only [confRules] at HK
      clear hd
      go_wp2
      refine HK.out _ _ (Below.refl _ _) ?_
      rfl
    · intro vv W K hB hd HK
      simp only [confRules] at hd HK
      have h15 := hd
      clear hd
      simp only [h15] at HK ⊢
      clear h15
      go_wp2
      refine HK.out _ _ (Below.refl _ _) ?_
      rfl
    · intro vv W K hB hd HK
      simp only [confRules] at hd HK
      obtain ⟨h16, h14⟩ := hd
      simp only [h16, h14] at HK ⊢
      clear h16 h14
      have hT := HBW.out W ((hB.block w.heap.size n0).trans HA1.out)
      go_wp2_with (refine (HRD.out 10 2 (by omega) (by omega) _ _ hT).mono ?_; rintro e w9 ⟨rfl, rfl⟩)
      refine HK.out _ _ (Below.refl _ _) ?_
      rfl
    · intro vv W K hB hd HK
      simp only [confRules] at hd HK
      obtain ⟨h0, h3, h7, h11, h14, h17⟩ := hd
      simp only [h0, h3, h7, h11, h14, h17] at HK ⊢
      clear h0 h3 h7 h11 h14 h17
      go_wp2_with (refine wpList_build_asked (by rfl) 72 _ rfl #[(0, .int .i64 kind), (1, .int .i64 (Cod.rd ((s.drop 0).take 6) : Nat)), (2, .int .i64 (k6 : Nat)), (3, .int .i64 (k7 : Nat)), (4, .int .i64 (Cod.rd ((s.drop 8).take 2) : Nat)), (5, .int .i64 (Cod.rd ((s.drop 10).take 2) : Nat))] (by simp [Act.eval]) X0 HBU.out ?_)
      refine HK.out _ _ (Below.refl _ _) ?_
      rfl
    · intro vv W K hB hd HK
      simp only [confRules] at HK
      clear hd
      go_wp2
      refine HK.out _ _ ((Below.refl _ _).alloc (Nat.le_refl _) _) ?_
      exact ⟨_, rfl, Nat.le_trans HZB.out hB.size, heap_alloc_new _ _⟩
  case rahend =>
    intro vv W hB hf
    have e18 := hf 18 (by decide)
    obtain ⟨g, e19, lg, rg⟩ := hf 19 (by decide)
    simp only [endRules] at e18
    simp only [e18, e19, dropRules]
    clear hf e18 e19
    go_upto_region 3 with (refine wpList_store_row rfl 72 _ _ rfl g X0 rfl rfl 72 Z rg HIX0.out HZX0.out H1X0.out ?_)
    have hgN : w.heap.size + 1 < g := by omega
    have hbs := below_setRow (Below.refl g W) (Nat.le_refl _) X0
    have rg3 := setRow_heap W g Z X0 _ _ rg
    have hA3 := (hbs.block w.heap.size (by omega)).trans ((hB.block w.heap.size n0).trans HA1.out)
    have hC3 := (hbs.block (w.heap.size + 1) hgN).trans ((hB.block (w.heap.size + 1) n1).trans HC1.out)
    have hB3 := below_setRow (HB1.out.trans (hB.mono HB1.out.size)) (show w.heap.size ≤ g by omega) X0
    obtain ⟨W3, hW3⟩ : ∃ W3, W.setRow g X0 = W3 := ⟨_, rfl⟩
    rw [hW3] at rg3 hA3 hC3 hB3 ⊢
    have hz3 : g < W3.heap.size := (Array.getElem?_eq_some_iff.1 rg3).1
    obtain ⟨l, hl⟩ : ∃ l, (s.drop 12).take 32 = l := ⟨_, rfl⟩
    have hll : l.length = 32 := by rw [← hl, List.length_take, List.length_drop, HL.out]; rfl
    have hlg : ∀ k, k < 32 → l.getD k 0 = s.getD (12 + k) 0 := by
      intro k hk
      rw [← hl, List.getD_eq_getElem?_getD, List.getD_eq_getElem?_getD, List.getElem?_take, if_pos hk, List.getElem?_drop]
    have hP0 : ({ f0 with bytes := part32 l 0 } : En.E) = f0 := by
      have : part32 l 0 = f0.bytes := by rw [HF0.out]; simp [part32]
      rw [this]
    have HLL := Lib.hid hll
    have HLG := Lib.hid hlg
    have HP0 := Lib.hid hP0
    have HLS := Lib.hid hl
    have HR3 := Lib.hid rg3
    have HA3 := Lib.hid hA3
    have HC3 := Lib.hid hC3
    have HBB3 := Lib.hid hB3
    clear hl hll hlg hP0 hbs hW3 hA3 hC3 rg3 rg hB3 hB
    go_wp2
    go_loopw [8] (fun i wr => ∃ k : Nat, k ≤ 32 ∧ i = .int .i64 k ∧ wr.heap[g]? = some (.cells (EC { f0 with bytes := part32 l k }) 72 (0, 0)) ∧ Only [g] W3 wr) (fun i _ => 32 - (intOf i).toNat)
    case atStart => exact ⟨0, by omega, rfl, by rw [HP0.out, HX0.out]; exact HR3.out, Only.refl _ _⟩
    case round =>
      obtain ⟨k, hk, rfl, hg, hO⟩ := hrel
      have hA := (hO.block w.heap.size (by omega) (by simp; omega)).trans HA3.out
      by_cases hlt : k < 32
      · have hpl := part32_length l k HLL.out hk
        have hc := HC0.out wr (12 + k) hA (by omega)
        rw [← HLG.out k hlt] at hc
        have hc2 : wr.cell? ⟨g, 6 + k, none⟩ = some (.int .u8 ((part32 l k).getD k 0 : Nat)) := (cell_of_row _ _ _ _ _ _ hg).trans (EC_bytes _ k (by show k < (part32 l k).length; omega))
        have hf2 : wr.frozen? ⟨g, 6 + k, none⟩ = false := frozen_of_row _ _ _ _ _ hg
        have H := Lib.hid (show (wr.setCell ⟨g, 6 + k, none⟩ (.int .u8 (l.getD k 0 : Nat))).heap[g]? = some (.cells (EC { f0 with bytes := part32 l (k + 1) }) 72 (0, 0)) by
          rw [heap_setCell_same _ _ _ _ _ _ hg, EC_set_byte]
          show some (Obj.cells (EC { f0 with bytes := (part32 l k).set k (l.getD k 0) }) 72) = _
          rw [part32_set l k HLL.out hlt])
        obtain ⟨c, hcc⟩ : ∃ c, l.getD k 0 = c := ⟨_, rfl⟩
        obtain ⟨c', hcc'⟩ : ∃ c, (part32 l k).getD k 0 = c := ⟨_, rfl⟩
        rw [hcc] at hc H
        rw [hcc'] at hc2
        clear hg hpl hcc hcc'
        go_wp2
        go_roundw
        case rel => exact ⟨k + 1, by omega, by go_num, H.out, hO.setCell (.inl (by simp)) _⟩
        case measure => simp [intOf]; omega
      · obtain rfl : k = 32 := by omega
        rw [part32_all l HLL.out] at hg
        have hC := (hO.block (w.heap.size + 1) (by omega) (by simp; omega)).trans HC3.out
        have hBr := HBB3.out.trans (hO.below (B := w.heap.size) (by simp; omega) (by omega))
        have hzr : g < wr.heap.size := (Array.getElem?_eq_some_iff.1 hg).1
        obtain ⟨f1, hf1⟩ : ∃ f1 : En.E, ({ f0 with bytes := l } : En.E) = f1 := ⟨_, rfl⟩
        have hp1 : En.parse kind s = f1 := by rw [HPAR.out, HLS.out, hf1]
        rw [hf1] at hg
        have hb1 : EBody f1 := by rw [← hp1]; exact parse_ebody HL.out HS.out
        have HRI := Lib.hid (fun W => rright_any f1 W hb1)
        have HI1 := Lib.hid (size_re (e := f1) hb1.1)
        have H11 := Lib.hid (EC_one f1)
        have HZ1 : Hid (Z.size = (EC f1).size) := Lib.hid (by rw [← HZ.out, EC_size, EC_size, hb1.1]; rfl)
        have HG := Lib.hid hg
        have HOF : Hid (En.ofE kind s = if En.right f1 = true then (f1, 0) else (En.E.zero, 10)) := Lib.hid (by unfold En.ofE; rw [hp1])
        obtain ⟨X1, hX1⟩ : ∃ X, EC f1 = X := ⟨_, rfl⟩
        rw [hX1] at HG HRI HI1 H11 HZ1
        have HX1 := Lib.hid hX1
        clear hg hf1 hp1 hb1 hX1
        obtain ⟨rf, hrf⟩ : ∃ rf, En.right f1 = rf := ⟨_, rfl⟩
        rw [hrf] at HRI HOF
        clear hrf
        go_wp2_with (refine wpList_load_row rfl 72 _ rfl g rfl 72 _ _ _ HG.out Try.underlying72 rfl HI1.out ?_)
        refine (HRI.out _).mono ?_
        rintro e4 w4 ⟨rfl, hB4⟩
        have hC4 := (hB4.block (w.heap.size + 1) (by omega)).trans hC
        have hG4 := (hB4.block g hzr).trans HG.out
        have hBr4 := hBr.trans (hB4.mono hBr.size)
        cases rf
        · go_wp2_with (first | (refine wpList_build_asked (by rfl) 72 _ rfl #[] (by rfl) Z HBZ.out ?_) | (refine wpList_store_row rfl 72 _ _ rfl (w.heap.size + 1) Z rfl rfl 72 Z hC4 HIZ.out rfl hone ?_))
          refine bodyPost_ret (results_row_tmp rfl _ _ (w.heap.size + 1) 72 Z _ _ rfl (setRow_heap _ _ _ _ _ _ hC4) Try.underlying72 rfl HIZ.out) rfl ?_
          exact ⟨by rw [HOF.out, ← HZ.out]; rfl, below_setRow hBr4 (by omega) _⟩
        · go_wp2_with (first | (refine wpList_load_row rfl 72 _ rfl g rfl 72 _ _ _ hG4 Try.underlying72 rfl HI1.out ?_) | (refine wpList_store_row rfl 72 _ _ rfl (w.heap.size + 1) X1 rfl rfl 72 Z hC4 HI1.out HZ1.out H11.out ?_))
          refine bodyPost_ret (results_row_tmp rfl _ _ (w.heap.size + 1) 72 X1 _ _ rfl (setRow_heap _ _ _ _ _ _ hC4) Try.underlying72 rfl HI1.out) rfl ?_
          exact ⟨by rw [HOF.out, ← HX1.out]; rfl, below_setRow hBr4 (by omega) _⟩
end Go.Proofs.Ytoiephmngdecaaa
namespace Go.Proofs.Ytoiephmngdecaaa
open Go.RowKit Go.Rv
set_option linter.unusedVariables false
end Go.Proofs.Ytoiephmngdecaaa
namespace Go.Proofs.Ytoiephmngdecaaa
open Go.RowKit Go.Rv Frm
set_option linter.unusedVariables false
/-- the first j bytes are there -/
def copied44 (l : List Nat) (j : Nat) : List Nat := l.take j ++ List.replicate (44 - j) 0
theorem copied44_length {l : List Nat} (hl : l.length = 44) {j : Nat} (h : j ≤ 44) : (copied44 l j).length = 44 := by simp [copied44, hl]; omega
theorem copied44_set {l : List Nat} (hl : l.length = 44) {j : Nat} (h : j < 44) : (copied44 l j).set j (l.getD j 0) = copied44 l (j + 1) := by
  unfold copied44
  have e : (l.take j).length = j := by simp [hl]; omega
  have hlt : j < l.length := by omega
  rw [List.set_append_right _ _ (by omega), e, Nat.sub_self, show 44 - j = (44 - (j + 1)) + 1 by omega, List.replicate_succ, List.set_cons_zero, List.take_add_one, List.getD_eq_getElem?_getD, List.getElem?_eq_getElem hlt, List.append_assoc]
  rfl
theorem copied44_all {l : List Nat} (hl : l.length = 44) : copied44 l 44 = l := by unfold copied44; rw [← hl, List.take_length, Nat.sub_self]; simp
theorem copied44_zero (l : List Nat) : copied44 l 0 = List.replicate 44 0 := by simp [copied44]
end Go.Proofs.Ytoiephmngdecaaa
namespace Go.Proofs.Ytoiephmngdecaaa
open Go.RowKit Go.Rv Frm
set_option linter.unusedVariables false
theorem lits_re (f : En.E) (hb : EBody f) (hn : Num38 f) : Try.prog.keyLits 3 72 (EC f).toList = some (enLits f) := by
  obtain ⟨n0, n1, n2, n3, n4, n5⟩ := hn
  have k1 : Try.prog.cellsOf 3 = 1 := by kernel_rfl
  have k32 : Try.prog.cellsOf 62 = 32 := by kernel_rfl
  have k38 : Try.prog.cellsOf 72 = 38 := by kernel_rfl
  have hlen : (EC f).toList.length = 38 := by rw [Array.length_toList, EC_size, hb.1]
  have c0 : ((EC f).toList.drop 0).take 1 = [.int .i64 f.kind] := by simp [EC]
  have c1 : ((EC f).toList.drop 1).take 1 = [.int .i64 f.first] := by simp [EC]
  have c2 : ((EC f).toList.drop 2).take 1 = [.int .i64 f.count] := by simp [EC]
  have c3 : ((EC f).toList.drop 3).take 1 = [.int .i64 f.block] := by simp [EC]
  have c4 : ((EC f).toList.drop 4).take 1 = [.int .i64 f.many] := by simp [EC]
  have c5 : ((EC f).toList.drop 5).take 1 = [.int .i64 f.mate] := by simp [EC]
  have c6 : ((EC f).toList.drop 6).take 32 = (byteCells f.bytes).toList := by
    simp [EC]
    rw [List.take_of_length_le (by rw [Array.length_toList, size_byteCells, hb.1]; omega)]
  have i : ∀ n : Int, (Lit.int .i64 n).wf = true → Try.prog.keyLits 2 3 [.int .i64 n] = some [.int .i64 n] := by
    intro n hn
    simp only [Program.keyLits, Try.underlying3, hn, and_self, if_true]
  have hB := lits_bytes Try.underlying62 Try.underlying5 (by kernel_rfl) k32 f.bytes hb.1 hb.2 0
  unfold Program.keyLits
  simp only [Try.underlying72, k38, hlen]
  rw [if_pos ⟨trivial, by decide +kernel⟩]
  simp only [List.mapM_cons, List.mapM_nil, k1, k32, c0, c1, c2, c3, c4, c5, c6, i _ n0, i _ n1, i _ n2, i _ n3, i _ n4, i _ n5, hB]
  simp [enLits]
theorem eq_re (f g : En.E) (hf : EBody f) (hg : EBody g) (nf : Num38 f) (ng : Num38 g) (b : Bool) (hb : b = true ↔ f = g) (w : World) :
    (Op.equalIn 10000 72 (.agg (EC f)) (.agg (EC g))).run Try.prog w = .ok b w := by
  have hF : ∀ f : En.E, EBody f → (Value.agg (EC f)).formed Try.prog 72 = true := by
    intro l hl
    simp only [Value.formed, Try.underlying72, EC_size, hl.1]
    kernel_rfl
  exact eq_deep (by kernel_rfl) (hF f hf) (hF g hg) (lits_re f hf nf) (lits_re g hg ng) b (hb.trans ⟨fun h => by rw [h], enLits_inj⟩) w
theorem zero_ebody : EBody En.E.zero := ⟨by simp [En.E.zero], by simp [En.E.zero]⟩
theorem zero_num : Num38 En.E.zero := ⟨rfl, rfl, rfl, rfl, rfl, rfl⟩
set_option maxRecDepth 100000 in
theorem zero_lit : EC En.E.zero = #[.int .i64 0, .int .i64 0, .int .i64 0, .int .i64 0, .int .i64 0, .int .i64 0, .int .u8 0, .int .u8 0, .int .u8 0, .int .u8 0, .int .u8 0, .int .u8 0, .int .u8 0, .int .u8 0, .int .u8 0, .int .u8 0, .int .u8 0, .int .u8 0, .int .u8 0, .int .u8 0, .int .u8 0, .int .u8 0, .int .u8 0, .int .u8 0, .int .u8 0, .int .u8 0, .int .u8 0, .int .u8 0, .int .u8 0, .int .u8 0, .int .u8 0, .int .u8 0, .int .u8 0, .int .u8 0, .int .u8 0, .int .u8 0, .int .u8 0, .int .u8 0] := by kernel_rfl
theorem rd_wf {l : List Nat} (hl : ∀ c ∈ l, c < 256) (h : l.length ≤ 7) : (Lit.int .i64 (Cod.rd l : Nat)).wf = true := by
  have h1 := Cod.rd_lt l hl
  have h2 : 256 ^ l.length ≤ 256 ^ 7 := Nat.pow_le_pow_right (by omega) h
  have h3 : (256 : Nat) ^ 7 = 72057594037927936 := by decide
  simp [Lit.wf, IntKind.min, IntKind.max, IntKind.signed, IntKind.bits]
  omega
theorem parse_num {kind : Int} {b : List Nat} (hk : (Lit.int .i64 kind).wf = true) (hb : ∀ c ∈ b, c < 256) : Num38 (En.parse kind b) := by
  have h : ∀ k n, n ≤ 7 → (Lit.int .i64 (Cod.rd ((b.drop k).take n) : Nat)).wf = true := fun k n hn => rd_wf (fun c hc => hb c (List.mem_of_mem_drop (List.mem_of_mem_take hc))) (by rw [List.length_take]; omega)
  refine ⟨hk, ?_, h 6 1 (by omega), h 7 1 (by omega), h 8 2 (by omega), h 10 2 (by omega)⟩
  have := h 0 6 (by omega)
  rwa [List.drop_zero] at this
theorem ofE_num {kind : Int} {b : List Nat} (hk : (Lit.int .i64 kind).wf = true) (hb : ∀ c ∈ b, c < 256) : Num38 (En.ofE kind b).1 := by
  unfold En.ofE
  split
  · exact parse_num hk hb
  · exact zero_num
/-- the frame that an entry has which has been read from it -/
theorem frame_parse (f : Fr) (hb : Body f.body) : (⟨(En.parse f.kind f.body).kind, f.zone, f.off, f.epoch, f.seq, En.body (En.parse f.kind f.body)⟩ : Fr) = f := by
  rw [En.body_parse hb.1 hb.2]
  rfl
/-- when a frame is an entry's -/
theorem readE_cases (f : Fr) (hb : Body f.body) :
    ((En.ofE f.kind f.body).2 ≠ 0 ∧ readE f = (En.E.zero, 10)) ∨ ((En.ofE f.kind f.body).2 = 0 ∧ rightF f = false ∧ readE f = (En.E.zero, 10)) ∨
    ((En.ofE f.kind f.body).2 = 0 ∧ rightF f = true ∧ f.seq < (En.ofE f.kind f.body).1.first ∧ readE f = (En.E.zero, 10)) ∨
    ((En.ofE f.kind f.body).2 = 0 ∧ rightF f = true ∧ ¬ f.seq < (En.ofE f.kind f.body).1.first ∧ (En.ofE f.kind f.body).1.first + (En.ofE f.kind f.body).1.count ≤ f.seq ∧ readE f = (En.E.zero, 10)) ∨
    ((En.ofE f.kind f.body).2 = 0 ∧ rightF f = true ∧ ¬ f.seq < (En.ofE f.kind f.body).1.first ∧ ¬ (En.ofE f.kind f.body).1.first + (En.ofE f.kind f.body).1.count ≤ f.seq ∧ readE f = ((En.ofE f.kind f.body).1, 0) ∧ frameE (En.ofE f.kind f.body).1 f.zone f.off f.epoch f.seq = (f, 0)) := by
  by_cases hr : En.right (En.parse f.kind f.body) = true
  · have ho : En.ofE f.kind f.body = (En.parse f.kind f.body, 0) := by unfold En.ofE; rw [if_pos hr]
    have hfp := frame_parse f hb
    have hfr : frameE (En.parse f.kind f.body) f.zone f.off f.epoch f.seq = if rightF f = true ∧ (En.parse f.kind f.body).first ≤ f.seq ∧ f.seq < (En.parse f.kind f.body).first + (En.parse f.kind f.body).count then (f, 0) else (Fr.zero, 10) := by
      unfold frameE
      rw [hfp]
      simp only [hr, true_and]
    rw [ho]
    unfold readE
    rw [ho]
    simp only [ne_eq, not_true_eq_false, if_false, true_and, false_and, false_or]
    by_cases h1 : rightF f = true
    · right
      by_cases h2 : f.seq < (En.parse f.kind f.body).first
      · left
        have hv : frameE (En.parse f.kind f.body) f.zone f.off f.epoch f.seq = (Fr.zero, 10) := by rw [hfr]; exact if_neg (by omega)
        rw [hv]
        exact ⟨h1, h2, rfl⟩
      · right
        by_cases h3 : (En.parse f.kind f.body).first + (En.parse f.kind f.body).count ≤ f.seq
        · left
          have hv : frameE (En.parse f.kind f.body) f.zone f.off f.epoch f.seq = (Fr.zero, 10) := by rw [hfr]; exact if_neg (by omega)
          rw [hv]
          exact ⟨h1, h2, h3, rfl⟩
        · right
          have hv : frameE (En.parse f.kind f.body) f.zone f.off f.epoch f.seq = (f, 0) := by rw [hfr]; exact if_pos ⟨h1, by omega, by omega⟩
          rw [hv]
          exact ⟨h1, h2, h3, rfl, rfl⟩
    · left
      have hv : frameE (En.parse f.kind f.body) f.zone f.off f.epoch f.seq = (Fr.zero, 10) := by rw [hfr]; exact if_neg (fun h => h1 h.1)
      rw [hv]
      exact ⟨by simpa using h1, rfl⟩
  · left
    have ho : En.ofE f.kind f.body = (En.E.zero, 10) := by unfold En.ofE; rw [if_neg hr]
    unfold readE
    rw [ho]
    simp
end Go.Proofs.Ytoiephmngdecaaa
namespace Go.Proofs.Ytoiephmngdecaaa
open Go.RowKit Go.Rv Rl Frm
set_option linter.unusedVariables false
attribute [local go_sem] Oper.semAt_some
theorem fnd_cells {w : World} {b : Nat} {f : Fnd} {t : TypeId} (h : w.heap[b]? = some (.cells (fndC f) t (0, 0))) : w.cell? ⟨b, 0, none⟩ = some (.int .i64 f.zone) ∧ w.cell? ⟨b, 1, none⟩ = some (.int .i64 f.off) ∧ w.cell? ⟨b, 3, none⟩ = some (.int .i64 f.fr.zone) ∧ w.cell? ⟨b, 4, none⟩ = some (.int .i64 f.fr.off) ∧ w.cell? ⟨b, 5, none⟩ = some (.int .i64 f.fr.epoch) ∧ w.cell? ⟨b, 6, none⟩ = some (.int .i64 f.fr.seq) := by
  have key : ∀ j, (fndC f)[2 + j]? = (FC f.fr)[j]? := fun j => by
    unfold fndC
    rw [Array.getElem?_append_right (by simp)]
    simp
  obtain ⟨h0, h1, h2, h3, h4⟩ := FC_num f.fr
  refine ⟨(cell_of_row _ _ _ _ _ _ h).trans ?_, (cell_of_row _ _ _ _ _ _ h).trans ?_, (cell_of_row _ _ _ _ _ _ h).trans ((key 1).trans h1), (cell_of_row _ _ _ _ _ _ h).trans ((key 2).trans h2), (cell_of_row _ _ _ _ _ _ h).trans ((key 3).trans h3), (cell_of_row _ _ _ _ _ _ h).trans ((key 4).trans h4)⟩
  · unfold fndC; rw [Array.getElem?_append_left (by simp)]; rfl
  · unfold fndC; rw [Array.getElem?_append_left (by simp)]; rfl
theorem fnd_range {w : World} {b : Nat} {f : Fnd} {t : TypeId} (h : w.heap[b]? = some (.cells (fndC f) t (0, 0))) : w.rangeAt b 2 (FC f.fr).toList := fun j v hv => by
  rw [cell_of_row _ _ _ _ _ _ h, ← hv, Array.getElem?_toList]
  unfold fndC
  rw [Array.getElem?_append_right (by simp)]
  simp
/-- the entry that Read gives, and whether it is a record's -/
theorem readE_ok {f : Fr} (hf : Body f.body) (h : (readE f).2 = 0) : En.right (readE f).1 = true := by
  rcases readE_cases f hf with ⟨-, h1⟩ | ⟨-, -, h1⟩ | ⟨-, -, -, h1⟩ | ⟨-, -, -, -, h1⟩ | ⟨h0, -, -, -, h1, -⟩
  · rw [h1] at h; cases h
  · rw [h1] at h; cases h
  · rw [h1] at h; cases h
  · rw [h1] at h; cases h
  · rw [h1]
    unfold En.ofE at h0 ⊢
    split
    · assumption
    · rename_i hn
      rw [if_neg hn] at h0
      cases h0
theorem holdsG_small {g : Geo.G} {z o : Int} (h : holdsG g z o = true) : Geo.Small g := by
  unfold holdsG at h
  rw [Bool.and_eq_true] at h
  exact ((Geo.right_iff g).1 h.1).1
theorem readE_body (f : Fr) (hf : Body f.body) : EBody (readE f).1 := by
  unfold readE
  split
  · exact zero_ebody
  · split
    · exact zero_ebody
    · exact ofE_body hf.1 hf.2
set_option maxRecDepth 100000 in
set_option maxHeartbeats 8000000 in
theorem rrecord_core (w : World) (CF CE : Array Value) (g : Geo.G) (epoch zone off fz fo fe mate block many x : Int) (h1 h2 rb : Bool) (d1 d2 : Int) (XL : List Value)
    (hCF : ∀ (W : World) (b : Nat), W.heap[b]? = some (.cells CF 70 (0, 0)) → W.cell? ⟨b, 0, none⟩ = some (.int .i64 zone) ∧ W.cell? ⟨b, 1, none⟩ = some (.int .i64 off) ∧ W.cell? ⟨b, 3, none⟩ = some (.int .i64 fz) ∧ W.cell? ⟨b, 4, none⟩ = some (.int .i64 fo) ∧ W.cell? ⟨b, 5, none⟩ = some (.int .i64 fe) ∧ W.rangeAt b 2 XL)
    (hCE : ∀ (W : World) (b : Nat), W.heap[b]? = some (.cells CE 65 (0, 0)) → W.cell? ⟨b, 3, none⟩ = some (.int .i64 block) ∧ W.cell? ⟨b, 4, none⟩ = some (.int .i64 many) ∧ W.cell? ⟨b, 5, none⟩ = some (.int .i64 mate))
    (hIF : (Try.prog.info? 70).map (·.size) = some CF.size) (hIX : (Try.prog.info? 68).map (·.size) = some XL.length) (hIE : (Try.prog.info? 65).map (·.size) = some CE.size) (hSE : (EC En.E.zero).size = CE.size) (hOE : CE.all (·.oneCell') = true)
    (HR : ∀ W, Calls Try.prog 39 #[.agg XL.toArray] W fun e w' => e = .returned (.tuple #[.agg CE, .int .i64 x]) ∧ Below W.heap.size W w')
    (HH1 : ∀ W, Calls Try.prog 40 #[.agg (GC g), .int .i64 zone, .int .i64 off] W fun e w' => e = .returned (.bool h1) ∧ Below W.heap.size W w')
    (HH2 : ∀ W, Calls Try.prog 40 #[.agg (GC g), .int .i64 mate, .int .i64 off] W fun e w' => e = .returned (.bool h2) ∧ Below W.heap.size W w')
    (HD1 : h1 = true → h2 = true → ∀ W, Calls Try.prog 41 #[.agg (GC g), .int .i64 zone] W fun e w' => e = .returned (.int .i64 d1) ∧ Below W.heap.size W w')
    (HD2 : h1 = true → h2 = true → ∀ W, Calls Try.prog 41 #[.agg (GC g), .int .i64 mate] W fun e w' => e = .returned (.int .i64 d2) ∧ Below W.heap.size W w')
    (hbd : x = 0 → (0 ≤ block ∧ block ≤ 255) ∧ (0 ≤ many ∧ many ≤ 256))
    (hc : ((x != 0) = true ∧ rb = false) ∨ (x = 0 ∧ (fe != epoch) = true ∧ rb = false) ∨ (x = 0 ∧ epoch = fe ∧ (fz != zone) = true ∧ rb = false) ∨ (x = 0 ∧ epoch = fe ∧ zone = fz ∧ (fo != off) = true ∧ rb = false) ∨
      (x = 0 ∧ epoch = fe ∧ zone = fz ∧ off = fo ∧ ((h1 = false ∧ rb = false) ∨ (h1 = true ∧ h2 = false ∧ rb = false) ∨ (h1 = true ∧ h2 = true ∧ d1 = d2 ∧ rb = false) ∨ (h1 = true ∧ h2 = true ∧ (d1 == d2) = false ∧ ((decide (g.b < block + max many 1) = true ∧ rb = false) ∨ (decide (g.b < block + max many 1) = false ∧ rb = true)))))) :
    Calls Try.prog 17 #[.agg (GC g), .int .i64 epoch, .agg CF] w fun e w' => e = .returned (.tuple #[.agg (if rb = true then CE else EC En.E.zero), .bool rb]) ∧ Below w.heap.size w w' := by
  have hz := (zero_of_info Try.infoEntry).1
  have HCF := Lib.hid hCF
  have HCE := Lib.hid hCE
  have HIF := Lib.hid hIF
  have HIX := Lib.hid hIX
  have HIE := Lib.hid hIE
  have HSE := Lib.hid hSE
  have HOE := Lib.hid hOE
  have HRR := Lib.hid HR
  have HHA := Lib.hid HH1
  have HHB := Lib.hid HH2
  have HDA := Lib.hid HD1
  have HDB := Lib.hid HD2
  have HBD := Lib.hid hbd
  have HGI := Lib.hid (gsize (g := g))
  have HGC : Hid (∀ (W : World) (b : Nat), W.heap[b]? = some (.cells (GC g) 23 (0, 0)) → W.cell? ⟨b, 3, none⟩ = some (.int .i64 g.b)) := Lib.hid (fun W b h => (geo_cells h).2.2.2.1)
  have HIZ := Lib.hid (size_ent (e := En.E.zero) (by simp [En.E.zero]))
  have HOZ := Lib.hid (EC_one En.E.zero)
  have HBZ := Lib.hid built_ent0
  obtain ⟨Z, hZ⟩ : ∃ Z, EC En.E.zero = Z := ⟨_, rfl⟩
  rw [hZ] at hz HIZ HOZ HBZ HSE ⊢
  obtain ⟨CG, hCG⟩ : ∃ C, GC g = C := ⟨_, rfl⟩
  obtain ⟨gb, hgb⟩ : ∃ b, g.b = b := ⟨_, rfl⟩
  rw [hCG] at HHA HHB HDA HDB HGI HGC ⊢
  rw [hgb] at HGC hc
  have hB0 : Below w.heap.size w (((w.alloc (.cells CG 23)).alloc (.cells CF 70)).alloc (.cells Z 65)) := (((Below.refl _ _).alloc (Nat.le_refl _) _).alloc (by simp) _).alloc (by simp; omega) _
  obtain ⟨W0, hW0⟩ : ∃ W0, ((w.alloc (.cells CG 23)).alloc (.cells CF 70)).alloc (.cells Z 65) = W0 := ⟨_, rfl⟩
  have hG0 : W0.heap[w.heap.size]? = some (.cells CG 23 (0, 0)) := by rw [← hW0, alloc_old _ _ (by simp; omega), alloc_old _ _ (by simp)]; exact alloc_new _ _ rfl
  have hF0 : W0.heap[w.heap.size + 1]? = some (.cells CF 70 (0, 0)) := by rw [← hW0, alloc_old _ _ (by simp)]; exact alloc_new _ _ (by simp)
  have hR0 : W0.heap[w.heap.size + 1 + 1]? = some (.cells Z 65 (0, 0)) := by rw [← hW0]; exact alloc_new _ _ (by simp)
  rw [hW0] at hB0
  have HW0 := Lib.hid hW0
  have HB0 := Lib.hid hB0
  have HG0 := Lib.hid hG0
  have HF0 := Lib.hid hF0
  have HR0 := Lib.hid hR0
  have z0 : w.heap.size + 1 + 1 < W0.heap.size := (Array.getElem?_eq_some_iff.1 hR0).1
  have HRG := Lib.hid (HCF.out W0 _ hF0).2.2.2.2.2
  have HFIN : Hid (∀ (W : World) (X : Array Value) (b : Bool), Below W0.heap.size W0 W → X.size = Z.size → Below w.heap.size w (W.setRow (w.heap.size + 1 + 1) X) ∧ (W.setRow (w.heap.size + 1 + 1) X).heap[w.heap.size + 1 + 1]? = some (.cells X 65 (0, 0))) := Lib.hid (fun W X b hB hs => ⟨below_setRow (hB0.trans (hB.mono (by omega))) (by omega) _, setRow_heap _ _ _ _ _ _ ((hB.block _ z0).trans hR0)⟩)
  clear hCF hCE hIF hIX hIE hSE hOE HR HH1 HH2 HD1 HD2 hbd hZ hCG hgb hB0 hW0 hG0 hF0 hR0
  go_enter Try.func17, Try.ntmps17
  go_upto_region 1 with (fail)
  rw [HW0.out]
  go_wp2_with (refine wpList_load_mid rfl 68 _ rfl (w.heap.size + 1) 2 rfl XL _ HRG.out Try.underlying68 rfl HIX.out ?_)
  refine (HRR.out _).mono ?_
  rintro e1 w1 ⟨rfl, hB1⟩
  have z1 := hB1.size
  obtain ⟨W2, hW2⟩ : ∃ W2, w1.alloc (.cells CE 65) = W2 := ⟨_, rfl⟩
  have hb2 : Below W0.heap.size W0 W2 := by rw [← hW2]; exact hB1.alloc z1 _
  have hE2 : W2.heap[w1.heap.size]? = some (.cells CE 65 (0, 0)) := by rw [← hW2]; exact heap_alloc_new w1 _
  have HB2 := Lib.hid hb2
  have HW2 := Lib.hid hW2
  have z2 := hb2.size
  have zE2 : w1.heap.size < W2.heap.size := (Array.getElem?_eq_some_iff.1 hE2).1
  have HE2 := Lib.hid hE2
  have HKE : Hid (∀ W, Below W2.heap.size W2 W → W.cell? ⟨w1.heap.size, 3, none⟩ = some (.int .i64 block) ∧ W.cell? ⟨w1.heap.size, 4, none⟩ = some (.int .i64 many) ∧ W.cell? ⟨w1.heap.size, 5, none⟩ = some (.int .i64 mate)) := Lib.hid (fun W hB => HCE.out W _ ((hB.block _ zE2).trans hE2))
  have HKF : Hid (∀ W, Below W2.heap.size W2 W → W.cell? ⟨w.heap.size + 1, 0, none⟩ = some (.int .i64 zone) ∧ W.cell? ⟨w.heap.size + 1, 1, none⟩ = some (.int .i64 off) ∧ W.cell? ⟨w.heap.size + 1, 3, none⟩ = some (.int .i64 fz) ∧ W.cell? ⟨w.heap.size + 1, 4, none⟩ = some (.int .i64 fo) ∧ W.cell? ⟨w.heap.size + 1, 5, none⟩ = some (.int .i64 fe)) := Lib.hid (fun W hB => by
    obtain ⟨c0, c1, c2, c3, c4, -⟩ := HCF.out W (w.heap.size + 1) (((hB.block _ (by omega)).trans (hb2.block _ (by omega))).trans HF0.out)
    exact ⟨c0, c1, c2, c3, c4⟩)
  have HKG : Hid (∀ W, Below W2.heap.size W2 W → W.heap[w.heap.size]? = some (.cells CG 23 (0, 0))) := Lib.hid (fun W hB => ((hB.block _ (by omega)).trans (hb2.block _ (by omega))).trans HG0.out)
  obtain ⟨f0, f1, f2, f3, f4⟩ := HKF.out W2 (Below.refl _ _)
  clear hB1 hb2 hE2 hW2
  go_upto_region 2 with (refine wpList_store_row rfl 65 _ _ rfl w1.heap.size CE rfl rfl 65 Z (heap_alloc_new w1 _) HIE.out HSE.out HOE.out ?_; rw [World.setRow_alloc_new])
  rw [HW2.out]
  rcases hc with ⟨t1, rfl⟩ | ⟨rfl, t1, rfl⟩ | ⟨rfl, rfl, t1, rfl⟩ | ⟨rfl, rfl, rfl, t1, rfl⟩ | ⟨rfl, rfl, rfl, rfl, hc⟩
  · have hr2 := (HB2.out.block _ z0).trans HR0.out
    go_upto_region 3 with (fail)
    go_wp2_with (first | (refine wpList_build_on (by rfl) 65 _ rfl #[] (by simp) Z HBZ.out ?_) | (refine wpList_store_row rfl 65 _ _ rfl (w.heap.size + 1 + 1) Z rfl rfl 65 Z hr2 HIZ.out rfl HOZ.out ?_))
    obtain ⟨r1, r2⟩ := HFIN.out W2 Z false HB2.out rfl
    refine bodyPost_ret (res_row_tmp rfl _ _ (w.heap.size + 1 + 1) 65 Z _ _ rfl r2 Try.underlying65 rfl HIZ.out) rfl ?_
    exact ⟨rfl, r1⟩
  · have hr2 := (HB2.out.block _ z0).trans HR0.out
    go_upto_region 3 with (fail)
    go_wp2_with (first | (refine wpList_build_on (by rfl) 65 _ rfl #[] (by simp) Z HBZ.out ?_) | (refine wpList_store_row rfl 65 _ _ rfl (w.heap.size + 1 + 1) Z rfl rfl 65 Z hr2 HIZ.out rfl HOZ.out ?_))
    obtain ⟨r1, r2⟩ := HFIN.out W2 Z false HB2.out rfl
    refine bodyPost_ret (res_row_tmp rfl _ _ (w.heap.size + 1 + 1) 65 Z _ _ rfl r2 Try.underlying65 rfl HIZ.out) rfl ?_
    exact ⟨rfl, r1⟩
  · have hr2 := (HB2.out.block _ z0).trans HR0.out
    go_upto_region 3 with (fail)
    go_wp2_with (first | (refine wpList_build_on (by rfl) 65 _ rfl #[] (by simp) Z HBZ.out ?_) | (refine wpList_store_row rfl 65 _ _ rfl (w.heap.size + 1 + 1) Z rfl rfl 65 Z hr2 HIZ.out rfl HOZ.out ?_))
    obtain ⟨r1, r2⟩ := HFIN.out W2 Z false HB2.out rfl
    refine bodyPost_ret (res_row_tmp rfl _ _ (w.heap.size + 1 + 1) 65 Z _ _ rfl r2 Try.underlying65 rfl HIZ.out) rfl ?_
    exact ⟨rfl, r1⟩
  · have hr2 := (HB2.out.block _ z0).trans HR0.out
    go_upto_region 3 with (fail)
    go_wp2_with (first | (refine wpList_build_on (by rfl) 65 _ rfl #[] (by simp) Z HBZ.out ?_) | (refine wpList_store_row rfl 65 _ _ rfl (w.heap.size + 1 + 1) Z rfl rfl 65 Z hr2 HIZ.out rfl HOZ.out ?_))
    obtain ⟨r1, r2⟩ := HFIN.out W2 Z false HB2.out rfl
    refine bodyPost_ret (res_row_tmp rfl _ _ (w.heap.size + 1 + 1) 65 Z _ _ rfl r2 Try.underlying65 rfl HIZ.out) rfl ?_
    exact ⟨rfl, r1⟩
  · go_upto_region 4 with (fail)
    rcases hc with ⟨rfl, rfl⟩ | ⟨rfl, rfl, rfl⟩ | ⟨rfl, rfl, rfl, rfl⟩ | ⟨rfl, rfl, td, hc⟩
    · clear HDA HDB
      refine wp_region_conf2 27 [Fact.eq (.agg CG), Fact.eq (.pointer (some ⟨w.heap.size + 1, 0, none⟩)), Fact.eq (.int .i64 zone), Fact.eq (.pointer (some ⟨w.heap.size + 1, 1, none⟩)), Fact.eq (.int .i64 off), Fact.eq (.bool false), Fact.eq (.bool true), Fact.eq (.bool true), Fact.eq undef, Fact.eq undef, Fact.eq undef, Fact.eq undef, Fact.eq undef, Fact.eq undef, Fact.eq undef, Fact.eq (.bool true), Fact.eq (.bool true), Fact.eq undef, Fact.eq undef, Fact.eq undef, Fact.eq undef, Fact.eq undef, Fact.eq undef, Fact.eq undef, Fact.eq undef, Fact.eq undef, Fact.eq (.bool true)] ?raA (by kernel_rfl) (by kernel_rfl) ?rahA ?raho ?rahend
      case rahA =>
        intro vv
        simp only [putRules, Nat.reduceAdd]
        rfl
      case raho =>
        refine ⟨?_, ?_, ?_, ?_, ?_, ?_, ?_, ?_, ?_, ?_, ?_, ?_, ?_, ?_, ?_, ?_, ?_, ?_, ?_, ?_, ?_, ?_, ?_, ?_, ?_, ?_, ?_, trivial⟩
        · intro vv W K hB hd HK
          simp only [confRules] at HK
          clear hd
          refine wpList_load_row rfl 23 _ rfl w.heap.size rfl 23 _ _ _ (HKG.out W hB) Try.underlying23 rfl HGI.out ?_
          refine HK.out _ _ (Below.refl _ _) ?_
          rfl
        · intro vv W K hB hd HK
          simp only [confRules] at HK
          clear hd
          go_wp2
          refine HK.out _ _ (Below.refl _ _) ?_
          rfl
        · intro vv W K hB hd HK
          simp only [confRules] at hd HK
          have h1 := hd
          clear hd
          simp only [h1] at HK ⊢
          clear h1
          obtain ⟨c0, -, -, -, -⟩ := HKF.out W hB
          go_wp2
          refine HK.out _ _ (Below.refl _ _) ?_
          rfl
        · intro vv W K hB hd HK
          simp only [confRules] at HK
          clear hd
          go_wp2
          refine HK.out _ _ (Below.refl _ _) ?_
          rfl
        · intro vv W K hB hd HK
          simp only [confRules] at hd HK
          have h3 := hd
          clear hd
          simp only [h3] at HK ⊢
          clear h3
          obtain ⟨-, c1, -, -, -⟩ := HKF.out W hB
          go_wp2
          refine HK.out _ _ (Below.refl _ _) ?_
          rfl
        · intro vv W K hB hd HK
          simp only [confRules] at hd HK
          obtain ⟨h0, h2, h4⟩ := hd
          simp only [h0, h2, h4] at HK ⊢
          clear h0 h2 h4
          go_wp2_with (refine (HHA.out _).mono ?_; rintro e w9 ⟨rfl, hB9⟩)
          refine HK.out _ _ hB9 ?_
          rfl
        · intro vv W K hB hd HK
          simp only [confRules] at hd HK
          have h5 := hd
          clear hd
          simp only [h5] at HK ⊢
          clear h5
          go_wp2
          refine HK.out _ _ (Below.refl _ _) ?_
          rfl
        · intro vv W K hB hd HK
          simp only [confRules] at hd HK
          obtain ⟨h6, h5⟩ := hd
          simp only [h6, h5] at HK ⊢
          clear h6 h5
          go_wp2
          refine HK.out _ _ (Below.refl _ _) ?_
          rfl
        · intro vv W K hB hd HK
          simp only [confRules] at hd HK
          have h7 := hd
          clear hd
          simp only [h7] at HK ⊢
          clear h7
          refine wpList_guard_no (by rfl) ?_
          refine HK.out _ _ (Below.refl _ _) ?_
          rfl
        · intro vv W K hB hd HK
          simp only [confRules] at hd HK
          have h7 := hd
          clear hd
          simp only [h7] at HK ⊢
          clear h7
          refine wpList_guard_no (by rfl) ?_
          refine HK.out _ _ (Below.refl _ _) ?_
          rfl
        · intro vv W K hB hd HK
          simp only [confRules] at hd HK
          obtain ⟨h9, h7⟩ := hd
          simp only [h9, h7] at HK ⊢
          clear h9 h7
          refine wpList_guard_no (by rfl) ?_
          refine HK.out _ _ (Below.refl _ _) ?_
          rfl
        · intro vv W K hB hd HK
          simp only [confRules] at hd HK
          have h7 := hd
          clear hd
          simp only [h7] at HK ⊢
          clear h7
          refine wpList_guard_no (by rfl) ?_
          refine HK.out _ _ (Below.refl _ _) ?_
          rfl
        · intro vv W K hB hd HK
          simp only [confRules] at hd HK
          obtain ⟨h11, h7⟩ := hd
          simp only [h11, h7] at HK ⊢
          clear h11 h7
          refine wpList_guard_no (by rfl) ?_
          refine HK.out _ _ (Below.refl _ _) ?_
          rfl
        · intro vv W K hB hd HK
          simp only [confRules] at hd HK
          obtain ⟨h8, h10, h12, h7, _⟩ := hd
          simp only [h8, h10, h12, h7] at HK ⊢
          clear h8 h10 h12 h7
          refine wpList_guard_no (by rfl) ?_
          refine HK.out _ _ (Below.refl _ _) ?_
          rfl
        · intro vv W K hB hd HK
          simp only [confRules] at hd HK
          obtain ⟨h13, h7⟩ := hd
          simp only [h13, h7] at HK ⊢
          clear h13 h7
          refine wpList_guard_no (by rfl) ?_
          refine HK.out _ _ (Below.refl _ _) ?_
          rfl
        · intro vv W K hB hd HK
          simp only [confRules] at hd HK
          obtain ⟨h7, h14⟩ := hd
          simp only [h7, h14] at HK ⊢
          clear h7 h14
          go_wp2
          refine HK.out _ _ (Below.refl _ _) ?_
          rfl
        · intro vv W K hB hd HK
          simp only [confRules] at hd HK
          obtain ⟨h15, h13⟩ := hd
          simp only [h15, h13] at HK ⊢
          clear h15 h13
          go_wp2
          refine HK.out _ _ (Below.refl _ _) ?_
          rfl
        · intro vv W K hB hd HK
          simp only [confRules] at hd HK
          have h16 := hd
          clear hd
          simp only [h16] at HK ⊢
          clear h16
          refine wpList_guard_no (by rfl) ?_
          refine HK.out _ _ (Below.refl _ _) ?_
          rfl
        · intro vv W K hB hd HK
          simp only [confRules] at hd HK
          have h16 := hd
          clear hd
          simp only [h16] at HK ⊢
          clear h16
          refine wpList_guard_no (by rfl) ?_
          refine HK.out _ _ (Below.refl _ _) ?_
          rfl
        · intro vv W K hB hd HK
          simp only [confRules] at hd HK
          obtain ⟨h18, h16⟩ := hd
          simp only [h18, h16] at HK ⊢
          clear h18 h16
          refine wpList_guard_no (by rfl) ?_
          refine HK.out _ _ (Below.refl _ _) ?_
          rfl
        · intro vv W K hB hd HK
          simp only [confRules] at hd HK
          obtain ⟨h17, h19, h16, _⟩ := hd
          simp only [h17, h19, h16] at HK ⊢
          clear h17 h19 h16
          refine wpList_guard_no (by rfl) ?_
          refine HK.out _ _ (Below.refl _ _) ?_
          rfl
        · intro vv W K hB hd HK
          simp only [confRules] at hd HK
          have h16 := hd
          clear hd
          simp only [h16] at HK ⊢
          clear h16
          refine wpList_guard_no (by rfl) ?_
          refine HK.out _ _ (Below.refl _ _) ?_
          rfl
        · intro vv W K hB hd HK
          simp only [confRules] at hd HK
          have h16 := hd
          clear hd
          simp only [h16] at HK ⊢
          clear h16
          refine wpList_guard_no (by rfl) ?_
          refine HK.out _ _ (Below.refl _ _) ?_
          rfl
        · intro vv W K hB hd HK
          simp only [confRules] at hd HK
          obtain ⟨h22, h16⟩ := hd
          simp only [h22, h16] at HK ⊢
          clear h22 h16
          refine wpList_guard_no (by rfl) ?_
          refine HK.out _ _ (Below.refl _ _) ?_
          rfl
        · intro vv W K hB hd HK
          simp only [confRules] at hd HK
          obtain ⟨h21, h23, h20, h16⟩ := hd
          simp only [h21, h23, h20, h16] at HK ⊢
          clear h21 h23 h20 h16
          refine wpList_guard_no (by rfl) ?_
          refine HK.out _ _ (Below.refl _ _) ?_
          rfl
        · intro vv W K hB hd HK
          simp only [confRules] at hd HK
          obtain ⟨h20, h24, h16⟩ := hd
          simp only [h20, h24, h16] at HK ⊢
          clear h20 h24 h16
          refine wpList_guard_no (by rfl) ?_
          refine HK.out _ _ (Below.refl _ _) ?_
          rfl
        · intro vv W K hB hd HK
          simp only [confRules] at hd HK
          obtain ⟨h16, h25⟩ := hd
          simp only [h16, h25] at HK ⊢
          clear h16 h25
          go_wp2
          refine HK.out _ _ (Below.refl _ _) ?_
          rfl
      case rahend =>
        intro vv W hB hf
        have e26 := hf 26 (by decide)
        simp only [endRules] at e26
        simp only [e26, dropRules]
        clear hf e26
        have hr4 := (hB.block _ (by omega)).trans ((HB2.out.block _ z0).trans HR0.out)
        have hb4 := HB2.out.trans (hB.mono z2)
        obtain ⟨c3, c4, -⟩ := HKE.out W hB
        have c5 := HGC.out W w.heap.size (HKG.out W hB)
        go_wp2_with (first | (refine wpList_build_on (by rfl) 65 _ rfl #[] (by simp) Z HBZ.out ?_) | (refine wpList_store_row rfl 65 _ _ rfl (w.heap.size + 1 + 1) Z rfl rfl 65 Z hr4 HIZ.out rfl HOZ.out ?_))
        obtain ⟨r1, r2⟩ := HFIN.out W Z false hb4 rfl
        refine bodyPost_ret (res_row_tmp rfl _ _ (w.heap.size + 1 + 1) 65 Z _ _ rfl r2 Try.underlying65 rfl HIZ.out) rfl ?_
        exact ⟨rfl, r1⟩
    · clear HDA HDB
      refine wp_region_conf2 27 [Fact.eq (.agg CG), Fact.eq (.pointer (some ⟨w.heap.size + 1, 0, none⟩)), Fact.eq (.int .i64 zone), Fact.eq (.pointer (some ⟨w.heap.size + 1, 1, none⟩)), Fact.eq (.int .i64 off), Fact.eq (.bool true), Fact.eq (.bool false), Fact.eq (.bool false), Fact.eq (.agg CG), Fact.eq (.pointer (some ⟨w1.heap.size, 5, none⟩)), Fact.eq (.int .i64 mate), Fact.eq (.pointer (some ⟨w.heap.size + 1, 1, none⟩)), Fact.eq (.int .i64 off), Fact.eq (.bool false), Fact.eq (.bool true), Fact.eq (.bool true), Fact.eq (.bool true), Fact.eq undef, Fact.eq undef, Fact.eq undef, Fact.eq undef, Fact.eq undef, Fact.eq undef, Fact.eq undef, Fact.eq undef, Fact.eq undef, Fact.eq (.bool true)] ?rbA (by kernel_rfl) (by kernel_rfl) ?rbhA ?rbho ?rbhend
      case rbhA =>
        intro vv
        simp only [putRules, Nat.reduceAdd]
        rfl
      case rbho =>
        refine ⟨?_, ?_, ?_, ?_, ?_, ?_, ?_, ?_, ?_, ?_, ?_, ?_, ?_, ?_, ?_, ?_, ?_, ?_, ?_, ?_, ?_, ?_, ?_, ?_, ?_, ?_, ?_, trivial⟩
        · intro vv W K hB hd HK
          simp only [confRules] at HK
          clear hd
          refine wpList_load_row rfl 23 _ rfl w.heap.size rfl 23 _ _ _ (HKG.out W hB) Try.underlying23 rfl HGI.out ?_
          refine HK.out _ _ (Below.refl _ _) ?_
          rfl
        · intro vv W K hB hd HK
          simp only [confRules] at HK
          clear hd
          go_wp2
          refine HK.out _ _ (Below.refl _ _) ?_
          rfl
        · intro vv W K hB hd HK
          simp only [confRules] at hd HK
          have h1 := hd
          clear hd
          simp only [h1] at HK ⊢
          clear h1
          obtain ⟨c0, -, -, -, -⟩ := HKF.out W hB
          go_wp2
          refine HK.out _ _ (Below.refl _ _) ?_
          rfl
        · intro vv W K hB hd HK
          simp only [confRules] at HK
          clear hd
          go_wp2
          refine HK.out _ _ (Below.refl _ _) ?_
          rfl
        · intro vv W K hB hd HK
          simp only [confRules] at hd HK
          have h3 := hd
          clear hd
          simp only [h3] at HK ⊢
          clear h3
          obtain ⟨-, c1, -, -, -⟩ := HKF.out W hB
          go_wp2
          refine HK.out _ _ (Below.refl _ _) ?_
          rfl
        · intro vv W K hB hd HK
          simp only [confRules] at hd HK
          obtain ⟨h0, h2, h4⟩ := hd
          simp only [h0, h2, h4] at HK ⊢
          clear h0 h2 h4
          go_wp2_with (refine (HHA.out _).mono ?_; rintro e w9 ⟨rfl, hB9⟩)
          refine HK.out _ _ hB9 ?_
          rfl
        · intro vv W K hB hd HK
          simp only [confRules] at hd HK
          have h5 := hd
          clear hd
          simp only [h5] at HK ⊢
          clear h5
          go_wp2
          refine HK.out _ _ (Below.refl _ _) ?_
          rfl
        · intro vv W K hB hd HK
          simp only [confRules] at hd HK
          obtain ⟨h6, h5⟩ := hd
          simp only [h6, h5] at HK ⊢
          clear h6 h5
          go_wp2
          refine HK.out _ _ (Below.refl _ _) ?_
          rfl
        · intro vv W K hB hd HK
          simp only [confRules] at hd HK
          have h7 := hd
          clear hd
          simp only [h7] at HK ⊢
          clear h7
          refine wpList_guard_yes (by rfl) ?_
          refine wpList_load_row rfl 23 _ rfl w.heap.size rfl 23 _ _ _ (HKG.out W hB) Try.underlying23 rfl HGI.out ?_
          refine HK.out _ _ (Below.refl _ _) ?_
          rfl
        · intro vv W K hB hd HK
          simp only [confRules] at hd HK
          have h7 := hd
          clear hd
          simp only [h7] at HK ⊢
          clear h7
          refine wpList_guard_yes (by rfl) ?_
          go_wp2
          refine HK.out _ _ (Below.refl _ _) ?_
          rfl
        · intro vv W K hB hd HK
          simp only [confRules] at hd HK
          obtain ⟨h9, h7⟩ := hd
          simp only [h9, h7] at HK ⊢
          clear h9 h7
          refine wpList_guard_yes (by rfl) ?_
          obtain ⟨-, -, c2⟩ := HKE.out W hB
          go_wp2
          refine HK.out _ _ (Below.refl _ _) ?_
          rfl
        · intro vv W K hB hd HK
          simp only [confRules] at hd HK
          have h7 := hd
          clear hd
          simp only [h7] at HK ⊢
          clear h7
          refine wpList_guard_yes (by rfl) ?_
          go_wp2
          refine HK.out _ _ (Below.refl _ _) ?_
          rfl
        · intro vv W K hB hd HK
          simp only [confRules] at hd HK
          obtain ⟨h11, h7⟩ := hd
          simp only [h11, h7] at HK ⊢
          clear h11 h7
          refine wpList_guard_yes (by rfl) ?_
          obtain ⟨-, c1, -, -, -⟩ := HKF.out W hB
          go_wp2
          refine HK.out _ _ (Below.refl _ _) ?_
          rfl
        · intro vv W K hB hd HK
          simp only [confRules] at hd HK
          obtain ⟨h8, h10, h12, h7, _⟩ := hd
          simp only [h8, h10, h12, h7] at HK ⊢
          clear h8 h10 h12 h7
          refine wpList_guard_yes (by rfl) ?_
          go_wp2_with (refine (HHB.out _).mono ?_; rintro e w9 ⟨rfl, hB9⟩)
          refine HK.out _ _ hB9 ?_
          rfl
        · intro vv W K hB hd HK
          simp only [confRules] at hd HK
          obtain ⟨h13, h7⟩ := hd
          simp only [h13, h7] at HK ⊢
          clear h13 h7
          refine wpList_guard_yes (by rfl) ?_
          go_wp2
          refine HK.out _ _ (Below.refl _ _) ?_
          rfl
        · intro vv W K hB hd HK
          simp only [confRules] at hd HK
          obtain ⟨h7, h14⟩ := hd
          simp only [h7, h14] at HK ⊢
          clear h7 h14
          go_wp2
          refine HK.out _ _ (Below.refl _ _) ?_
          rfl
        · intro vv W K hB hd HK
          simp only [confRules] at hd HK
          obtain ⟨h15, h13⟩ := hd
          simp only [h15, h13] at HK ⊢
          clear h15 h13
          go_wp2
          refine HK.out _ _ (Below.refl _ _) ?_
          rfl
        · intro vv W K hB hd HK
          simp only [confRules] at hd HK
          have h16 := hd
          clear hd
          simp only [h16] at HK ⊢
          clear h16
          refine wpList_guard_no (by rfl) ?_
          refine HK.out _ _ (Below.refl _ _) ?_
          rfl
        · intro vv W K hB hd HK
          simp only [confRules] at hd HK
          have h16 := hd
          clear hd
          simp only [h16] at HK ⊢
          clear h16
          refine wpList_guard_no (by rfl) ?_
          refine HK.out _ _ (Below.refl _ _) ?_
          rfl
        · intro vv W K hB hd HK
          simp only [confRules] at hd HK
          obtain ⟨h18, h16⟩ := hd
          simp only [h18, h16] at HK ⊢
          clear h18 h16
          refine wpList_guard_no (by rfl) ?_
          refine HK.out _ _ (Below.refl _ _) ?_
          rfl
        · intro vv W K hB hd HK
          simp only [confRules] at hd HK
          obtain ⟨h17, h19, h16, _⟩ := hd
          simp only [h17, h19, h16] at HK ⊢
          clear h17 h19 h16
          refine wpList_guard_no (by rfl) ?_
          refine HK.out _ _ (Below.refl _ _) ?_
          rfl
        · intro vv W K hB hd HK
          simp only [confRules] at hd HK
          have h16 := hd
          clear hd
          simp only [h16] at HK ⊢
          clear h16
          refine wpList_guard_no (by rfl) ?_
          refine HK.out _ _ (Below.refl _ _) ?_
          rfl
        · intro vv W K hB hd HK
          simp only [confRules] at hd HK
          have h16 := hd
          clear hd
          simp only [h16] at HK ⊢
          clear h16
          refine wpList_guard_no (by rfl) ?_
          refine HK.out _ _ (Below.refl _ _) ?_
          rfl
        · intro vv W K hB hd HK
          simp only [confRules] at hd HK
          obtain ⟨h22, h16⟩ := hd
          simp only [h22, h16] at HK ⊢
          clear h22 h16
          refine wpList_guard_no (by rfl) ?_
          refine HK.out _ _ (Below.refl _ _) ?_
          rfl
        · intro vv W K hB hd HK
          simp only [confRules] at hd HK
          obtain ⟨h21, h23, h20, h16⟩ := hd
          simp only [h21, h23, h20, h16] at HK ⊢
          clear h21 h23 h20 h16
          refine wpList_guard_no (by rfl) ?_
          refine HK.out _ _ (Below.refl _ _) ?_
          rfl
        · intro vv W K hB hd HK
          simp only [confRules] at hd HK
          obtain ⟨h20, h24, h16⟩ := hd
          simp only [h20, h24, h16] at HK ⊢
          clear h20 h24 h16
          refine wpList_guard_no (by rfl) ?_
          refine HK.out _ _ (Below.refl _ _) ?_
          rfl
        · intro vv W K hB hd HK
          simp only [confRules] at hd HK
          obtain ⟨h16, h25⟩ := hd
          simp only [h16, h25] at HK ⊢
          clear h16 h25
          go_wp2
          refine HK.out _ _ (Below.refl _ _) ?_
          rfl
      case rbhend =>
        intro vv W hB hf
        have e26 := hf 26 (by decide)
        simp only [endRules] at e26
        simp only [e26, dropRules]
        clear hf e26
        have hr4 := (hB.block _ (by omega)).trans ((HB2.out.block _ z0).trans HR0.out)
        have hb4 := HB2.out.trans (hB.mono z2)
        obtain ⟨c3, c4, -⟩ := HKE.out W hB
        have c5 := HGC.out W w.heap.size (HKG.out W hB)
        go_wp2_with (first | (refine wpList_build_on (by rfl) 65 _ rfl #[] (by simp) Z HBZ.out ?_) | (refine wpList_store_row rfl 65 _ _ rfl (w.heap.size + 1 + 1) Z rfl rfl 65 Z hr4 HIZ.out rfl HOZ.out ?_))
        obtain ⟨r1, r2⟩ := HFIN.out W Z false hb4 rfl
        refine bodyPost_ret (res_row_tmp rfl _ _ (w.heap.size + 1 + 1) 65 Z _ _ rfl r2 Try.underlying65 rfl HIZ.out) rfl ?_
        exact ⟨rfl, r1⟩
    · have HDX := Lib.hid (HDA.out rfl rfl)
      have HDY := Lib.hid (HDB.out rfl rfl)
      clear HDA HDB
      refine wp_region_conf2 27 [Fact.eq (.agg CG), Fact.eq (.pointer (some ⟨w.heap.size + 1, 0, none⟩)), Fact.eq (.int .i64 zone), Fact.eq (.pointer (some ⟨w.heap.size + 1, 1, none⟩)), Fact.eq (.int .i64 off), Fact.eq (.bool true), Fact.eq (.bool false), Fact.eq (.bool false), Fact.eq (.agg CG), Fact.eq (.pointer (some ⟨w1.heap.size, 5, none⟩)), Fact.eq (.int .i64 mate), Fact.eq (.pointer (some ⟨w.heap.size + 1, 1, none⟩)), Fact.eq (.int .i64 off), Fact.eq (.bool true), Fact.eq (.bool false), Fact.eq (.bool false), Fact.eq (.bool false), Fact.eq (.agg CG), Fact.eq (.pointer (some ⟨w.heap.size + 1, 0, none⟩)), Fact.eq (.int .i64 zone), Fact.eq (.int .i64 d1), Fact.eq (.agg CG), Fact.eq (.pointer (some ⟨w1.heap.size, 5, none⟩)), Fact.eq (.int .i64 mate), Fact.eq (.int .i64 d1), Fact.eq (.bool true), Fact.eq (.bool true)] ?rcA (by kernel_rfl) (by kernel_rfl) ?rchA ?rcho ?rchend
      case rchA =>
        intro vv
        simp only [putRules, Nat.reduceAdd]
        rfl
      case rcho =>
        refine ⟨?_, ?_, ?_, ?_, ?_, ?_, ?_, ?_, ?_, ?_, ?_, ?_, ?_, ?_, ?_, ?_, ?_, ?_, ?_, ?_, ?_, ?_, ?_, ?_, ?_, ?_, ?_, trivial⟩
        · intro vv W K hB hd HK
          simp only [confRules] at HK
          clear hd
          refine wpList_load_row rfl 23 _ rfl w.heap.size rfl 23 _ _ _ (HKG.out W hB) Try.underlying23 rfl HGI.out ?_
          refine HK.out _ _ (Below.refl _ _) ?_
          rfl
        · intro vv W K hB hd HK
          simp only [confRules] at HK
          clear hd
          go_wp2
          refine HK.out _ _ (Below.refl _ _) ?_
          rfl
        · intro vv W K hB hd HK
          simp only [confRules] at hd HK
          have h1 := hd
          clear hd
          simp only [h1] at HK ⊢
          clear h1
          obtain ⟨c0, -, -, -, -⟩ := HKF.out W hB
          go_wp2
          refine HK.out _ _ (Below.refl _ _) ?_
          rfl
        · intro vv W K hB hd HK
          simp only [confRules] at HK
          clear hd
          go_wp2
          refine HK.out _ _ (Below.refl _ _) ?_
          rfl
        · intro vv W K hB hd HK
          simp only [confRules] at hd HK
          have h3 := hd
          clear hd
          simp only [h3] at HK ⊢
          clear h3
          obtain ⟨-, c1, -, -, -⟩ := HKF.out W hB
          go_wp2
          refine HK.out _ _ (Below.refl _ _) ?_
          rfl
        · intro vv W K hB hd HK
          simp only [confRules] at hd HK
          obtain ⟨h0, h2, h4⟩ := hd
          simp only [h0, h2, h4] at HK ⊢
          clear h0 h2 h4
          go_wp2_with (refine (HHA.out _).mono ?_; rintro e w9 ⟨rfl, hB9⟩)
          refine HK.out _ _ hB9 ?_
          rfl
        · intro vv W K hB hd HK
          simp only [confRules] at hd HK
          have h5 := hd
          clear hd
          simp only [h5] at HK ⊢
          clear h5
          go_wp2
          refine HK.out _ _ (Below.refl _ _) ?_
          rfl
        · intro vv W K hB hd HK
          simp only [confRules] at hd HK
          obtain ⟨h6, h5⟩ := hd
          simp only [h6, h5] at HK ⊢
          clear h6 h5
          go_wp2
          refine HK.out _ _ (Below.refl _ _) ?_
          rfl
        · intro vv W K hB hd HK
          simp only [confRules] at hd HK
          have h7 := hd
          clear hd
          simp only [h7] at HK ⊢
          clear h7
          refine wpList_guard_yes (by rfl) ?_
          refine wpList_load_row rfl 23 _ rfl w.heap.size rfl 23 _ _ _ (HKG.out W hB) Try.underlying23 rfl HGI.out ?_
          refine HK.out _ _ (Below.refl _ _) ?_
          rfl
        · intro vv W K hB hd HK
          simp only [confRules] at hd HK
          have h7 := hd
          clear hd
          simp only [h7] at HK ⊢
          clear h7
          refine wpList_guard_yes (by rfl) ?_
          go_wp2
          refine HK.out _ _ (Below.refl _ _) ?_
          rfl
        · intro vv W K hB hd HK
          simp only [confRules] at hd HK
          obtain ⟨h9, h7⟩ := hd
          simp only [h9, h7] at HK ⊢
          clear h9 h7
          refine wpList_guard_yes (by rfl) ?_
          obtain ⟨-, -, c2⟩ := HKE.out W hB
          go_wp2
          refine HK.out _ _ (Below.refl _ _) ?_
          rfl
        · intro vv W K hB hd HK
          simp only [confRules] at hd HK
          have h7 := hd
          clear hd
          simp only [h7] at HK ⊢
          clear h7
          refine wpList_guard_yes (by rfl) ?_
          go_wp2
          refine HK.out _ _ (Below.refl _ _) ?_
          rfl
        · intro vv W K hB hd HK
          simp only [confRules] at hd HK
          obtain ⟨h11, h7⟩ := hd
          simp only [h11, h7] at HK ⊢
          clear h11 h7
          refine wpList_guard_yes (by rfl) ?_
          obtain ⟨-, c1, -, -, -⟩ := HKF.out W hB
          go_wp2
          refine HK.out _ _ (Below.refl _ _) ?_
          rfl
        · intro vv W K hB hd HK
          simp only [confRules] at hd HK
          obtain ⟨h8, h10, h12, h7, _⟩ := hd
          simp only [h8, h10, h12, h7] at HK ⊢
          clear h8 h10 h12 h7
          refine wpList_guard_yes (by rfl) ?_
          go_wp2_with (refine (HHB.out _).mono ?_; rintro e w9 ⟨rfl, hB9⟩)
          refine HK.out _ _ hB9 ?_
          rfl
        · intro vv W K hB hd HK
          simp only [confRules] at hd HK
          obtain ⟨h13, h7⟩ := hd
          simp only [h13, h7] at HK ⊢
          clear h13 h7
          refine wpList_guard_yes (by rfl) ?_
          go_wp2
          refine HK.out _ _ (Below.refl _ _) ?_
          rfl
        · intro vv W K hB hd HK
          simp only [confRules] at hd HK
          obtain ⟨h7, h14⟩ := hd
          simp only [h7, h14] at HK ⊢
          clear h7 h14
          go_wp2
          refine HK.out _ _ (Below.refl _ _) ?_
          rfl
        · intro vv W K hB hd HK
          simp only [confRules] at hd HK
          obtain ⟨h15, h13⟩ := hd
          simp only [h15, h13] at HK ⊢
          clear h15 h13
          go_wp2
          refine HK.out _ _ (Below.refl _ _) ?_
          rfl
        · intro vv W K hB hd HK
          simp only [confRules] at hd HK
          have h16 := hd
          clear hd
          simp only [h16] at HK ⊢
          clear h16
          refine wpList_guard_yes (by rfl) ?_
          refine wpList_load_row rfl 23 _ rfl w.heap.size rfl 23 _ _ _ (HKG.out W hB) Try.underlying23 rfl HGI.out ?_
          refine HK.out _ _ (Below.refl _ _) ?_
          rfl
        · intro vv W K hB hd HK
          simp only [confRules] at hd HK
          have h16 := hd
          clear hd
          simp only [h16] at HK ⊢
          clear h16
          refine wpList_guard_yes (by rfl) ?_
          go_wp2
          refine HK.out _ _ (Below.refl _ _) ?_
          rfl
        · intro vv W K hB hd HK
          simp only [confRules] at hd HK
          obtain ⟨h18, h16⟩ := hd
          simp only [h18, h16] at HK ⊢
          clear h18 h16
          refine wpList_guard_yes (by rfl) ?_
          obtain ⟨c0, -, -, -, -⟩ := HKF.out W hB
          go_wp2
          refine HK.out _ _ (Below.refl _ _) ?_
          rfl
        · intro vv W K hB hd HK
          simp only [confRules] at hd HK
          obtain ⟨h17, h19, h16, _⟩ := hd
          simp only [h17, h19, h16] at HK ⊢
          clear h17 h19 h16
          refine wpList_guard_yes (by rfl) ?_
          go_wp2_with (refine (HDX.out _).mono ?_; rintro e w9 ⟨rfl, hB9⟩)
          refine HK.out _ _ hB9 ?_
          rfl
        · intro vv W K hB hd HK
          simp only [confRules] at hd HK
          have h16 := hd
          clear hd
          simp only [h16] at HK ⊢
          clear h16
          refine wpList_guard_yes (by rfl) ?_
          refine wpList_load_row rfl 23 _ rfl w.heap.size rfl 23 _ _ _ (HKG.out W hB) Try.underlying23 rfl HGI.out ?_
          refine HK.out _ _ (Below.refl _ _) ?_
          rfl
        · intro vv W K hB hd HK
          simp only [confRules] at hd HK
          have h16 := hd
          clear hd
          simp only [h16] at HK ⊢
          clear h16
          refine wpList_guard_yes (by rfl) ?_
          go_wp2
          refine HK.out _ _ (Below.refl _ _) ?_
          rfl
        · intro vv W K hB hd HK
          simp only [confRules] at hd HK
          obtain ⟨h22, h16⟩ := hd
          simp only [h22, h16] at HK ⊢
          clear h22 h16
          refine wpList_guard_yes (by rfl) ?_
          obtain ⟨-, -, c2⟩ := HKE.out W hB
          go_wp2
          refine HK.out _ _ (Below.refl _ _) ?_
          rfl
        · intro vv W K hB hd HK
          simp only [confRules] at hd HK
          obtain ⟨h21, h23, h20, h16⟩ := hd
          simp only [h21, h23, h20, h16] at HK ⊢
          clear h21 h23 h20 h16
          refine wpList_guard_yes (by rfl) ?_
          go_wp2_with (refine (HDY.out _).mono ?_; rintro e w9 ⟨rfl, hB9⟩)
          refine HK.out _ _ hB9 ?_
          rfl
        · intro vv W K hB hd HK
          simp only [confRules] at hd HK
          obtain ⟨h20, h24, h16⟩ := hd
          simp only [h20, h24, h16] at HK ⊢
          clear h20 h24 h16
          refine wpList_guard_yes (by rfl) ?_
          go_wp2
          refine HK.out _ _ (Below.refl _ _) ?_
          rfl
        · intro vv W K hB hd HK
          simp only [confRules] at hd HK
          obtain ⟨h16, h25⟩ := hd
          simp only [h16, h25] at HK ⊢
          clear h16 h25
          go_wp2
          refine HK.out _ _ (Below.refl _ _) ?_
          rfl
      case rchend =>
        intro vv W hB hf
        have e26 := hf 26 (by decide)
        simp only [endRules] at e26
        simp only [e26, dropRules]
        clear hf e26
        have hr4 := (hB.block _ (by omega)).trans ((HB2.out.block _ z0).trans HR0.out)
        have hb4 := HB2.out.trans (hB.mono z2)
        obtain ⟨c3, c4, -⟩ := HKE.out W hB
        have c5 := HGC.out W w.heap.size (HKG.out W hB)
        go_wp2_with (first | (refine wpList_build_on (by rfl) 65 _ rfl #[] (by simp) Z HBZ.out ?_) | (refine wpList_store_row rfl 65 _ _ rfl (w.heap.size + 1 + 1) Z rfl rfl 65 Z hr4 HIZ.out rfl HOZ.out ?_))
        obtain ⟨r1, r2⟩ := HFIN.out W Z false hb4 rfl
        refine bodyPost_ret (res_row_tmp rfl _ _ (w.heap.size + 1 + 1) 65 Z _ _ rfl r2 Try.underlying65 rfl HIZ.out) rfl ?_
        exact ⟨rfl, r1⟩
    · have HDX := Lib.hid (HDA.out rfl rfl)
      have HDY := Lib.hid (HDB.out rfl rfl)
      clear HDA HDB
      refine wp_region_conf2 27 [Fact.eq (.agg CG), Fact.eq (.pointer (some ⟨w.heap.size + 1, 0, none⟩)), Fact.eq (.int .i64 zone), Fact.eq (.pointer (some ⟨w.heap.size + 1, 1, none⟩)), Fact.eq (.int .i64 off), Fact.eq (.bool true), Fact.eq (.bool false), Fact.eq (.bool false), Fact.eq (.agg CG), Fact.eq (.pointer (some ⟨w1.heap.size, 5, none⟩)), Fact.eq (.int .i64 mate), Fact.eq (.pointer (some ⟨w.heap.size + 1, 1, none⟩)), Fact.eq (.int .i64 off), Fact.eq (.bool true), Fact.eq (.bool false), Fact.eq (.bool false), Fact.eq (.bool false), Fact.eq (.agg CG), Fact.eq (.pointer (some ⟨w.heap.size + 1, 0, none⟩)), Fact.eq (.int .i64 zone), Fact.eq (.int .i64 d1), Fact.eq (.agg CG), Fact.eq (.pointer (some ⟨w1.heap.size, 5, none⟩)), Fact.eq (.int .i64 mate), Fact.eq (.int .i64 d2), Fact.eq (.bool false), Fact.eq (.bool false)] ?rdA (by kernel_rfl) (by kernel_rfl) ?rdhA ?rdho ?rdhend
      case rdhA =>
        intro vv
        simp only [putRules, Nat.reduceAdd]
        rfl
      case rdho =>
        refine ⟨?_, ?_, ?_, ?_, ?_, ?_, ?_, ?_, ?_, ?_, ?_, ?_, ?_, ?_, ?_, ?_, ?_, ?_, ?_, ?_, ?_, ?_, ?_, ?_, ?_, ?_, ?_, trivial⟩
        · intro vv W K hB hd HK
          simp only [confRules] at HK
          clear hd
          refine wpList_load_row rfl 23 _ rfl w.heap.size rfl 23 _ _ _ (HKG.out W hB) Try.underlying23 rfl HGI.out ?_
          refine HK.out _ _ (Below.refl _ _) ?_
          rfl
        · intro vv W K hB hd HK
          simp only [confRules] at HK
          clear hd
          go_wp2
          refine HK.out _ _ (Below.refl _ _) ?_
          rfl
        · intro vv W K hB hd HK
          simp only [confRules] at hd HK
          have h1 := hd
          clear hd
          simp only [h1] at HK ⊢
          clear h1
          obtain ⟨c0, -, -, -, -⟩ := HKF.out W hB
          go_wp2
          refine HK.out _ _ (Below.refl _ _) ?_
          rfl
        · intro vv W K hB hd HK
          simp only [confRules] at HK
          clear hd
          go_wp2
          refine HK.out _ _ (Below.refl _ _) ?_
          rfl
        · intro vv W K hB hd HK
          simp only [confRules] at hd HK
          have h3 := hd
          clear hd
          simp only [h3] at HK ⊢
          clear h3
          obtain ⟨-, c1, -, -, -⟩ := HKF.out W hB
          go_wp2
          refine HK.out _ _ (Below.refl _ _) ?_
          rfl
        · intro vv W K hB hd HK
          simp only [confRules] at hd HK
          obtain ⟨h0, h2, h4⟩ := hd
          simp only [h0, h2, h4] at HK ⊢
          clear h0 h2 h4
          go_wp2_with (refine (HHA.out _).mono ?_; rintro e w9 ⟨rfl, hB9⟩)
          refine HK.out _ _ hB9 ?_
          rfl
        · intro vv W K hB hd HK
          simp only [confRules] at hd HK
          have h5 := hd
          clear hd
          simp only [h5] at HK ⊢
          clear h5
          go_wp2
          refine HK.out _ _ (Below.refl _ _) ?_
          rfl
        · intro vv W K hB hd HK
          simp only [confRules] at hd HK
          obtain ⟨h6, h5⟩ := hd
          simp only [h6, h5] at HK ⊢
          clear h6 h5
          go_wp2
          refine HK.out _ _ (Below.refl _ _) ?_
          rfl
        · intro vv W K hB hd HK
          simp only [confRules] at hd HK
          have h7 := hd
          clear hd
          simp only [h7] at HK ⊢
          clear h7
          refine wpList_guard_yes (by rfl) ?_
          refine wpList_load_row rfl 23 _ rfl w.heap.size rfl 23 _ _ _ (HKG.out W hB) Try.underlying23 rfl HGI.out ?_
          refine HK.out _ _ (Below.refl _ _) ?_
          rfl
        · intro vv W K hB hd HK
          simp only [confRules] at hd HK
          have h7 := hd
          clear hd
          simp only [h7] at HK ⊢
          clear h7
          refine wpList_guard_yes (by rfl) ?_
          go_wp2
          refine HK.out _ _ (Below.refl _ _) ?_
          rfl
        · intro vv W K hB hd HK
          simp only [confRules] at hd HK
          obtain ⟨h9, h7⟩ := hd
          simp only [h9, h7] at HK ⊢
          clear h9 h7
          refine wpList_guard_yes (by rfl) ?_
          obtain ⟨-, -, c2⟩ := HKE.out W hB
          go_wp2
          refine HK.out _ _ (Below.refl _ _) ?_
          rfl
        · intro vv W K hB hd HK
          simp only [confRules] at hd HK
          have h7 := hd
          clear hd
          simp only [h7] at HK ⊢
          clear h7
          refine wpList_guard_yes (by rfl) ?_
          go_wp2
          refine HK.out _ _ (Below.refl _ _) ?_
          rfl
        · intro vv W K hB hd HK
          simp only [confRules] at hd HK
          obtain ⟨h11, h7⟩ := hd
          simp only [h11, h7] at HK ⊢
          clear h11 h7
          refine wpList_guard_yes (by rfl) ?_
          obtain ⟨-, c1, -, -, -⟩ := HKF.out W hB
          go_wp2
          refine HK.out _ _ (Below.refl _ _) ?_
          rfl
        · intro vv W K hB hd HK
          simp only [confRules] at hd HK
          obtain ⟨h8, h10, h12, h7, _⟩ := hd
          simp only [h8, h10, h12, h7] at HK ⊢
          clear h8 h10 h12 h7
          refine wpList_guard_yes (by rfl) ?_
          go_wp2_with (refine (HHB.out _).mono ?_; rintro e w9 ⟨rfl, hB9⟩)
          refine HK.out _ _ hB9 ?_
          rfl
        · intro vv W K hB hd HK
          simp only [confRules] at hd HK
          obtain ⟨h13, h7⟩ := hd
          simp only [h13, h7] at HK ⊢
          clear h13 h7
          refine wpList_guard_yes (by rfl) ?_
          go_wp2
          refine HK.out _ _ (Below.refl _ _) ?_
          rfl
        · intro vv W K hB hd HK
          simp only [confRules] at hd HK
          obtain ⟨h7, h14⟩ := hd
          simp only [h7, h14] at HK ⊢
          clear h7 h14
          go_wp2
          refine HK.out _ _ (Below.refl _ _) ?_
          rfl
        · intro vv W K hB hd HK
          simp only [confRules] at hd HK
          obtain ⟨h15, h13⟩ := hd
          simp only [h15, h13] at HK ⊢
          clear h15 h13
          go_wp2
          refine HK.out _ _ (Below.refl _ _) ?_
          rfl
        · intro vv W K hB hd HK
          simp only [confRules] at hd HK
          have h16 := hd
          clear hd
          simp only [h16] at HK ⊢
          clear h16
          refine wpList_guard_yes (by rfl) ?_
          refine wpList_load_row rfl 23 _ rfl w.heap.size rfl 23 _ _ _ (HKG.out W hB) Try.underlying23 rfl HGI.out ?_
          refine HK.out _ _ (Below.refl _ _) ?_
          rfl
        · intro vv W K hB hd HK
          simp only [confRules] at hd HK
          have h16 := hd
          clear hd
          simp only [h16] at HK ⊢
          clear h16
          refine wpList_guard_yes (by rfl) ?_
          go_wp2
          refine HK.out _ _ (Below.refl _ _) ?_
          rfl
        · intro vv W K hB hd HK
          simp only [confRules] at hd HK
          obtain ⟨h18, h16⟩ := hd
          simp only [h18, h16] at HK ⊢
          clear h18 h16
          refine wpList_guard_yes (by rfl) ?_
          obtain ⟨c0, -, -, -, -⟩ := HKF.out W hB
          go_wp2
          refine HK.out _ _ (Below.refl _ _) ?_
          rfl
        · intro vv W K hB hd HK
          simp only [confRules] at hd HK
          obtain ⟨h17, h19, h16, _⟩ := hd
          simp only [h17, h19, h16] at HK ⊢
          clear h17 h19 h16
          refine wpList_guard_yes (by rfl) ?_
          go_wp2_with (refine (HDX.out _).mono ?_; rintro e w9 ⟨rfl, hB9⟩)
          refine HK.out _ _ hB9 ?_
          rfl
        · intro vv W K hB hd HK
          simp only [confRules] at hd HK
          have h16 := hd
          clear hd
          simp only [h16] at HK ⊢
          clear h16
          refine wpList_guard_yes (by rfl) ?_
          refine wpList_load_row rfl 23 _ rfl w.heap.size rfl 23 _ _ _ (HKG.out W hB) Try.underlying23 rfl HGI.out ?_
          refine HK.out _ _ (Below.refl _ _) ?_
          rfl
        · intro vv W K hB hd HK
          simp only [confRules] at hd HK
          have h16 := hd
          clear hd
          simp only [h16] at HK ⊢
          clear h16
          refine wpList_guard_yes (by rfl) ?_
          go_wp2
          refine HK.out _ _ (Below.refl _ _) ?_
          rfl
        · intro vv W K hB hd HK
          simp only [confRules] at hd HK
          obtain ⟨h22, h16⟩ := hd
          simp only [h22, h16] at HK ⊢
          clear h22 h16
          refine wpList_guard_yes (by rfl) ?_
          obtain ⟨-, -, c2⟩ := HKE.out W hB
          go_wp2
          refine HK.out _ _ (Below.refl _ _) ?_
          rfl
        · intro vv W K hB hd HK
          simp only [confRules] at hd HK
          obtain ⟨h21, h23, h20, h16⟩ := hd
          simp only [h21, h23, h20, h16] at HK ⊢
          clear h21 h23 h20 h16
          refine wpList_guard_yes (by rfl) ?_
          go_wp2_with (refine (HDY.out _).mono ?_; rintro e w9 ⟨rfl, hB9⟩)
          refine HK.out _ _ hB9 ?_
          rfl
        · intro vv W K hB hd HK
          simp only [confRules] at hd HK
          obtain ⟨h20, h24, h16⟩ := hd
          simp only [h20, h24, h16] at HK ⊢
          clear h20 h24 h16
          refine wpList_guard_yes (by rfl) ?_
          go_wp2
          refine HK.out _ _ (Below.refl _ _) ?_
          rfl
        · intro vv W K hB hd HK
          simp only [confRules] at hd HK
          obtain ⟨h16, h25⟩ := hd
          simp only [h16, h25] at HK ⊢
          clear h16 h25
          go_wp2
          refine HK.out _ _ (Below.refl _ _) ?_
          rfl
      case rdhend =>
        intro vv W hB hf
        have e26 := hf 26 (by decide)
        simp only [endRules] at e26
        simp only [e26, dropRules]
        clear hf e26
        have hr4 := (hB.block _ (by omega)).trans ((HB2.out.block _ z0).trans HR0.out)
        have hb4 := HB2.out.trans (hB.mono z2)
        obtain ⟨c3, c4, -⟩ := HKE.out W hB
        have c5 := HGC.out W w.heap.size (HKG.out W hB)
        have hE4 := (hB.block _ zE2).trans HE2.out
        obtain ⟨hb1, hb2⟩ := HBD.out rfl
        rw [show max many 1 = if many < 1 then 1 else many by split <;> omega] at hc
        by_cases hm : many < 1
        · rw [if_pos hm] at hc
          rcases hc with ⟨t9, rfl⟩ | ⟨t9, rfl⟩
          · go_wp2_with (first | (refine wpList_build_on (by rfl) 65 _ rfl #[] (by simp) Z HBZ.out ?_) | (refine wpList_store_row rfl 65 _ _ rfl (w.heap.size + 1 + 1) Z rfl rfl 65 Z hr4 HIZ.out rfl HOZ.out ?_))
            obtain ⟨r1, r2⟩ := HFIN.out W Z false hb4 rfl
            refine bodyPost_ret (res_row_tmp rfl _ _ (w.heap.size + 1 + 1) 65 Z _ _ rfl r2 Try.underlying65 rfl HIZ.out) rfl ?_
            exact ⟨rfl, r1⟩
          · go_wp2_with (first | (refine wpList_load_row rfl 65 _ rfl w1.heap.size rfl 65 _ _ _ hE4 Try.underlying65 rfl HIE.out ?_) | (refine wpList_store_row rfl 65 _ _ rfl (w.heap.size + 1 + 1) CE rfl rfl 65 Z hr4 HIE.out HSE.out HOE.out ?_))
            obtain ⟨r1, r2⟩ := HFIN.out W CE false hb4 HSE.out.symm
            refine bodyPost_ret (res_row_tmp rfl _ _ (w.heap.size + 1 + 1) 65 CE _ _ rfl r2 Try.underlying65 rfl HIE.out) rfl ?_
            exact ⟨rfl, r1⟩
        · rw [if_neg hm] at hc
          rcases hc with ⟨t9, rfl⟩ | ⟨t9, rfl⟩
          · go_wp2_with (first | (refine wpList_build_on (by rfl) 65 _ rfl #[] (by simp) Z HBZ.out ?_) | (refine wpList_store_row rfl 65 _ _ rfl (w.heap.size + 1 + 1) Z rfl rfl 65 Z hr4 HIZ.out rfl HOZ.out ?_))
            obtain ⟨r1, r2⟩ := HFIN.out W Z false hb4 rfl
            refine bodyPost_ret (res_row_tmp rfl _ _ (w.heap.size + 1 + 1) 65 Z _ _ rfl r2 Try.underlying65 rfl HIZ.out) rfl ?_
            exact ⟨rfl, r1⟩
          · go_wp2_with (first | (refine wpList_load_row rfl 65 _ rfl w1.heap.size rfl 65 _ _ _ hE4 Try.underlying65 rfl HIE.out ?_) | (refine wpList_store_row rfl 65 _ _ rfl (w.heap.size + 1 + 1) CE rfl rfl 65 Z hr4 HIE.out HSE.out HOE.out ?_))
            obtain ⟨r1, r2⟩ := HFIN.out W CE false hb4 HSE.out.symm
            refine bodyPost_ret (res_row_tmp rfl _ _ (w.heap.size + 1 + 1) 65 CE _ _ rfl r2 Try.underlying65 rfl HIE.out) rfl ?_
            exact ⟨rfl, r1⟩
theorem rrecord_any (g : Geo.G) (epoch : Int) (f : Fnd) (w : World) (hq : FndQ f) :
    Calls Try.prog 17 #[.agg (GC g), .int .i64 epoch, .agg (fndC f)] w fun e w' => e = .returned (.tuple #[.agg (EC ((recE g epoch f).getD En.E.zero)), .bool (recE g epoch f).isSome]) ∧ Below w.heap.size w w' := by
  have hqq := hq
  obtain ⟨-, -, hbd, -⟩ := hq
  have hE := readE_body f.fr hbd
  obtain ⟨r, hr⟩ : ∃ r, readE f.fr = r := ⟨_, rfl⟩
  rw [hr] at hE
  have hok : r.2 = 0 → En.right r.1 = true := fun h => by have := readE_ok hbd (by rw [hr]; exact h); rwa [hr] at this
  have hrec : recE g epoch f = if r.2 = 0 ∧ f.fr.epoch = epoch ∧ f.fr.zone = f.zone ∧ f.fr.off = f.off ∧ Rl.lies g f r.1 = true then some r.1 else none := by unfold recE; rw [hr]
  obtain ⟨rb, hrb⟩ : ∃ b, (recE g epoch f).isSome = b := ⟨_, rfl⟩
  have hres : EC ((recE g epoch f).getD En.E.zero) = if rb = true then EC r.1 else EC En.E.zero := by
    rw [← hrb, hrec]
    split <;> rfl
  rw [hres, hrb]
  refine rrecord_core w (fndC f) (EC r.1) g epoch f.zone f.off f.fr.zone f.fr.off f.fr.epoch r.1.mate r.1.block r.1.many r.2 (holdsG g f.zone f.off) (holdsG g r.1.mate f.off) rb (domOf g f.zone) (domOf g r.1.mate) (FC f.fr).toList ?_ ?_ (size_fnd hqq) ?_ (size_ent hE.1) (by rw [EC_size, EC_size, hE.1]; rfl) (EC_one _) ?_ (fun W => gholds_any g _ _ W) (fun W => gholds_any g _ _ W) ?_ ?_ ?_ ?_
  · intro W b h
    obtain ⟨c0, c1, c2, c3, c4, -⟩ := fnd_cells h
    exact ⟨c0, c1, c2, c3, c4, fnd_range h⟩
  · intro W b h
    obtain ⟨-, -, -, c3, c4, c5⟩ := ent_cells h
    exact ⟨c3, c4, c5⟩
  · rw [Array.length_toList, FC_size, hbd.1]; exact (zero_of_info Try.infoFrame).2
  · intro W
    have := eread_any f.fr W hbd
    rw [hr] at this
    rw [Array.toArray_toList]
    exact this
  · intro h1 _ W
    exact gdomain_any g _ W (holdsG_small h1)
  · intro h1 _ W
    exact gdomain_any g _ W (holdsG_small h1)
  · intro h
    obtain ⟨a, b, c, m, t2, he, -, -, -, h4, h5, -⟩ := En.right_nat (hok h)
    rw [he]
    simp only
    omega
  · have hb : ∀ p : Prop, [Decidable p] → (recE g epoch f).isSome = decide (r.2 = 0 ∧ f.fr.epoch = epoch ∧ f.fr.zone = f.zone ∧ f.fr.off = f.off ∧ Rl.lies g f r.1 = true) := fun p _ => by
      rw [hrec]
      split <;> simp_all
    have hb := hb True
    rw [hrb] at hb
    unfold Rl.lies at hb
    by_cases h0 : r.2 = 0
    · by_cases h1 : f.fr.epoch = epoch
      · by_cases h2 : f.fr.zone = f.zone
        · by_cases h3 : f.fr.off = f.off
          · refine .inr (.inr (.inr (.inr ⟨h0, h1.symm, h2.symm, h3.symm, ?_⟩)))
            cases k1 : holdsG g f.zone f.off
            · exact .inl ⟨rfl, by rw [hb, k1]; simp⟩
            · cases k2 : holdsG g r.1.mate f.off
              · exact .inr (.inl ⟨rfl, rfl, by rw [hb, k2]; simp⟩)
              · by_cases h4 : domOf g f.zone = domOf g r.1.mate
                · exact .inr (.inr (.inl ⟨rfl, rfl, h4, by rw [hb, h4]; simp⟩))
                · refine .inr (.inr (.inr ⟨rfl, rfl, by simp [h4], ?_⟩))
                  by_cases h5 : r.1.block + max r.1.many 1 ≤ g.b
                  · exact .inr ⟨decide_eq_false (by omega), by rw [hb, k1, k2]; simp [h0, h1, h2, h3, h4, h5]⟩
                  · exact .inl ⟨decide_eq_true (by omega), by rw [hb]; simp [h5]⟩
          · exact .inr (.inr (.inr (.inl ⟨h0, h1.symm, h2.symm, by simp [h3], by rw [hb]; simp [h3]⟩)))
        · exact .inr (.inr (.inl ⟨h0, h1.symm, by simp [h2], by rw [hb]; simp [h2]⟩))
      · exact .inr (.inl ⟨h0, by simp [h1], by rw [hb]; simp [h1]⟩)
    · exact .inl ⟨by simp [h0], by rw [hb]; simp [h0]⟩
end Go.Proofs.Ytoiephmngdecaaa
