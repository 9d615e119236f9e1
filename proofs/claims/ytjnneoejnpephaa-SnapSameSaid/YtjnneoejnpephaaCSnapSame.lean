/- Proved here, one behind the other: Proved here: the document's Right of a snapshot; Proved here: a map's Copy; Proved here: the walk of the law on snapshots that are the same. -/
import Derived.LoopTactic
import Derived.WalkSpells
import Derived.WalkLawsBesides
import Derived.Test.YtjnneoejnpephaaBa
import Derived.Test.YtjnneoejnpephaaBc
import Derived.Test.YtjnneoejnpephaaBn
import Derived.Test.YtjnneoejnpephaaBs
import Derived.Test.YtjnneoejnpephaaBt
namespace Go.Proofs.Ytjnneoejnpephaa
open Go.RowKit Go.Rv
set_option linter.unusedVariables false
attribute [local go_sem] Oper.semAt_some
set_option maxRecDepth 100000 in
set_option maxHeartbeats 8000000 in
theorem rsright_core (w : World) (gen epoch next : Int) (g : Geo.G) (a : Option Addr) (cap : Nat) (es : List BE) (hr : RowOf w 6 BEC (fun _ => True) a es) (hn : es.length ≤ 100000) :
    Calls Try.prog 22 #[.agg (RC gen epoch next g (.slice a es.length cap))] w fun e w' => e = .returned (.bool (Sn.right gen epoch next es)) ∧ Below w.heap.size w w' := by
  have hB0 := (Below.refl w.heap.size w).alloc (Nat.le_refl _) (.cells (RC gen epoch next g (.slice a es.length cap)) 32)
  have hX0 := heap_alloc_new w (.cells (RC gen epoch next g (.slice a es.length cap)) 32)
  have HCC : Hid (∀ W : World, W.heap[w.heap.size]? = some (.cells (RC gen epoch next g (.slice a es.length cap)) 32 (0, 0)) → W.cell? ⟨w.heap.size, 0, none⟩ = some (.int .i64 gen) ∧ W.cell? ⟨w.heap.size, 1, none⟩ = some (.int .i64 epoch) ∧ W.cell? ⟨w.heap.size, 2, none⟩ = some (.int .i64 next) ∧ W.cell? ⟨w.heap.size, 9, none⟩ = some (.slice a es.length cap)) := Lib.hid (fun W h => ⟨(cell_of_row _ _ _ _ _ _ h).trans rfl, (cell_of_row _ _ _ _ _ _ h).trans rfl, (cell_of_row _ _ _ _ _ _ h).trans rfl, (cell_of_row _ _ _ _ _ _ h).trans rfl⟩)
  have HRO := Lib.hid (hr.below hB0)
  obtain ⟨C, hC⟩ : ∃ C, RC gen epoch next g (.slice a es.length cap) = C := ⟨_, rfl⟩
  rw [hC] at hB0 hX0 HCC HRO ⊢
  clear hC hr
  obtain ⟨W0, hW0⟩ : ∃ W0, w.alloc (.cells C 32) = W0 := ⟨_, rfl⟩
  rw [hW0] at hB0 hX0 HRO
  have HW0 := Lib.hid hW0
  have HB0 := Lib.hid hB0
  have HX0 := Lib.hid hX0
  have z0 : w.heap.size < W0.heap.size := (Array.getElem?_eq_some_iff.1 hX0).1
  obtain ⟨c0, c1, c2, c9⟩ := HCC.out _ hX0
  clear hW0 hB0 hX0
  have hcase : (Sn.right gen epoch next es = false ∧ (decide (gen < 1) = true ∨ (decide (gen < 1) = false ∧ decide (281474976710655 < gen) = true) ∨ (decide (gen < 1) = false ∧ decide (281474976710655 < gen) = false ∧ decide (epoch < 1) = true) ∨ (decide (gen < 1) = false ∧ decide (281474976710655 < gen) = false ∧ decide (epoch < 1) = false ∧ decide (4294967295 < epoch) = true) ∨ (decide (gen < 1) = false ∧ decide (281474976710655 < gen) = false ∧ decide (epoch < 1) = false ∧ decide (4294967295 < epoch) = false ∧ decide (next < 1) = true) ∨ (decide (gen < 1) = false ∧ decide (281474976710655 < gen) = false ∧ decide (epoch < 1) = false ∧ decide (4294967295 < epoch) = false ∧ decide (next < 1) = false ∧ decide (281474976710655 < next) = true))) ∨ ((Sn.right gen epoch next es = es.all fun e => decide (e.q < next)) ∧ decide (gen < 1) = false ∧ decide (281474976710655 < gen) = false ∧ decide (epoch < 1) = false ∧ decide (4294967295 < epoch) = false ∧ decide (next < 1) = false ∧ decide (281474976710655 < next) = false) := by
    simp only [decide_eq_true_eq, decide_eq_false_iff_not]
    by_cases h : Sn.nums gen epoch next = true
    · right
      obtain ⟨⟨a1, a2⟩, ⟨b1, b2⟩, n1, n2⟩ := Sn.nums_iff.1 h
      refine ⟨by unfold Sn.right; rw [h]; rfl, ?_⟩
      omega
    · left
      refine ⟨by unfold Sn.right; rw [Bool.eq_false_iff.2 h]; rfl, ?_⟩
      rw [Sn.nums_iff] at h
      omega
  obtain ⟨r, hrr⟩ : ∃ r, Sn.right gen epoch next es = r := ⟨_, rfl⟩
  rw [hrr] at hcase ⊢
  clear hrr
  go_enter Try.func22, Try.ntmps22
  go_upto_region 1 with (fail)
  rw [HW0.out]
  rcases hcase with ⟨hf, hc⟩ | ⟨hf, t1, t2, t3, t4, t5, t6⟩
  · subst hf
    rcases hc with t1 | ⟨t1, t2⟩ | ⟨t1, t2, t3⟩ | ⟨t1, t2, t3, t4⟩ | ⟨t1, t2, t3, t4, t5⟩ | ⟨t1, t2, t3, t4, t5, t6⟩
    all_goals
      go_wp2
      go_ret
      exact ⟨rfl, HB0.out⟩
  · have HF := Lib.hid hf
    clear hf
    go_upto_region 3 with (fail)
    clear t1 t2 t3 t4 t5 t6 c0 c1 c2 c9
    go_wp2
    go_loopw [3] (fun u wr => ∃ k : Nat, k ≤ es.length ∧ u = .int .i64 k ∧ (∀ e ∈ es.take k, e.q < next) ∧ Below W0.heap.size W0 wr) (fun u _ => es.length - (intOf u).toNat)
    case atStart => exact ⟨0, Nat.zero_le _, rfl, by simp, Below.refl _ _⟩
    case round =>
      obtain ⟨k, hk, rfl, hall, hBr⟩ := hrel
      have HALL := Lib.hid hall
      have HBR := Lib.hid hBr
      have zr := hBr.size
      have HXr := Lib.hid ((hBr.block w.heap.size z0).trans HX0.out)
      obtain ⟨c0, c1, c2, c9⟩ := HCC.out _ HXr.out
      clear hall hBr
      by_cases hlt : k < es.length
      · obtain ⟨x, hx⟩ : ∃ x, es[k]? = some x := ⟨_, List.getElem?_eq_getElem hlt⟩
        obtain ⟨b, o, rfl, hbl, -, -, -, -, -, d4, -⟩ := (HRO.out.below HBR.out).ent6 hx
        have HTK : Hid (x.q < next → ∀ e ∈ es.take (k + 1), e.q < next) := Lib.hid (fun h e he => by
          rw [List.take_add_one, hx] at he
          rcases List.mem_append.1 he with he | he
          · exact HALL.out e he
          · have : e = x := by simpa using he
            rw [this]; exact h)
        have HNO : Hid (¬ x.q < next → (es.all fun e => decide (e.q < next)) = false) := Lib.hid (fun h => by
          rw [List.all_eq_false]
          exact ⟨x, List.mem_of_getElem? hx, by simpa using h⟩)
        have HD4 : Hid (∀ W : World, Below wr.heap.size wr W → W.cell? ⟨b, o + k * 6 + 4, none⟩ = some (.int .i64 x.q)) := Lib.hid (fun W hW => (hW.cell (p := ⟨b, o + k * 6 + 4, none⟩) hbl).trans d4)
        have t0 : decide ((k : Int) < (es.length : Int)) = true := decide_eq_true (by omega)
        clear hx d4 hbl
        go_upto_region 6 with (fail)
        clear t0 c0 c1 c2 c9
        refine wp_region_conf2 8 [Fact.eq (.pointer (some ⟨w.heap.size, 9, none⟩)), Fact.eq (.slice (some ⟨b, o, none⟩) es.length cap), Fact.eq (.int .i64 (k : Nat)), Fact.eq (.pointer (some ⟨b, o + k * 6, none⟩)), Fact.eq (.pointer (some ⟨b, o + k * 6 + 4, none⟩)), Fact.eq (.int .i64 x.q), Fact.eq (.pointer (some ⟨w.heap.size, 2, none⟩)), Fact.eq (.int .i64 next)] ?raA (by kernel_rfl) (by kernel_rfl) ?rahA ?raho ?rahend
        case rahA =>
          intro vv
          simp only [putRules, Nat.reduceAdd]
          rfl
        case raho =>
          refine ⟨?_, ?_, ?_, ?_, ?_, ?_, ?_, ?_, trivial⟩
          · intro vv W K hB hd HK
            simp only [confRules] at HK
            clear hd
            go_wp2
            refine HK.out _ _ (Below.refl _ _) ?_
            rfl
          · intro vv W K hB hd HK
            simp only [confRules] at hd HK
            have h0 := hd
            clear hd
            simp only [h0] at HK ⊢
            clear h0
            obtain ⟨c0, c1, c2, c9⟩ := HCC.out _ ((hB.block w.heap.size (by omega)).trans HXr.out)
            clear c0 c1 c2
            go_wp2
            refine HK.out _ _ (Below.refl _ _) ?_
            rfl
          · intro vv W K hB hd HK
            simp only [confRules] at HK
            clear hd
            go_wp2
            refine HK.out _ _ (Below.refl _ _) ?_
            rfl
          · intro vv W K hB hd HK
            simp only [confRules] at hd HK
            obtain ⟨h1, h2⟩ := hd
            simp only [h1, h2] at HK ⊢
            clear h1 h2
            go_wp2
            refine HK.out _ _ (Below.refl _ _) ?_
            rfl
          · intro vv W K hB hd HK
            simp only [confRules] at hd HK
            have h3 := hd
            clear hd
            simp only [h3] at HK ⊢
            clear h3
            go_wp2
            refine HK.out _ _ (Below.refl _ _) ?_
            rfl
          · intro vv W K hB hd HK
            simp only [confRules] at hd HK
            have h4 := hd
            clear hd
            simp only [h4] at HK ⊢
            clear h4
            have d4 := HD4.out _ hB
            go_wp2
            refine HK.out _ _ (Below.refl _ _) ?_
            rfl
          · intro vv W K hB hd HK
            simp only [confRules] at HK
            clear hd
            go_wp2
            refine HK.out _ _ (Below.refl _ _) ?_
            rfl
          · intro vv W K hB hd HK
            simp only [confRules] at hd HK
            have h6 := hd
            clear hd
            simp only [h6] at HK ⊢
            clear h6
            obtain ⟨c0, c1, c2, c9⟩ := HCC.out _ ((hB.block w.heap.size (by omega)).trans HXr.out)
            clear c0 c1 c9
            go_wp2
            refine HK.out _ _ (Below.refl _ _) ?_
            rfl
        case rahend =>
          intro vv W hB hf
          have e5 := hf 5 (by decide)
          have e7 := hf 7 (by decide)
          simp only [endRules] at e5 e7
          simp only [e5, e7, dropRules]
          clear hf e5 e7
          have HBW := Lib.hid (HBR.out.trans (hB.mono HBR.out.size))
          clear hB
          by_cases hq : x.q < next
          · have t1 : decide (next ≤ x.q) = false := decide_eq_false (by omega)
            have HT := Lib.hid (HTK.out hq)
            clear hq
            go_wp2
            go_roundw
            case rel => exact ⟨k + 1, by omega, by go_num, HT.out, HBW.out⟩
            case measure => simp [intOf]; omega
          · have t1 : decide (next ≤ x.q) = true := decide_eq_true (by omega)
            obtain rfl : r = false := HF.out.trans (HNO.out hq)
            clear hq
            go_wp2
            go_ret
            exact ⟨rfl, HB0.out.trans (HBW.out.mono HB0.out.size)⟩
      · obtain rfl : k = es.length := by omega
        have HT : Hid ((es.all fun e => decide (e.q < next)) = true) := Lib.hid (by
          rw [List.all_eq_true]
          intro e he
          have := HALL.out e (by rw [List.take_length]; exact he)
          exact decide_eq_true this)
        obtain rfl : r = true := HF.out.trans HT.out
        go_wp2
        go_ret
        exact ⟨rfl, HB0.out.trans (HBR.out.mono HB0.out.size)⟩
theorem rsright_any (w : World) (gen epoch next : Int) (g : Geo.G) (v : Value) (base : Nat) (es : List BE) (h : OwnM w 104 6 BEC (fun _ => True) base v es) (hn : es.length ≤ 100000) :
    Calls Try.prog 22 #[.agg (RC gen epoch next g v)] w fun e w' => e = .returned (.bool (Sn.right gen epoch next es)) ∧ Below w.heap.size w w' := by
  obtain ⟨a, cap, rfl, hr, -⟩ := h.shape kinR
  exact rsright_core w gen epoch next g a cap es hr hn
end Go.Proofs.Ytjnneoejnpephaa
namespace Go.Rv
open Go.RowKit
theorem OwnM.empty {α : Type} {w : World} {e : TypeId} {n : Nat} {X : α → Array Value} {Q : α → Prop} {base g : Nat} (hg : w.heap[g]? = some (.cells #[] e (0, 0))) (hb : base ≤ g) : OwnM w e n X Q base (.slice (some ⟨g, 0, none⟩) 0 0) [] :=
  ⟨⟨by simp [flatM], .inr ⟨g, 0, #[], rfl, hb, hg, Nat.le_refl _, by decide, by simp, by simp [flatM]⟩⟩, by simp⟩
end Go.Rv
namespace Go.Proofs.Ytjnneoejnpephaa
open Go.RowKit Go.Rv
set_option linter.unusedVariables false
theorem kinE : Kin 6 BEC (fun _ => True) := ⟨fun e _ => BEC_size e, fun e _ => BEC_one e⟩
/-- an int, as cells -/
def iC (x : Int) : Array Value := #[.int .i64 x]
theorem kinI : Kin 1 iC (fun _ => True) := ⟨fun e _ => rfl, fun e _ => by simp [iC, Value.oneCell']⟩
theorem flat_iC (l : List Int) : flatM iC l = l.map (Value.int .i64) := by
  induction l with
  | nil => rfl
  | cons x l ih => simp only [flatM, List.flatMap_cons, List.map_cons, iC] at ih ⊢; rw [ih]; rfl
theorem flat_BEC (l : List BE) : flatM BEC l = flatE l := rfl
set_option maxRecDepth 100000 in
set_option maxHeartbeats 2000000 in
theorem eclone_any (w : World) (ad : Addr) (es : List BE) (cp : Nat) (hR : RowOf w 6 BEC (fun _ => True) (some ad) es) (hl : es.length ≤ 100000) :
    Calls Try.prog 52 #[.slice (some ad) es.length cp] w fun e w' => ∃ v, e = .returned v ∧ OwnM w' 46 6 BEC (fun _ => True) w.heap.size v es ∧ Below w.heap.size w w' := by
  have HR := Lib.hid (hR.below ((Below.refl _ w).alloc (Nat.le_refl _) (.cells #[] 46)))
  have hnil := fun W => Lib.run_eql_slice_nil (P := Try.prog) W 108 46 (some ad) es.length cp 0 0 Try.underlying108
  have hinfo : (Try.prog.info? 46).map (fun i => (i.zero, i.size, i.bytes)) = some (some (.agg (BEC BE.zero)), 6, 48) := by kernel_rfl
  have HI := Lib.hid hinfo
  have hown : OwnM (w.alloc (.cells #[] 46)) 46 6 BEC (fun _ => True) w.heap.size (.slice (some ⟨w.heap.size, 0, none⟩) 0 0) [] := OwnM.empty (heap_alloc_new _ _) (Nat.le_refl _)
  have HOG := Lib.hid (fun w' (hg : (w.alloc (.cells #[] 46)).grownBy w' (some w.heap.size)) => ((Below.refl w.heap.size w).alloc (Nat.le_refl _) _).trans (hown.grown hg (by simp)))
  have HOWN := Lib.hid hown
  clear hR hinfo hown
  go_enter Try.func52, Try.ntmps52
  go_wp2_with (at_builtin; refine wpList_appendM rfl (.tmp 5) (.tmp 6) 108 rfl 46 6 BEC (fun _ => True) kinE (by decide) (.agg (BEC BE.zero)) 48 Try.underlying108 HI.out rfl w.heap.size _ [] rfl HOWN.out (some ad) cp es rfl HR.out (by simp) (by unfold maxLen; simp; omega) (by simp; omega) (by simp) ?_; intro v' w' hv hg _)
  go_ret
  exact ⟨_, rfl, hv, HOG.out _ hg⟩
set_option maxRecDepth 100000 in
set_option maxHeartbeats 2000000 in
theorem iclone_any (w : World) (ad : Addr) (es : List Int) (cp : Nat) (hR : RowOf w 1 iC (fun _ => True) (some ad) es) (hl : es.length ≤ 100000) :
    Calls Try.prog 53 #[.slice (some ad) es.length cp] w fun e w' => ∃ v, e = .returned v ∧ OwnM w' 3 1 iC (fun _ => True) w.heap.size v es ∧ Below w.heap.size w w' := by
  have HR := Lib.hid (hR.below ((Below.refl _ w).alloc (Nat.le_refl _) (.cells #[] 3)))
  have hnil := fun W => Lib.run_eql_slice_nil (P := Try.prog) W 59 3 (some ad) es.length cp 0 0 Try.underlying59
  have hinfo : (Try.prog.info? 3).map (fun i => (i.zero, i.size, i.bytes)) = some (some (.int .i64 0), 1, 8) := by kernel_rfl
  have HI := Lib.hid hinfo
  have hown : OwnM (w.alloc (.cells #[] 3)) 3 1 iC (fun _ => True) w.heap.size (.slice (some ⟨w.heap.size, 0, none⟩) 0 0) [] := OwnM.empty (heap_alloc_new _ _) (Nat.le_refl _)
  have HOG := Lib.hid (fun w' (hg : (w.alloc (.cells #[] 3)).grownBy w' (some w.heap.size)) => ((Below.refl w.heap.size w).alloc (Nat.le_refl _) _).trans (hown.grown hg (by simp)))
  have HOWN := Lib.hid hown
  clear hR hinfo hown
  go_enter Try.func53, Try.ntmps53
  go_wp2_with (at_builtin; refine wpList_appendM rfl (.tmp 5) (.tmp 6) 59 rfl 3 1 iC (fun _ => True) kinI (by decide) (.int .i64 0) 8 Try.underlying59 HI.out rfl w.heap.size _ [] rfl HOWN.out (some ad) cp es rfl HR.out (by simp) (by unfold maxLen; simp; omega) (by simp; omega) (by simp) ?_; intro v' w' hv hg _)
  go_ret
  exact ⟨_, rfl, hv, HOG.out _ hg⟩
/-- a row that is a copy -/
def CRow (B : Nat) (t : TypeId) (L : List Value) (n b c : Nat) (w : World) : Prop := B ≤ b ∧ n ≤ c ∧ c ≤ 9223372036854775807 ∧ ∃ cur : Array Value, w.heap[b]? = some (.cells cur t (0, 0)) ∧ cur.toList.take L.length = L
theorem CRow.below {B : Nat} {t : TypeId} {L : List Value} {n b c : Nat} {w w' : World} (h : CRow B t L n b c w) (hB : Below w.heap.size w w') : CRow B t L n b c w' := by
  obtain ⟨h1, h2, h3, cur, hc, ht⟩ := h
  exact ⟨h1, h2, h3, cur, (hB.block b (Array.getElem?_eq_some_iff.1 hc).1).trans hc, ht⟩
theorem crow_of_own {α : Type} {w : World} {e : TypeId} {n : Nat} {X : α → Array Value} {base : Nat} {v : Value} {xs : List α} (hK : Kin n X (fun _ => True)) (h : OwnM w e n X (fun _ => True) base v xs) (h0 : xs ≠ []) : ∃ b c, v = .slice (some ⟨b, 0, none⟩) xs.length c ∧ CRow base e (flatM X xs) xs.length b c w := by
  rcases h.1.2 with ⟨-, hn⟩ | ⟨g, cap, cur, rfl, hb, hg, hnc, hcm, hcs, htake⟩
  · exact absurd (List.eq_nil_of_length_eq_zero hn) h0
  · exact ⟨g, cap, rfl, hb, hnc, by unfold maxLen at hcm; omega, cur, hg, by rw [flatM_length (n := n) (fun y _ => hK.size y trivial)]; exact htake⟩
def CSl (B : Nat) (t : TypeId) (L : List Value) (n : Nat) (u : Value) (w : World) : Prop := ∃ b c, u = .slice (some ⟨b, 0, none⟩) n c ∧ CRow B t L n b c w
theorem CSl.st (B : Nat) (t : TypeId) (L : List Value) (n : Nat) (u : Value) (w w' : World) (h : CSl B t L n u w) (hB : Below w.heap.size w w') : CSl B t L n u w' := by
  obtain ⟨b, c, e, h1⟩ := h
  exact ⟨b, c, e, h1.below hB⟩
def CMap (B : Nat) (g : Geo.G) (E L : List Value) (n m : Nat) (u : Value) (w : World) : Prop := ∃ b c1 c c2, u = .agg (mapC g b n c1 c m c2) ∧ CRow B 46 E n b c1 w ∧ CRow B 3 L m c c2 w
theorem CMap.st (B : Nat) (g : Geo.G) (E L : List Value) (n m : Nat) (u : Value) (w w' : World) (h : CMap B g E L n m u w) (hB : Below w.heap.size w w') : CMap B g E L n m u w' := by
  obtain ⟨b, c1, c, c2, e, h1, h2⟩ := h
  exact ⟨b, c1, c, c2, e, h1.below hB, h2.below hB⟩
def CPtr (B : Nat) (g : Geo.G) (E L : List Value) (n m : Nat) (u : Value) (w : World) : Prop := ∃ p b c1 c c2, u = .pointer (some ⟨p, 0, none⟩) ∧ B ≤ p ∧ w.heap[p]? = some (.cells (mapC g b n c1 c m c2) 110 (0, 0)) ∧ CRow B 46 E n b c1 w ∧ CRow B 3 L m c c2 w
theorem CPtr.st (B : Nat) (g : Geo.G) (E L : List Value) (n m : Nat) (u : Value) (w w' : World) (h : CPtr B g E L n m u w) (hB : Below w.heap.size w w') : CPtr B g E L n m u w' := by
  obtain ⟨p, b, c1, c, c2, e, h0, hp, h1, h2⟩ := h
  exact ⟨p, b, c1, c, c2, e, h0, (hB.block p (Array.getElem?_eq_some_iff.1 hp).1).trans hp, h1.below hB, h2.below hB⟩
theorem copyRules : (∀ B t L n u w, (Fact.of (CSl B t L n) (CSl.st B t L n)).p u w = CSl B t L n u w) ∧ (∀ B g E L n m u w, (Fact.of (CMap B g E L n m) (CMap.st B g E L n m)).p u w = CMap B g E L n m u w) ∧ (∀ B g E L n m u w, (Fact.of (CPtr B g E L n m) (CPtr.st B g E L n m)).p u w = CPtr B g E L n m u w) :=
  ⟨fun _ _ _ _ _ _ => rfl, fun _ _ _ _ _ _ _ _ => rfl, fun _ _ _ _ _ _ _ _ => rfl⟩
set_option maxRecDepth 100000 in
set_option maxHeartbeats 4000000 in
theorem bcopy_any (w : World) (p le ll ce cl : Nat) (g : Geo.G) (es : List BE) (lv : List Int) (h : BmIs w p le ll ce cl g es lv) (he : es ≠ []) (hlv : lv ≠ []) (hn : es.length ≤ 100000) (hm : lv.length ≤ 100000) :
    Calls Try.prog 23 #[.pointer (some ⟨p, 0, none⟩)] w fun x w' => ∃ p' le' ll' ce' cl', x = .returned (.pointer (some ⟨p', 0, none⟩)) ∧ BmIs w' p' le' ll' ce' cl' g es lv ∧ w.heap.size ≤ p' ∧ w.heap.size ≤ le' ∧ w.heap.size ≤ ll' ∧ Below w.heap.size w w' := by
  have HBM := Lib.hid h
  obtain ⟨N, hN⟩ : ∃ N, es.length = N := ⟨_, rfl⟩
  obtain ⟨M, hM⟩ : ∃ M, lv.length = M := ⟨_, rfl⟩
  obtain ⟨EL, hEL⟩ : ∃ EL, flatE es = EL := ⟨_, rfl⟩
  obtain ⟨LL, hLL⟩ : ∃ LL, lv.map (Value.int .i64) = LL := ⟨_, rfl⟩
  have HE : Hid (∀ W, Below w.heap.size w W → Calls Try.prog 52 #[.slice (some ⟨le, 0, none⟩) N ce] W fun e w' => ∃ v, e = .returned v ∧ CSl w.heap.size 46 EL N v w' ∧ Below W.heap.size W w') := Lib.hid (fun W hB => by
    rw [← hN, ← hEL]
    refine (eclone_any W ⟨le, 0, none⟩ es ce (h.below hB).rows hn).mono ?_
    rintro x w' ⟨v, rfl, hv, hB2⟩
    obtain ⟨b, c, e, hc⟩ := crow_of_own kinE (hv.mono hB.size) he
    exact ⟨v, rfl, ⟨b, c, e, hc⟩, hB2⟩)
  have HL : Hid (∀ W, Below w.heap.size w W → Calls Try.prog 53 #[.slice (some ⟨ll, 0, none⟩) M cl] W fun e w' => ∃ v, e = .returned v ∧ CSl w.heap.size 3 LL M v w' ∧ Below W.heap.size W w') := Lib.hid (fun W hB => by
    rw [← hM, ← hLL]
    have hr : RowOf W 1 iC (fun _ => True) (some ⟨ll, 0, none⟩) lv := .inr ⟨ll, 0, rfl, (h.below hB).lt.2.2, fun k x hk => ⟨fun j hj => by
      obtain rfl : j = 0 := by omega
      rw [Nat.mul_one, Nat.zero_add]
      exact ((h.below hB).live hk).1, trivial⟩⟩
    refine (iclone_any W ⟨ll, 0, none⟩ lv cl hr hm).mono ?_
    rintro x w' ⟨v, rfl, hv, hB2⟩
    obtain ⟨b, c, e, hc⟩ := crow_of_own kinI (hv.mono hB.size) hlv
    rw [flat_iC] at hc
    exact ⟨v, rfl, ⟨b, c, e, hc⟩, hB2⟩)
  have HCL : Hid (∀ W, Below w.heap.size w W → W.cell? ⟨p, 0, none⟩ = some (.int .i64 g.d) ∧ W.cell? ⟨p, 1, none⟩ = some (.int .i64 g.z) ∧ W.cell? ⟨p, 2, none⟩ = some (.int .i64 g.s) ∧ W.cell? ⟨p, 3, none⟩ = some (.int .i64 g.b) ∧ W.cell? ⟨p, 4, none⟩ = some (.int .i64 g.p) ∧ W.cell? ⟨p, 5, none⟩ = some (.int .i64 g.o) ∧ W.cell? ⟨p, 6, none⟩ = some (.slice (some ⟨le, 0, none⟩) N ce) ∧ W.cell? ⟨p, 7, none⟩ = some (.slice (some ⟨ll, 0, none⟩) M cl)) := Lib.hid (fun W hB => by
    obtain ⟨a0, a1, a2, a3, a4, a5⟩ := (h.below hB).geo
    obtain ⟨a6, a7⟩ := (h.below hB).cells
    rw [hN] at a6
    rw [hM] at a7
    exact ⟨a0, a1, a2, a3, a4, a5, a6, a7⟩)
  have HNM := Lib.hid (show es.length = N ∧ lv.length = M ∧ flatE es = EL ∧ lv.map (Value.int .i64) = LL from ⟨hN, hM, hEL, hLL⟩)
  clear h hN hM hEL hLL he hlv hn hm
  go_enter Try.func23, Try.ntmps23
  go_wp2
  refine wp_region_conf2 16 [Fact.eq ?rax0, Fact.eq ?rax1, Fact.eq ?rax2, Fact.eq (.agg (GC g)), Fact.eq ?rax4, Fact.eq ?rax5, Fact.eq ?rax6, Fact.eq ?rax7, Fact.of (CSl w.heap.size 46 EL N) (CSl.st w.heap.size 46 EL N), Fact.eq ?rax9, Fact.eq ?rax10, Fact.eq ?rax11, Fact.eq ?rax12, Fact.of (CSl w.heap.size 3 LL M) (CSl.st w.heap.size 3 LL M), Fact.of (CMap w.heap.size g EL LL N M) (CMap.st w.heap.size g EL LL N M), Fact.of (CPtr w.heap.size g EL LL N M) (CPtr.st w.heap.size g EL LL N M)] ?raA (by kernel_rfl) (by kernel_rfl) ?rahA ?raho ?rahend
  case rahA =>
    intro vv
    simp only [putRules, Nat.reduceAdd]
    rfl
  case raho =>
    refine ⟨?_, ?_, ?_, ?_, ?_, ?_, ?_, ?_, ?_, ?_, ?_, ?_, ?_, ?_, ?_, ?_, trivial⟩
    · intro vv W K hB hd HK
      simp only [confRules, copyRules] at HK
      clear hd
      go_wp2
      refine HK.out _ _ (Below.refl _ _) ?_
      rfl
    · intro vv W K hB hd HK
      simp only [confRules, copyRules] at hd HK
      have h0 := hd
      clear hd
      simp only [h0] at HK ⊢
      clear h0
      go_wp2
      refine HK.out _ _ (Below.refl _ _) ?_
      rfl
    · intro vv W K hB hd HK
      simp only [confRules, copyRules] at hd HK
      have h1 := hd
      clear hd
      simp only [h1] at HK ⊢
      clear h1
      go_wp2
      refine HK.out _ _ (Below.refl _ _) ?_
      rfl
    · intro vv W K hB hd HK
      simp only [confRules, copyRules] at hd HK
      have h2 := hd
      clear hd
      simp only [h2] at HK ⊢
      clear h2
      have hcl := HCL.out _ hB
      obtain ⟨a0, a1, a2, a3, a4, a5, a6, a7⟩ := hcl
      go_wp2
      refine HK.out _ _ (Below.refl _ _) ?_
      rfl
    · intro vv W K hB hd HK
      simp only [confRules, copyRules] at HK
      clear hd
      go_wp2
      refine HK.out _ _ (Below.refl _ _) ?_
      rfl
    · intro vv W K hB hd HK
      simp only [confRules, copyRules] at hd HK
      have h4 := hd
      clear hd
      simp only [h4] at HK ⊢
      clear h4
      go_wp2
      refine HK.out _ _ (Below.refl _ _) ?_
      rfl
    · intro vv W K hB hd HK
      simp only [confRules, copyRules] at hd HK
      have h5 := hd
      clear hd
      simp only [h5] at HK ⊢
      clear h5
      go_wp2
      refine HK.out _ _ (Below.refl _ _) ?_
      rfl
    · intro vv W K hB hd HK
      simp only [confRules, copyRules] at hd HK
      have h6 := hd
      clear hd
      simp only [h6] at HK ⊢
      clear h6
      have hcl := HCL.out _ hB
      obtain ⟨a0, a1, a2, a3, a4, a5, a6, a7⟩ := hcl
      go_wp2
      refine HK.out _ _ (Below.refl _ _) ?_
      rfl
    · intro vv W K hB hd HK
      simp only [confRules, copyRules] at hd HK
      have h7 := hd
      clear hd
      simp only [h7] at HK ⊢
      clear h7
      go_wp2_with (refine (HE.out _ hB).mono ?_; rintro e w9 ⟨v, rfl, hv, hB9⟩)
      exact HK.out _ _ hB9 hv
    · intro vv W K hB hd HK
      simp only [confRules, copyRules] at HK
      clear hd
      go_wp2
      refine HK.out _ _ (Below.refl _ _) ?_
      rfl
    · intro vv W K hB hd HK
      simp only [confRules, copyRules] at hd HK
      have h9 := hd
      clear hd
      simp only [h9] at HK ⊢
      clear h9
      go_wp2
      refine HK.out _ _ (Below.refl _ _) ?_
      rfl
    · intro vv W K hB hd HK
      simp only [confRules, copyRules] at hd HK
      have h10 := hd
      clear hd
      simp only [h10] at HK ⊢
      clear h10
      go_wp2
      refine HK.out _ _ (Below.refl _ _) ?_
      rfl
    · intro vv W K hB hd HK
      simp only [confRules, copyRules] at hd HK
      have h11 := hd
      clear hd
      simp only [h11] at HK ⊢
      clear h11
      have hcl := HCL.out _ hB
      obtain ⟨a0, a1, a2, a3, a4, a5, a6, a7⟩ := hcl
      go_wp2
      refine HK.out _ _ (Below.refl _ _) ?_
      rfl
    · intro vv W K hB hd HK
      simp only [confRules, copyRules] at hd HK
      obtain ⟨h12, ⟨b8, c8, h8, r8⟩⟩ := hd
      simp only [h12, h8] at HK ⊢
      clear h12 h8
      go_wp2_with (refine (HL.out _ hB).mono ?_; rintro e w9 ⟨v, rfl, hv, hB9⟩)
      exact HK.out _ _ hB9 hv
    · intro vv W K hB hd HK
      simp only [confRules, copyRules] at hd HK
      obtain ⟨h3, ⟨b8, c8, h8, r8⟩, ⟨b13, c13, h13, r13⟩⟩ := hd
      simp only [h3, h8, h13] at HK ⊢
      clear h3 h8 h13
      unfold GC
      go_wp2
      refine HK.out _ _ (Below.refl _ _) ?_
      exact ⟨_, _, _, _, rfl, r8, r13⟩
    · intro vv W K hB hd HK
      simp only [confRules, copyRules] at hd HK
      obtain ⟨q1, q2, q3, q4, h14, r1, r2⟩ := hd
      simp only [h14] at HK ⊢
      clear h14
      go_wp2
      refine HK.out _ _ ((Below.refl _ _).alloc (Nat.le_refl _) _) ?_
      have hbb := (Below.refl W.heap.size W).alloc (Nat.le_refl _) (.cells (mapC g q1 N q2 q3 M q4) 110)
      exact ⟨_, _, _, _, _, rfl, hB.size, heap_alloc_new _ _, r1.below hbb, r2.below hbb⟩
  case rahend =>
    intro vv W hB hf
    have hp := hf 15 (by decide)
    simp only [endRules, copyRules] at hp
    obtain ⟨p', b, c1, c, c2, hv, h0, hp, ⟨k1, k2, k3, cur1, k4, k5⟩, ⟨l1, l2, l3, cur2, l4, l5⟩⟩ := hp
    simp only [dropRules, hv]
    clear hf
    obtain ⟨n1, n2, n3, n4⟩ := HNM.out
    have HR : Hid (BmIs W p' b c c1 c2 g es lv) := Lib.hid ⟨by rw [n1, n2]; exact hp, ⟨cur1, k4, by rw [n3, ← k5, ← n3, flatE_length]⟩, ⟨cur2, l4, by rw [n4, ← l5, ← n4, List.length_map]⟩, ⟨by omega, by omega⟩, ⟨by omega, by omega⟩⟩
    clear hp k2 k3 k4 k5 l2 l3 l4 l5 n1 n2 n3 n4 HNM HE HL HCL
    go_wp2
    go_ret
    exact ⟨p', b, c, c1, c2, rfl, HR.out, h0, k1, l1, hB⟩
end Go.Proofs.Ytjnneoejnpephaa
namespace Sn
open Go.Proofs.Ytjnneoejnpephaa Frm
/-- a block's entry, whatever the block -/
def getE (es : List BE) (j : Int) : BE := if 0 ≤ j then entAt es j.toNat else BE.zero
theorem getE_set (g : Geo.G) (es : List BE) (k : Int) (e : BE) : getE es k = getE (setEs g es k e) k ↔ setEs g es k e = es := by
  unfold setEs getE entAt
  by_cases hk : k < 0 ∨ (es.length : Int) ≤ k
  · rw [if_pos hk]
    exact ⟨fun _ => rfl, fun _ => rfl⟩
  · rw [if_neg hk]
    by_cases hr : beRight g e = true
    · rw [if_pos hr, if_pos (by omega), if_pos (by omega)]
      have hl : k.toNat < es.length := by omega
      rw [List.getElem?_set_self hl, List.getElem?_eq_getElem hl]
      simp only [Option.getD_some]
      constructor
      · intro h
        rw [← h]
        exact List.set_getElem_self hl
      · intro h
        have h1 : (es.set k.toNat e)[k.toNat]? = es[k.toNat]? := by rw [h]
        rw [List.getElem?_set_self hl, List.getElem?_eq_getElem hl] at h1
        simpa using h1.symm
    · rw [if_neg hr]
      exact ⟨fun _ => rfl, fun _ => rfl⟩
theorem getE_64 {es : List BE} (h : ∀ e ∈ es, E64 e) (j : Int) : E64 (getE es j) := by
  unfold getE entAt
  split
  · by_cases hj : j.toNat < es.length
    · rw [List.getElem?_eq_getElem hj]; exact h _ (List.getElem_mem _)
    · rw [List.getElem?_eq_none (by omega)]; exact ⟨rfl, rfl, rfl, rfl, rfl, rfl⟩
  · exact ⟨rfl, rfl, rfl, rfl, rfl, rfl⟩
/-- the frames of two right snapshots are the same just if these are -/
theorem fr_iff {s t : S} (hg : Geo.right s.g = true) (hM : MapOk s.g s.es) (hr : s.right = true) (hg' : Geo.right t.g = true) (hM' : MapOk t.g t.es) (hr' : t.right = true) : (s.er 0 = t.er 0 ∧ s.fr 0 = t.fr 0) ↔ s = t := by
  have h1 := ok_zero hg hr
  have h2 := ok_zero hg' hr'
  unfold S.er S.fr
  rw [h1, h2]
  simp only [if_true, true_and]
  exact ⟨fun h => frames_inj hg hM h1 hg' hM' h2 h, fun h => by rw [h]⟩
end Sn
namespace Go.Proofs.Ytjnneoejnpephaa
open Go.RowKit Go.Rv Frm
set_option linter.unusedVariables false
attribute [local go_sem] Oper.semAt_some
theorem i64_xor_nat (a b : Nat) (ha : a < 9223372036854775808) (hb : b < 9223372036854775808) : bits .xor .i64 (a : Int) (b : Int) = ((a ^^^ b : Nat) : Int) := by
  have hx : a ^^^ b < 2 ^ 63 := Nat.xor_lt_two_pow (by omega) (by omega)
  show IntKind.i64.wrap ((BitVec.ofInt 64 (a : Int) ^^^ BitVec.ofInt 64 (b : Int)).toNat : Int) = _
  rw [BitVec.toNat_xor, ofInt_i64 a ha, ofInt_i64 b hb, IntKind.wrap_i64]
  omega
theorem xor_one (gen : Int) (h1 : 1 ≤ gen) (h2 : gen ≤ 281474976710655) : ∃ gx : Int, bits .xor .i64 gen 1 = gx ∧ 0 ≤ gx ∧ gx ≤ 281474976710655 ∧ gx ≠ gen := by
  obtain ⟨n, rfl⟩ := Int.eq_ofNat_of_zero_le (show 0 ≤ gen by omega)
  have h := i64_xor_nat n 1 (by omega) (by omega)
  have hlt : n ^^^ 1 < 2 ^ 48 := Nat.xor_lt_two_pow (by omega) (by omega)
  refine ⟨_, h, by omega, by omega, fun e => ?_⟩
  have e' : n ^^^ 1 = n := by omega
  have : n ^^^ (n ^^^ 1) = n ^^^ n := by rw [e']
  rw [← Nat.xor_assoc, Nat.xor_self, Nat.zero_xor] at this
  cases this
theorem bget_all (w : World) (p le ll ce cl : Nat) (g : Geo.G) (es : List BE) (lv : List Int) (h : BmIs w p le ll ce cl g es lv) (j : Int) (hn : es.length ≤ 100000) :
    Calls Try.prog 24 #[.pointer (some ⟨p, 0, none⟩), .int .i64 j] w fun x w' => ∃ k, x = .returned (.tuple #[.agg (BEC (Sn.getE es j)), .int .i64 k]) ∧ Below w.heap.size w w' := by
  unfold Sn.getE
  by_cases h0 : 0 ≤ j
  · rw [if_pos h0]
    exact bget_at w p le ll ce cl g es lv h j h0 hn
  · rw [if_neg h0]
    refine (bget_out w p le ll ce cl g es lv h j (.inl (by omega))).mono ?_
    rintro e w' ⟨rfl, hB⟩
    exact ⟨_, rfl, hB⟩
set_option maxRecDepth 100000 in
set_option maxHeartbeats 16000000 in
theorem sn_same_walk (w : World) (g : Geo.G) (a1 : Option Addr) (l1 : List (Int × BE)) (c1 : Nat) (blk : Int) (me : BE) (gen epoch next : Int) (hI1 : RowOf w 7 opC Op64 a1 l1) (h64 : E64 me) :
    Calls Try.prog 4 #[.agg (GC g), .slice a1 l1.length c1, .agg (opC (blk, me)), .int .i64 gen, .int .i64 epoch, .int .i64 next] w fun e w' => e = .returned (.bool true) ∧ Below w.heap.size w w' := by
  have HA := Lib.hid (fun W => sn_anchor W)
  have HGI := Lib.hid (gsize (g := g))
  have HMA : Hid (∀ W, Below w.heap.size w W → Calls Try.prog 16 #[.agg (GC g), .slice a1 l1.length c1, .int .i64 gen, .int .i64 epoch, .int .i64 next] W (MadePost W g l1 gen epoch next)) := Lib.hid (fun W hW => made12_any g a1 l1 c1 gen epoch next W (hI1.below hW))
  have HXR := Lib.hid (xor_one gen)
  have H64 := Lib.hid h64
  have hzs := (zero_of_info Try.infoSnz).1
  have hzr := (zero_of_info Try.infoRS).1
  have hze := (zero_of_info Try.infoEnt).1
  have HIE := Lib.hid (fun e => esize e)
  have HON := Lib.hid (fun e => BEC_one e)
  have HSZ : Hid (∀ e e' : BE, (BEC e').size = (BEC e).size) := Lib.hid (fun e e' => by rw [BEC_size, BEC_size])
  have HIEL : Hid ((Try.prog.info? 46).map (·.size) = some (BEC me).toList.length) := Lib.hid (by rw [Array.length_toList]; exact esize me)
  have hal := ((Below.refl w.heap.size w).alloc (Nat.le_refl _) (.cells (GC g) 23)).alloc (by simp) (.cells (opC (blk, me)) 48)
  have hnew := heap_alloc2_old w (.cells (GC g) 23) (.cells (opC (blk, me)) 48)
  have hnew2 := heap_alloc2_new w (.cells (GC g) 23) (.cells (opC (blk, me)) 48)
  have HC0 : Hid (∀ W : World, W.heap[w.heap.size + 1]? = some (.cells (opC (blk, me)) 48 (0, 0)) → W.cell? ⟨w.heap.size + 1, 0, none⟩ = some (.int .i64 blk)) := Lib.hid (fun W h => (cell_of_row _ _ _ _ _ _ h).trans rfl)
  have HC1 : Hid (∀ W : World, W.heap[w.heap.size + 1]? = some (.cells (opC (blk, me)) 48 (0, 0)) → W.rangeAt (w.heap.size + 1) 1 (BEC me).toList) := Lib.hid (fun W h => by
    intro j v hv
    have hj : j < 6 := by have := (List.getElem?_eq_some_iff.1 hv).1; rwa [Array.length_toList, BEC_size] at this
    rw [cell_of_row _ _ _ _ _ _ h, ← hv]
    match j, hj with
    | 0, _ => rfl
    | 1, _ => rfl
    | 2, _ => rfl
    | 3, _ => rfl
    | 4, _ => rfl
    | 5, _ => rfl)
  clear hI1 h64
  obtain ⟨GX, hGX⟩ : ∃ GX, GC g = GX := ⟨_, rfl⟩
  rw [hGX] at HGI HMA hal hnew hnew2 ⊢
  clear hGX
  obtain ⟨MX, hMX⟩ : ∃ MX, opC (blk, me) = MX := ⟨_, rfl⟩
  rw [hMX] at hal hnew hnew2 HC0 HC1 ⊢
  clear hMX
  go_enter Try.func4, Try.ntmps4
  go_wp2_with fail
  refine (HA.out _).mono ?_
  rintro e w0 ⟨rfl, hB0⟩
  have HG0 := Lib.hid ((hB0.block w.heap.size (by simp; omega)).trans hnew)
  have HM0 := Lib.hid ((hB0.block (w.heap.size + 1) (by simp)).trans hnew2)
  have HB0 := Lib.hid (hal.trans (hB0.mono hal.size))
  have zw0 : w.heap.size + 1 < w0.heap.size := (Array.getElem?_eq_some_iff.1 HM0.out).1
  clear hal hnew hnew2 hB0
  go_wp2_with (refine wpList_row_on (by rfl) 23 _ rfl w.heap.size rfl 23 _ _ _ HG0.out Try.underlying23 rfl HGI.out ?_)
  refine (HMA.out _ HB0.out).mono ?_
  rintro eaA waA ⟨SA, TA, okA, rfl, ⟨i1, i2, i3⟩, ⟨j1, j2, j3⟩, hBA, hcA⟩
  have HIA := Lib.hid i1
  have HOA := Lib.hid i2
  have HZA := Lib.hid i3
  have HJA := Lib.hid j1
  have HPA := Lib.hid j2
  have HYA := Lib.hid j3
  have HCA := Lib.hid hcA
  have zbA := hBA.size
  obtain ⟨VA, hVA⟩ : ∃ V, (waA.alloc (.cells SZ 28)).alloc (.cells RZ 32) = V := ⟨_, rfl⟩
  have hvA : VA.heap[waA.heap.size]? = some (.cells SZ 28 (0, 0)) := by rw [← hVA]; exact heap_alloc2_old _ _ _
  have huA : VA.heap[waA.heap.size + 1]? = some (.cells RZ 32 (0, 0)) := by rw [← hVA]; exact heap_alloc2_new _ _ _
  have hbA : Below waA.heap.size waA VA := by rw [← hVA]; exact ((Below.refl _ _).alloc (Nat.le_refl _) _).alloc (by simp) _
  obtain ⟨UA, hUA⟩ : ∃ U, VA.setRow waA.heap.size SA = U := ⟨_, rfl⟩
  have hsA : Only [waA.heap.size] VA UA := by rw [← hUA]; exact only_setRow _ _ _
  have hrA : UA.heap[waA.heap.size]? = some (.cells SA 28 (0, 0)) := by rw [← hUA]; exact setRow_heap _ _ _ _ _ _ hvA
  have hqA := hsA.get huA (by simp)
  obtain ⟨WA, hWA⟩ : ∃ W, UA.setRow (waA.heap.size + 1) TA = W := ⟨_, rfl⟩
  have htA : Only [waA.heap.size + 1] UA WA := by rw [← hWA]; exact only_setRow _ _ _
  have HQAwA := Lib.hid (htA.get hrA (by simp))
  have HTTA : Hid (WA.heap[waA.heap.size + 1]? = some (.cells TA 32 (0, 0))) := Lib.hid (by rw [← hWA]; exact setRow_heap _ _ _ _ _ _ hqA)
  have hxA : Below waA.heap.size waA WA := hbA.trans ((hsA.below (B := waA.heap.size) (by simp) hbA.size).trans (htA.below (B := waA.heap.size) (by simp) (by have := hsA.size; have := hbA.size; omega)))
  have hyA := hBA.trans (hxA.mono zbA)
  have HGA := Lib.hid ((hyA.block w.heap.size (by omega)).trans HG0.out)
  have HBA := Lib.hid (HB0.out.trans (hyA.mono HB0.out.size))
  have HXA := Lib.hid hxA
  have HYYA := Lib.hid hyA
  have HVA := Lib.hid hVA
  have HUA := Lib.hid hUA
  have HWA := Lib.hid hWA
  have HH1A := Lib.hid hvA
  have HH2A := Lib.hid hqA
  have zzA : waA.heap.size + 1 < WA.heap.size := (Array.getElem?_eq_some_iff.1 HTTA.out).1
  clear i1 i2 i3 j1 j2 j3 hBA hcA hVA hvA huA hbA hUA hsA hrA hqA hWA htA hxA hyA
  go_upto_region 4 with (first | (rw [show (waA.alloc (.cells SZ 28)).alloc (.cells RZ 32) = VA from HVA.out]; refine wpList_store_row rfl 28 _ _ rfl waA.heap.size SA rfl rfl 28 SZ HH1A.out HIA.out HZA.out HOA.out ?_; rw [HUA.out]) | (refine wpList_store_row rfl 32 _ _ rfl (waA.heap.size + 1) TA rfl rfl 32 RZ HH2A.out HJA.out HYA.out HPA.out ?_; rw [HWA.out]))
  have HMA' := Lib.hid ((HYYA.out.block (w.heap.size + 1) (by omega)).trans HM0.out)
  have hca := HCA.out
  rcases hca with ⟨rfl, -⟩ | ⟨rfl, hgr, hla, pa, lea, lla, va, hSA, hTA, hsa, hown, qa1, qa2, qa3⟩
  · go_wp2
    go_ret
    exact ⟨rfl, HBA.out⟩
  obtain ⟨es, hsaE⟩ : ∃ es, Sn.made g l1 gen epoch next = ⟨gen, epoch, next, g, es⟩ := ⟨_, rfl⟩
  rw [hsaE] at hSA hsa hown
  have hsm := ((Geo.right_iff _).1 hgr).1
  have hel : es.length ≤ 256 ∧ es ≠ [] := by
    have h3 : (es.length : Int) = g.b := hsa.ok.len
    have h4 := hsm.2.2.2.1
    refine ⟨by omega, fun h => ?_⟩
    rw [h] at h3
    simp at h3
    omega
  have hnzp : 1 ≤ nz g ∧ nz g ≤ 512 := by
    have hd := Geo.dz_bd hsm
    unfold nz
    omega
  have hnz : liveL (nz g) es ≠ [] ∧ (liveL (nz g) es).length ≤ 100000 := by
    have hl := liveL_length (nz g) es
    refine ⟨fun h => ?_, by omega⟩
    have h1 := congrArg List.length h
    rw [hl] at h1
    simp only [List.length_nil] at h1
    omega
  have hes1 : es.length ≤ 100000 := by have := hel.1; omega
  have hown2 : OwnM waA 104 6 BEC (fun _ => True) w0.heap.size va es := hown
  have hrr : ∀ W, Below waA.heap.size waA W → Calls Try.prog 22 #[.agg (RC gen epoch next g va)] W fun e w' => e = .returned (.bool (Sn.right gen epoch next es)) ∧ Below W.heap.size W w' := fun W hW => rsright_any W gen epoch next g va w0.heap.size es (hown2.below hW) hes1
  rw [← hTA] at hrr
  have HRR := Lib.hid hrr
  clear hrr hown2 hes1
  have HSA := Lib.hid (hsa.below HXA.out)
  have HSAE := Lib.hid hSA
  have HEL := Lib.hid hel
  have HNZ := Lib.hid hnz
  have HGR := Lib.hid hgr
  clear hgr hla hSA hTA hsa hown hsaE hsm hel hnz
  go_wp2_with (refine wpList_row_on (by rfl) 32 _ rfl (waA.heap.size + 1) rfl 32 _ _ _ HTTA.out Try.underlying32 rfl HJA.out ?_)
  refine (HRR.out _ HXA.out).mono ?_
  rintro e5 w5 ⟨rfl, hB5⟩
  have z5 := hB5.size
  have HS5 := Lib.hid (HSA.out.below hB5)
  have HQ5 := Lib.hid ((hB5.block waA.heap.size (by omega)).trans HQAwA.out)
  have HM5 := Lib.hid ((hB5.block (w.heap.size + 1) (by omega)).trans HMA'.out)
  have HB5 := Lib.hid (HBA.out.trans (hB5.mono HBA.out.size))
  clear hB5
  cases hrt : Sn.right gen epoch next es
  · go_wp2
    go_ret
    exact ⟨rfl, HB5.out⟩
  have hn := Sn.nums_iff.1 (Sn.right_iff.1 hrt).1
  obtain ⟨gx, hgx, gx0, gx1, gxne⟩ := HXR.out hn.1.1 hn.1.2
  have HGX := Lib.hid hgx
  obtain ⟨es', hes'⟩ : ∃ es', setEs g es blk me = es' := ⟨_, rfl⟩
  have HES := Lib.hid hes'
  have hel' : es'.length ≤ 100000 := by rw [← hes', setEs_length]; have := HEL.out.1; omega
  have HOKA : Hid (MapOk g es) := Lib.hid HSA.out.ok
  have hok' : MapOk g es' := by rw [← hes']; exact setEs_ok HOKA.out H64.out blk
  have HOKB := Lib.hid hok'
  have HRT := Lib.hid hrt
  have HCP := Lib.hid (fun (W : World) (h : BmIs W pa lea lla g.b.toNat (nz g) g es (liveL (nz g) es)) => bcopy_any W pa lea lla _ _ g es _ h HEL.out.2 HNZ.out.1 (by have := HEL.out.1; omega) HNZ.out.2)
  have HBS := Lib.hid (fun p => built_snm gen epoch next p)
  have HSCI : Hid (∀ a p, (Try.prog.info? 28).map (·.size) = some (SnC a epoch next p).size) := Lib.hid (fun a p => snsize _ _ _ _)
  have HSCO : Hid (∀ a p, (SnC a epoch next p).all (·.oneCell') = true) := Lib.hid (fun a p => by simp [SnC, Value.oneCell'])
  have HSCZ : Hid (∀ a p, SZ.size = (SnC a epoch next p).size) := Lib.hid (fun a p => rfl)
  have HSCC : Hid (∀ (W : World) (b : Nat) a p, W.heap[b]? = some (.cells (SnC a epoch next p) 28 (0, 0)) → W.cell? ⟨b, 0, none⟩ = some (.int .i64 a) ∧ W.cell? ⟨b, 3, none⟩ = some (.pointer (some ⟨p, 0, none⟩))) := Lib.hid (fun W b a p h => ⟨(sn_cells h).1, (sn_cells h).2.2.2⟩)
  have hSAe : SA = SnC gen epoch next pa := HSAE.out
  clear hrt hn hgx hes' hok'
  subst hSAe
  obtain ⟨c0, c3⟩ := HSCC.out _ _ _ _ HQ5.out
  clear c0
  go_wp2_with fail
  refine (HCP.out _ HS5.out.bm).mono ?_
  rintro e6 w6 ⟨pb, leb, llb, ceb, clb, rfl, hbm6, qb1, qb2, qb3, hB6⟩
  have z6 := hB6.size
  have hltb := hbm6.lt
  obtain ⟨W7, hW7⟩ : ∃ W7, w6.alloc (.cells (SnC gen epoch next pb) 28) = W7 := ⟨_, rfl⟩
  have hb7 : Below w6.heap.size w6 W7 := by rw [← hW7]; exact (Below.refl _ _).alloc (Nat.le_refl _) _
  have HQB7 : Hid (W7.heap[w6.heap.size]? = some (.cells (SnC gen epoch next pb) 28 (0, 0))) := Lib.hid (by rw [← hW7]; exact heap_alloc_new w6 _)
  have hB57 := hB6.trans (hb7.mono z6)
  have HQ7 := Lib.hid ((hB57.block waA.heap.size (by omega)).trans HQ5.out)
  have HM7 := Lib.hid ((hB57.block (w.heap.size + 1) (by omega)).trans HM5.out)
  have HS7 := Lib.hid (HS5.out.below hB57)
  have HBM7 := Lib.hid (hbm6.below hb7)
  have HB7 := Lib.hid (HB5.out.trans (hB57.mono HB5.out.size))
  have HW7 := Lib.hid hW7
  have zb7 := hb7.size
  have z7 : w6.heap.size < W7.heap.size := (Array.getElem?_eq_some_iff.1 HQB7.out).1
  clear hB6 hbm6 hb7 hB57 hW7 c3
  go_upto_region 7 with (first | (refine wpList_build_on (by rfl) 28 _ rfl #[(0, .int .i64 gen), (1, .int .i64 epoch), (2, .int .i64 next), (3, .pointer (some ⟨pb, 0, none⟩))] (by simp [Act.eval, Act.put]) (SnC gen epoch next pb) (HBS.out _) ?_) | (refine wpList_store_row rfl 28 _ _ rfl w6.heap.size (SnC gen epoch next pb) rfl rfl 28 SZ (heap_alloc_new w6 _) (HSCI.out _ _) (HSCZ.out _ _) (HSCO.out _ _) ?_; rw [World.setRow_alloc_new]))
  rw [HW7.out]
  obtain ⟨-, c3⟩ := HSCC.out _ _ _ _ HQ7.out
  have d0 := HC0.out _ HM7.out
  have HGT := Lib.hid (bget_all W7 pa lea lla _ _ g es _ HS7.out.bm blk (by have := HEL.out.1; omega))
  obtain ⟨EW, hEW⟩ : ∃ EW, Sn.getE es blk = EW := ⟨_, rfl⟩
  rw [hEW] at HGT
  have HEW := Lib.hid hEW
  clear hEW
  go_wp2_with fail
  refine HGT.out.mono ?_
  rintro e8 w8 ⟨kk8, rfl, hB8⟩
  have z8 := hB8.size
  obtain ⟨W9, hW9⟩ : ∃ W9, w8.alloc (.cells (BEC EW) 46) = W9 := ⟨_, rfl⟩
  have hb9 : Below w8.heap.size w8 W9 := by rw [← hW9]; exact (Below.refl _ _).alloc (Nat.le_refl _) _
  have HE9 : Hid (W9.heap[w8.heap.size]? = some (.cells (BEC EW) 46 (0, 0))) := Lib.hid (by rw [← hW9]; exact heap_alloc_new w8 _)
  have hB79 := hB8.trans (hb9.mono z8)
  have HQ9 := Lib.hid ((hB79.block waA.heap.size (by omega)).trans HQ7.out)
  have HQB9 := Lib.hid ((hB79.block w6.heap.size (by omega)).trans HQB7.out)
  have HM9 := Lib.hid ((hB79.block (w.heap.size + 1) (by omega)).trans HM7.out)
  have HS9 := Lib.hid (HS7.out.below hB79)
  have HBM9 := Lib.hid (HBM7.out.below hB79)
  have HB9 := Lib.hid (HB7.out.trans (hB79.mono HB7.out.size))
  have HW9 := Lib.hid hW9
  have z9 : w8.heap.size < W9.heap.size := (Array.getElem?_eq_some_iff.1 HE9.out).1
  clear hB8 hb9 hB79 hW9 c3 d0
  go_upto_region 8 with (refine wpList_store_row rfl 46 _ _ rfl w8.heap.size (BEC EW) rfl rfl 46 (BEC BE.zero) (heap_alloc_new w8 _) (HIE.out _) (HSZ.out _ _) (HON.out _) ?_; rw [World.setRow_alloc_new])
  rw [HW9.out]
  obtain ⟨-, c3⟩ := HSCC.out _ _ _ _ HQB9.out
  have d0 := HC0.out _ HM9.out
  have HSET := Lib.hid (bset_any W9 pb leb llb _ _ g es HGR.out HOKA.out HBM9.out blk me H64.out)
  rw [HES.out] at HSET
  obtain ⟨ML, hML⟩ : ∃ ML, (BEC me).toList = ML := ⟨_, rfl⟩
  have hMC : BEC me = ML.toArray := by rw [← hML]
  have hrm := HC1.out _ HM9.out
  rw [hML] at HIEL hrm
  rw [hMC] at HSET
  have HRM := Lib.hid hrm
  clear hML hMC hrm
  go_wp2_with (refine wpList_load_mid rfl 46 _ rfl (w.heap.size + 1) 1 rfl ML _ HRM.out Try.underlying46 rfl HIEL.out ?_)
  refine HSET.out.mono ?_
  rintro e10 w10 ⟨rfl, hbm10, hO10⟩
  have z10 := hO10.size
  have hltA := HS9.out.bm.lt
  have hltA5 := HS5.out.bm.lt
  have HQ10 := Lib.hid (hO10.get HQ9.out (by simp; omega))
  have HQB10 := Lib.hid (hO10.get HQB9.out (by simp; omega))
  have HM10 := Lib.hid (hO10.get HM9.out (by simp; omega))
  have HE10 := Lib.hid (hO10.get HE9.out (by simp; omega))
  have HS10 : Hid (SnIs w10 pa lea lla g.b.toNat (nz g) ⟨gen, epoch, next, g, es⟩) := Lib.hid ⟨HS9.out.bm.only hO10 (by simp; omega) (by simp; omega) (by simp; omega), HS9.out.hg, HS9.out.ok⟩
  have HSB10 : Hid (SnIs w10 pb leb llb ceb clb ⟨gen, epoch, next, g, es'⟩) := Lib.hid ⟨hbm10, HGR.out, HOKB.out⟩
  have HB10 := Lib.hid (HB9.out.trans (hO10.below (B := w.heap.size) (by simp; have := HB5.out.size; omega) HB9.out.size))
  clear hbm10 hO10 c3 d0
  have hltB10 := HSB10.out.bm.lt
  obtain ⟨-, c3⟩ := HSCC.out _ _ _ _ HQB10.out
  have d0 := HC0.out _ HM10.out
  have HGT2 := Lib.hid (bget_all w10 pb leb llb _ _ g es' _ HSB10.out.bm blk (by rw [← HES.out, setEs_length]; have := HEL.out.1; omega))
  obtain ⟨EN, hEN⟩ : ∃ EN, Sn.getE es' blk = EN := ⟨_, rfl⟩
  simp only [hEN] at HGT2
  have HEN := Lib.hid hEN
  clear hEN
  go_wp2_with fail
  refine HGT2.out.mono ?_
  rintro e11 w11 ⟨kk11, rfl, hB11⟩
  have z11 := hB11.size
  obtain ⟨W12, hW12⟩ : ∃ W12, w11.alloc (.cells (BEC EN) 46) = W12 := ⟨_, rfl⟩
  have hb12 : Below w11.heap.size w11 W12 := by rw [← hW12]; exact (Below.refl _ _).alloc (Nat.le_refl _) _
  have HN12 : Hid (W12.heap[w11.heap.size]? = some (.cells (BEC EN) 46 (0, 0))) := Lib.hid (by rw [← hW12]; exact heap_alloc_new w11 _)
  have hB10_12 := hB11.trans (hb12.mono z11)
  have HQ12 := Lib.hid ((hB10_12.block waA.heap.size (by omega)).trans HQ10.out)
  have HQB12 := Lib.hid ((hB10_12.block w6.heap.size (by omega)).trans HQB10.out)
  have HE12 := Lib.hid ((hB10_12.block w8.heap.size (by omega)).trans HE10.out)
  have HS12 := Lib.hid (HS10.out.below hB10_12)
  have HSB12 := Lib.hid (HSB10.out.below hB10_12)
  have HB12 := Lib.hid (HB10.out.trans (hB10_12.mono HB10.out.size))
  have HW12 := Lib.hid hW12
  have z12 : w11.heap.size < W12.heap.size := (Array.getElem?_eq_some_iff.1 HN12.out).1
  clear hB11 hb12 hB10_12 hW12 c3 d0
  go_upto_region 10 with (refine wpList_store_row rfl 46 _ _ rfl w11.heap.size (BEC EN) rfl rfl 46 (BEC BE.zero) (heap_alloc_new w11 _) (HIE.out _) (HSZ.out _ _) (HON.out _) ?_; rw [World.setRow_alloc_new])
  rw [HW12.out]
  have HRTB := Lib.hid (sright_any W12 pb leb llb _ _ g es' _ HSB12.out.bm (by rw [← HES.out, setEs_length]; have := HEL.out.1; omega) gen epoch next)
  go_wp2_with (refine wpList_load_row rfl 28 _ rfl w6.heap.size rfl 28 _ _ _ HQB12.out Try.underlying28 rfl (HSCI.out _ _) ?_)
  refine HRTB.out.mono ?_
  rintro e13 w13 ⟨rfl, hB13⟩
  have z13 := hB13.size
  have HQ13 := Lib.hid ((hB13.block waA.heap.size (by omega)).trans HQ12.out)
  have HQB13 := Lib.hid ((hB13.block w6.heap.size (by omega)).trans HQB12.out)
  have HE13 := Lib.hid ((hB13.block w8.heap.size (by omega)).trans HE12.out)
  have HN13 := Lib.hid ((hB13.block w11.heap.size (by omega)).trans HN12.out)
  have HS13 := Lib.hid (HS12.out.below hB13)
  have HSB13 := Lib.hid (HSB12.out.below hB13)
  have HB13 := Lib.hid (HB12.out.trans (hB13.mono HB12.out.size))
  clear hB13 HRTB HGT2 HSET HGT
  have HSM : Hid (∀ W, Below w13.heap.size w13 W → Calls Try.prog 26 #[.agg (SnC gen epoch next pa), .agg (SnC gen epoch next pb)] W fun e w' => e = .returned (.bool (decide ((⟨gen, epoch, next, g, es⟩ : Sn.S).er 0 = (⟨gen, epoch, next, g, es'⟩ : Sn.S).er 0 ∧ (⟨gen, epoch, next, g, es⟩ : Sn.S).fr 0 = (⟨gen, epoch, next, g, es'⟩ : Sn.S).fr 0))) ∧ Below W.heap.size W w') := Lib.hid (fun W hW => ssame_any W pa lea lla _ _ pb leb llb _ _ _ _ (HS13.out.below hW) (HSB13.out.below hW))
  cases hrb : Sn.right gen epoch next es'
  · have hf : decide ((⟨gen, epoch, next, g, es⟩ : Sn.S).er 0 = (⟨gen, epoch, next, g, es'⟩ : Sn.S).er 0 ∧ (⟨gen, epoch, next, g, es⟩ : Sn.S).fr 0 = (⟨gen, epoch, next, g, es'⟩ : Sn.S).fr 0) = false := by
      have h1 := Sn.ok_zero (s := ⟨gen, epoch, next, g, es⟩) HGR.out HRT.out
      have h2 : (⟨gen, epoch, next, g, es'⟩ : Sn.S).ok 0 = false := by
        show (Sn.right gen epoch next es' && _) = false
        rw [hrb, Bool.false_and]
      apply decide_eq_false
      unfold Sn.S.er
      rw [h1, h2]
      intro h
      simp at h
    rw [hf] at HSM
    go_wp2_with (first | (refine wpList_load_row rfl 28 _ rfl waA.heap.size rfl 28 _ _ _ HQ13.out Try.underlying28 rfl (HSCI.out _ _) ?_) | (refine wpList_load_row rfl 28 _ rfl w6.heap.size rfl 28 _ _ _ HQB13.out Try.underlying28 rfl (HSCI.out _ _) ?_))
    refine (HSM.out _ (Below.refl _ _)).mono ?_
    rintro e14 w14 ⟨rfl, hB14⟩
    have HB14 := Lib.hid (HB13.out.trans (hB14.mono HB13.out.size))
    clear hB14
    go_wp2
    go_ret
    exact ⟨rfl, HB14.out⟩
  have hiff := Sn.fr_iff (s := ⟨gen, epoch, next, g, es⟩) (t := ⟨gen, epoch, next, g, es'⟩) HGR.out HOKA.out HRT.out HGR.out HOKB.out hrb
  obtain ⟨q, hq⟩ : ∃ q : Bool, q = decide ((⟨gen, epoch, next, g, es⟩ : Sn.S).er 0 = (⟨gen, epoch, next, g, es'⟩ : Sn.S).er 0 ∧ (⟨gen, epoch, next, g, es⟩ : Sn.S).fr 0 = (⟨gen, epoch, next, g, es'⟩ : Sn.S).fr 0) := ⟨_, rfl⟩
  have hqe : q = decide (EW = EN) := by
    rw [hq]
    apply decide_eq_decide.2
    rw [hiff]
    have h3 := Sn.getE_set g es blk me
    rw [HES.out, HEW.out, HEN.out] at h3
    rw [h3]
    constructor
    · intro h; injection h with _ _ _ _ h; exact h.symm
    · intro h; rw [h]
  have HEQ : Hid (∀ W, (Op.equalIn 10000 46 (.agg (BEC EW)) (.agg (BEC EN))).run Try.prog W = .ok q W) := Lib.hid (fun W => by
    rw [hqe]
    exact eq_be EW EN (by rw [← HEW.out]; exact Sn.getE_64 (fun e he => (HOKA.out.ok e he).2) _) (by rw [← HEN.out]; exact Sn.getE_64 (fun e he => (HOKB.out.ok e he).2) _) W)
  rw [← hq] at HSM
  have HSS : Hid (∀ W, Below w13.heap.size w13 W → Calls Try.prog 26 #[.agg (SnC gen epoch next pa), .agg (SnC gen epoch next pa)] W fun e w' => e = .returned (.bool true) ∧ Below W.heap.size W w') := Lib.hid (fun W hW => by
    have h := ssame_any W pa lea lla _ _ pa lea lla _ _ _ _ (HS13.out.below hW) (HS13.out.below hW)
    rwa [decide_eq_true ⟨rfl, rfl⟩] at h)
  have HSX : Hid (1 ≤ gx → ∀ W, Below w13.heap.size w13 W → Calls Try.prog 26 #[.agg (SnC gen epoch next pa), .agg (SnC gx epoch next pa)] W fun e w' => e = .returned (.bool false) ∧ Below W.heap.size W w') := Lib.hid (fun h1 W hW => by
    have hs := HS13.out.below hW
    have hs' : SnIs W pa lea lla g.b.toNat (nz g) ⟨gx, epoch, next, g, es⟩ := ⟨hs.bm, hs.hg, hs.ok⟩
    have h := ssame_any W pa lea lla _ _ pa lea lla _ _ _ _ hs hs'
    have hr' : (⟨gx, epoch, next, g, es⟩ : Sn.S).right = true := by
      have h2 := Sn.right_iff.1 HRT.out
      have h3 := Sn.nums_iff.1 h2.1
      exact Sn.right_iff.2 ⟨Sn.nums_iff.2 ⟨⟨h1, gx1⟩, h3.2⟩, h2.2⟩
    have hx := Sn.fr_iff (s := ⟨gen, epoch, next, g, es⟩) (t := ⟨gx, epoch, next, g, es⟩) HGR.out HOKA.out HRT.out HGR.out HOKA.out hr'
    rwa [decide_eq_false (fun hh => by have h4 := hx.1 hh; injection h4 with h5; exact gxne h5.symm)] at h)
  clear hiff hq hqe hrb
  obtain ⟨W15, hW15⟩ : ∃ W15, w13.alloc (.cells (SnC gen epoch next pa) 28) = W15 := ⟨_, rfl⟩
  have hb15 : Below w13.heap.size w13 W15 := by rw [← hW15]; exact (Below.refl _ _).alloc (Nat.le_refl _) _
  have hC15 : W15.heap[w13.heap.size]? = some (.cells (SnC gen epoch next pa) 28 (0, 0)) := by rw [← hW15]; exact heap_alloc_new w13 _
  have d1 := (HSCC.out _ _ _ _ hC15).1
  have d1f := frozen_of_row _ w13.heap.size 0 _ _ hC15
  have hC16 := heap_setCell_same W15 w13.heap.size 0 _ _ (.int .i64 gx) hC15
  have hset : (SnC gen epoch next pa).setIfInBounds 0 (.int .i64 gx) = SnC gx epoch next pa := rfl
  rw [hset] at hC16
  obtain ⟨W16, hW16⟩ : ∃ W16, W15.setCell ⟨w13.heap.size, 0, none⟩ (.int .i64 gx) = W16 := ⟨_, rfl⟩
  rw [hW16] at hC16
  have hb16 : Below w13.heap.size w13 W16 := by
    have h : Only [w13.heap.size] W15 W16 := by rw [← hW16]; exact (Only.refl _ _).setCell (.inl (by simp)) _
    exact hb15.trans (h.below (B := w13.heap.size) (by simp) hb15.size)
  have HBK := Lib.hid hb16
  have HC16 := Lib.hid hC16
  have HW15 := Lib.hid hW15
  have HW16 := Lib.hid hW16
  have HGX2 := HGX
  have hltA13 := HS13.out.bm.lt
  have hltB13 := HSB13.out.bm.lt
  have zC16 : w13.heap.size < W16.heap.size := (Array.getElem?_eq_some_iff.1 hC16).1
  have z16 := hb16.size
  have HQ16 := Lib.hid ((hb16.block waA.heap.size (by omega)).trans HQ13.out)
  have HQB16 := Lib.hid ((hb16.block w6.heap.size (by omega)).trans HQB13.out)
  have HE16 := Lib.hid ((hb16.block w8.heap.size (by omega)).trans HE13.out)
  have HN16 := Lib.hid ((hb16.block w11.heap.size (by omega)).trans HN13.out)
  have HB16 := Lib.hid (HB13.out.trans (hb16.mono HB13.out.size))
  clear hW15 hb15 hC15 hC16 hset hW16 hb16
  go_upto_region 13 with (first | (refine wpList_load_row rfl 28 _ rfl waA.heap.size rfl 28 _ _ _ HQ13.out Try.underlying28 rfl (HSCI.out _ _) ?_) | (refine wpList_store_row rfl 28 _ _ rfl w13.heap.size (SnC gen epoch next pa) rfl rfl 28 SZ (heap_alloc_new w13 _) (HSCI.out _ _) (HSCZ.out _ _) (HSCO.out _ _) ?_; rw [World.setRow_alloc_new]))
  rw [HW15.out]
  have e13 := HGX2.out
  go_upto_region 14 with (fail)
  rw [HW16.out]
  clear d1 d1f e13
  by_cases hx1 : gx < 1
  · have t0 : decide (gx < 1) = true := decide_eq_true hx1
    refine wp_region_conf2 23 [Fact.eq (.agg (SnC gen epoch next pa)), Fact.eq (.agg (SnC gen epoch next pb)), Fact.eq (.bool q), Fact.eq (.agg (BEC EW)), Fact.eq (.agg (BEC EN)), Fact.eq (.bool q), Fact.eq (.bool true), Fact.eq (.bool true), Fact.eq (.agg (SnC gen epoch next pa)), Fact.eq (.agg (SnC gen epoch next pa)), Fact.eq (.bool true), Fact.eq (.bool true), Fact.eq (.bool true), Fact.eq (.pointer (some ⟨w13.heap.size, 0, none⟩)), Fact.eq (.int .i64 gx), Fact.eq (.bool true), Fact.eq (.bool true), Fact.eq undef, Fact.eq undef, Fact.eq undef, Fact.eq undef, Fact.eq (.bool true), Fact.eq (.bool true)] ?raA (by kernel_rfl) (by kernel_rfl) ?rahA ?raho ?rahend
    case rahA =>
      intro vv
      simp only [putRules, Nat.reduceAdd]
      rfl
    case raho =>
      refine ⟨?_, ?_, ?_, ?_, ?_, ?_, ?_, ?_, ?_, ?_, ?_, ?_, ?_, ?_, ?_, ?_, ?_, ?_, ?_, ?_, ?_, ?_, ?_, trivial⟩
      · intro vv W K hB hd HK
        simp only [confRules] at HK
        clear hd
        have hT := (hB.block waA.heap.size (by omega)).trans HQ16.out
        go_wp2_with (refine wpList_row_on (by rfl) 28 _ rfl waA.heap.size rfl 28 _ _ _ hT Try.underlying28 rfl (HSCI.out _ _) ?_)
        refine HK.out _ _ (Below.refl _ _) ?_
        rfl
      · intro vv W K hB hd HK
        simp only [confRules] at HK
        clear hd
        have hT := (hB.block w6.heap.size (by omega)).trans HQB16.out
        go_wp2_with (refine wpList_row_on (by rfl) 28 _ rfl w6.heap.size rfl 28 _ _ _ hT Try.underlying28 rfl (HSCI.out _ _) ?_)
        refine HK.out _ _ (Below.refl _ _) ?_
        rfl
      · intro vv W K hB hd HK
        simp only [confRules] at hd HK
        obtain ⟨h0, h1⟩ := hd
        simp only [h0, h1] at HK ⊢
        clear h0 h1
        go_wp2_with (refine (HSM.out _ (HBK.out.trans (hB.mono HBK.out.size))).mono ?_; rintro e w9 ⟨rfl, hB9⟩)
        refine HK.out _ _ hB9 ?_
        rfl
      · intro vv W K hB hd HK
        simp only [confRules] at HK
        clear hd
        have hT := (hB.block w8.heap.size (by omega)).trans HE16.out
        go_wp2_with (refine wpList_row_on (by rfl) 46 _ rfl w8.heap.size rfl 46 _ _ _ hT Try.underlying46 rfl (HIE.out _) ?_)
        refine HK.out _ _ (Below.refl _ _) ?_
        rfl
      · intro vv W K hB hd HK
        simp only [confRules] at HK
        clear hd
        have hT := (hB.block w11.heap.size (by omega)).trans HN16.out
        go_wp2_with (refine wpList_row_on (by rfl) 46 _ rfl w11.heap.size rfl 46 _ _ _ hT Try.underlying46 rfl (HIE.out _) ?_)
        refine HK.out _ _ (Below.refl _ _) ?_
        rfl
      · intro vv W K hB hd HK
        simp only [confRules] at hd HK
        obtain ⟨h3, h4⟩ := hd
        simp only [h3, h4] at HK ⊢
        clear h3 h4
        go_wp2_with (refine wpList_eql_on (by rfl) 46 46 _ _ rfl (BEC EW) (BEC EN) rfl rfl (by kernel_rfl) q HEQ.out ?_)
        refine HK.out _ _ (Below.refl _ _) ?_
        rfl
      · intro vv W K hB hd HK
        simp only [confRules] at hd HK
        obtain ⟨h2, h5⟩ := hd
        simp only [h2, h5] at HK ⊢
        clear h2 h5
        go_wp2
        refine HK.out _ _ (Below.refl _ _) ?_
        first | rfl | exact congrArg Value.bool (by simp) | exact congrArg Value.bool t0
      · intro vv W K hB hd HK
        simp only [confRules] at hd HK
        obtain ⟨h6, h2⟩ := hd
        simp only [h6, h2] at HK ⊢
        clear h6 h2
        go_wp2
        refine HK.out _ _ (Below.refl _ _) ?_
        rfl
      · intro vv W K hB hd HK
        simp only [confRules] at hd HK
        have h7 := hd
        clear hd
        simp only [h7] at HK ⊢
        clear h7
        refine wpList_guard_yes (by rfl) ?_
        have hT := (hB.block waA.heap.size (by omega)).trans HQ16.out
        go_wp2_with (refine wpList_row_on (by rfl) 28 _ rfl waA.heap.size rfl 28 _ _ _ hT Try.underlying28 rfl (HSCI.out _ _) ?_)
        refine HK.out _ _ (Below.refl _ _) ?_
        rfl
      · intro vv W K hB hd HK
        simp only [confRules] at hd HK
        have h7 := hd
        clear hd
        simp only [h7] at HK ⊢
        clear h7
        refine wpList_guard_yes (by rfl) ?_
        have hT := (hB.block waA.heap.size (by omega)).trans HQ16.out
        go_wp2_with (refine wpList_row_on (by rfl) 28 _ rfl waA.heap.size rfl 28 _ _ _ hT Try.underlying28 rfl (HSCI.out _ _) ?_)
        refine HK.out _ _ (Below.refl _ _) ?_
        rfl
      · intro vv W K hB hd HK
        simp only [confRules] at hd HK
        obtain ⟨h8, h9, h7, _⟩ := hd
        simp only [h8, h9, h7] at HK ⊢
        clear h8 h9 h7
        refine wpList_guard_yes (by rfl) ?_
        go_wp2_with (refine (HSS.out _ (HBK.out.trans (hB.mono HBK.out.size))).mono ?_; rintro e w9 ⟨rfl, hB9⟩)
        refine HK.out _ _ hB9 ?_
        rfl
      · intro vv W K hB hd HK
        simp only [confRules] at hd HK
        obtain ⟨h7, h10⟩ := hd
        simp only [h7, h10] at HK ⊢
        clear h7 h10
        go_wp2
        refine HK.out _ _ (Below.refl _ _) ?_
        first | rfl | exact congrArg Value.bool (by simp) | exact congrArg Value.bool t0
      · intro vv W K hB hd HK
        simp only [confRules] at hd HK
        obtain ⟨h11, h10⟩ := hd
        simp only [h11, h10] at HK ⊢
        clear h11 h10
        go_wp2
        refine HK.out _ _ (Below.refl _ _) ?_
        rfl
      · intro vv W K hB hd HK
        simp only [confRules] at hd HK
        have h12 := hd
        clear hd
        simp only [h12] at HK ⊢
        clear h12
        refine wpList_guard_yes (by rfl) ?_
        go_wp2
        refine HK.out _ _ (Below.refl _ _) ?_
        rfl
      · intro vv W K hB hd HK
        simp only [confRules] at hd HK
        obtain ⟨h13, h12⟩ := hd
        simp only [h13, h12] at HK ⊢
        clear h13 h12
        refine wpList_guard_yes (by rfl) ?_
        have c1 := (HSCC.out W _ _ _ ((hB.block w13.heap.size (by omega)).trans HC16.out)).1
        go_wp2
        refine HK.out _ _ (Below.refl _ _) ?_
        rfl
      · intro vv W K hB hd HK
        simp only [confRules] at hd HK
        obtain ⟨h14, h12⟩ := hd
        simp only [h14, h12] at HK ⊢
        clear h14 h12
        refine wpList_guard_yes (by rfl) ?_
        go_wp2
        refine HK.out _ _ (Below.refl _ _) ?_
        first | rfl | exact congrArg Value.bool (by simp) | exact congrArg Value.bool t0
      · intro vv W K hB hd HK
        simp only [confRules] at hd HK
        obtain ⟨h15, h12, _⟩ := hd
        simp only [h15, h12] at HK ⊢
        clear h15 h12
        refine wpList_guard_yes (by rfl) ?_
        go_wp2
        refine HK.out _ _ (Below.refl _ _) ?_
        rfl
      · intro vv W K hB hd HK
        simp only [confRules] at hd HK
        have h16 := hd
        clear hd
        simp only [h16] at HK ⊢
        clear h16
        refine wpList_guard_no (by rfl) ?_
        refine HK.out _ _ (Below.refl _ _) ?_
        rfl
      · intro vv W K hB hd HK
        simp only [confRules] at hd HK
        have h16 := hd
        clear hd
        simp only [h16] at HK ⊢
        clear h16
        refine wpList_guard_no (by rfl) ?_
        refine HK.out _ _ (Below.refl _ _) ?_
        rfl
      · intro vv W K hB hd HK
        simp only [confRules] at hd HK
        obtain ⟨h17, h18, h16, _⟩ := hd
        simp only [h17, h18, h16] at HK ⊢
        clear h17 h18 h16
        refine wpList_guard_no (by rfl) ?_
        refine HK.out _ _ (Below.refl _ _) ?_
        rfl
      · intro vv W K hB hd HK
        simp only [confRules] at hd HK
        obtain ⟨h19, h16⟩ := hd
        simp only [h19, h16] at HK ⊢
        clear h19 h16
        refine wpList_guard_no (by rfl) ?_
        refine HK.out _ _ (Below.refl _ _) ?_
        rfl
      · intro vv W K hB hd HK
        simp only [confRules] at hd HK
        obtain ⟨h16, h20, h12⟩ := hd
        simp only [h16, h20, h12] at HK ⊢
        clear h16 h20 h12
        refine wpList_guard_yes (by rfl) ?_
        go_wp2
        refine HK.out _ _ (Below.refl _ _) ?_
        first | rfl | exact congrArg Value.bool (by simp) | exact congrArg Value.bool t0
      · intro vv W K hB hd HK
        simp only [confRules] at hd HK
        obtain ⟨h12, h21⟩ := hd
        simp only [h12, h21] at HK ⊢
        clear h12 h21
        go_wp2
        refine HK.out _ _ (Below.refl _ _) ?_
        first | rfl | exact congrArg Value.bool (by simp) | exact congrArg Value.bool t0
    case rahend =>
      intro vv W hB hf
      have e22 := hf 22 (by decide)
      simp only [endRules] at e22
      simp only [e22, dropRules]
      clear hf e22
      have HBW := Lib.hid (HB16.out.trans (hB.mono HB16.out.size))
      clear hB
      go_wp2
      go_ret
      exact ⟨rfl, HBW.out⟩
  · have t0 : decide (gx < 1) = false := decide_eq_false hx1
    have HSY := Lib.hid (HSX.out (by omega))
    refine wp_region_conf2 23 [Fact.eq (.agg (SnC gen epoch next pa)), Fact.eq (.agg (SnC gen epoch next pb)), Fact.eq (.bool q), Fact.eq (.agg (BEC EW)), Fact.eq (.agg (BEC EN)), Fact.eq (.bool q), Fact.eq (.bool true), Fact.eq (.bool true), Fact.eq (.agg (SnC gen epoch next pa)), Fact.eq (.agg (SnC gen epoch next pa)), Fact.eq (.bool true), Fact.eq (.bool true), Fact.eq (.bool true), Fact.eq (.pointer (some ⟨w13.heap.size, 0, none⟩)), Fact.eq (.int .i64 gx), Fact.eq (.bool false), Fact.eq (.bool false), Fact.eq (.agg (SnC gen epoch next pa)), Fact.eq (.agg (SnC gx epoch next pa)), Fact.eq (.bool false), Fact.eq (.bool true), Fact.eq (.bool true), Fact.eq (.bool true)] ?rbA (by kernel_rfl) (by kernel_rfl) ?rbhA ?rbho ?rbhend
    case rbhA =>
      intro vv
      simp only [putRules, Nat.reduceAdd]
      rfl
    case rbho =>
      refine ⟨?_, ?_, ?_, ?_, ?_, ?_, ?_, ?_, ?_, ?_, ?_, ?_, ?_, ?_, ?_, ?_, ?_, ?_, ?_, ?_, ?_, ?_, ?_, trivial⟩
      · intro vv W K hB hd HK
        simp only [confRules] at HK
        clear hd
        have hT := (hB.block waA.heap.size (by omega)).trans HQ16.out
        go_wp2_with (refine wpList_row_on (by rfl) 28 _ rfl waA.heap.size rfl 28 _ _ _ hT Try.underlying28 rfl (HSCI.out _ _) ?_)
        refine HK.out _ _ (Below.refl _ _) ?_
        rfl
      · intro vv W K hB hd HK
        simp only [confRules] at HK
        clear hd
        have hT := (hB.block w6.heap.size (by omega)).trans HQB16.out
        go_wp2_with (refine wpList_row_on (by rfl) 28 _ rfl w6.heap.size rfl 28 _ _ _ hT Try.underlying28 rfl (HSCI.out _ _) ?_)
        refine HK.out _ _ (Below.refl _ _) ?_
        rfl
      · intro vv W K hB hd HK
        simp only [confRules] at hd HK
        obtain ⟨h0, h1⟩ := hd
        simp only [h0, h1] at HK ⊢
        clear h0 h1
        go_wp2_with (refine (HSM.out _ (HBK.out.trans (hB.mono HBK.out.size))).mono ?_; rintro e w9 ⟨rfl, hB9⟩)
        refine HK.out _ _ hB9 ?_
        rfl
      · intro vv W K hB hd HK
        simp only [confRules] at HK
        clear hd
        have hT := (hB.block w8.heap.size (by omega)).trans HE16.out
        go_wp2_with (refine wpList_row_on (by rfl) 46 _ rfl w8.heap.size rfl 46 _ _ _ hT Try.underlying46 rfl (HIE.out _) ?_)
        refine HK.out _ _ (Below.refl _ _) ?_
        rfl
      · intro vv W K hB hd HK
        simp only [confRules] at HK
        clear hd
        have hT := (hB.block w11.heap.size (by omega)).trans HN16.out
        go_wp2_with (refine wpList_row_on (by rfl) 46 _ rfl w11.heap.size rfl 46 _ _ _ hT Try.underlying46 rfl (HIE.out _) ?_)
        refine HK.out _ _ (Below.refl _ _) ?_
        rfl
      · intro vv W K hB hd HK
        simp only [confRules] at hd HK
        obtain ⟨h3, h4⟩ := hd
        simp only [h3, h4] at HK ⊢
        clear h3 h4
        go_wp2_with (refine wpList_eql_on (by rfl) 46 46 _ _ rfl (BEC EW) (BEC EN) rfl rfl (by kernel_rfl) q HEQ.out ?_)
        refine HK.out _ _ (Below.refl _ _) ?_
        rfl
      · intro vv W K hB hd HK
        simp only [confRules] at hd HK
        obtain ⟨h2, h5⟩ := hd
        simp only [h2, h5] at HK ⊢
        clear h2 h5
        go_wp2
        refine HK.out _ _ (Below.refl _ _) ?_
        first | rfl | exact congrArg Value.bool (by simp) | exact congrArg Value.bool t0
      · intro vv W K hB hd HK
        simp only [confRules] at hd HK
        obtain ⟨h6, h2⟩ := hd
        simp only [h6, h2] at HK ⊢
        clear h6 h2
        go_wp2
        refine HK.out _ _ (Below.refl _ _) ?_
        rfl
      · intro vv W K hB hd HK
        simp only [confRules] at hd HK
        have h7 := hd
        clear hd
        simp only [h7] at HK ⊢
        clear h7
        refine wpList_guard_yes (by rfl) ?_
        have hT := (hB.block waA.heap.size (by omega)).trans HQ16.out
        go_wp2_with (refine wpList_row_on (by rfl) 28 _ rfl waA.heap.size rfl 28 _ _ _ hT Try.underlying28 rfl (HSCI.out _ _) ?_)
        refine HK.out _ _ (Below.refl _ _) ?_
        rfl
      · intro vv W K hB hd HK
        simp only [confRules] at hd HK
        have h7 := hd
        clear hd
        simp only [h7] at HK ⊢
        clear h7
        refine wpList_guard_yes (by rfl) ?_
        have hT := (hB.block waA.heap.size (by omega)).trans HQ16.out
        go_wp2_with (refine wpList_row_on (by rfl) 28 _ rfl waA.heap.size rfl 28 _ _ _ hT Try.underlying28 rfl (HSCI.out _ _) ?_)
        refine HK.out _ _ (Below.refl _ _) ?_
        rfl
      · intro vv W K hB hd HK
        simp only [confRules] at hd HK
        obtain ⟨h8, h9, h7, _⟩ := hd
        simp only [h8, h9, h7] at HK ⊢
        clear h8 h9 h7
        refine wpList_guard_yes (by rfl) ?_
        go_wp2_with (refine (HSS.out _ (HBK.out.trans (hB.mono HBK.out.size))).mono ?_; rintro e w9 ⟨rfl, hB9⟩)
        refine HK.out _ _ hB9 ?_
        rfl
      · intro vv W K hB hd HK
        simp only [confRules] at hd HK
        obtain ⟨h7, h10⟩ := hd
        simp only [h7, h10] at HK ⊢
        clear h7 h10
        go_wp2
        refine HK.out _ _ (Below.refl _ _) ?_
        first | rfl | exact congrArg Value.bool (by simp) | exact congrArg Value.bool t0
      · intro vv W K hB hd HK
        simp only [confRules] at hd HK
        obtain ⟨h11, h10⟩ := hd
        simp only [h11, h10] at HK ⊢
        clear h11 h10
        go_wp2
        refine HK.out _ _ (Below.refl _ _) ?_
        rfl
      · intro vv W K hB hd HK
        simp only [confRules] at hd HK
        have h12 := hd
        clear hd
        simp only [h12] at HK ⊢
        clear h12
        refine wpList_guard_yes (by rfl) ?_
        go_wp2
        refine HK.out _ _ (Below.refl _ _) ?_
        rfl
      · intro vv W K hB hd HK
        simp only [confRules] at hd HK
        obtain ⟨h13, h12⟩ := hd
        simp only [h13, h12] at HK ⊢
        clear h13 h12
        refine wpList_guard_yes (by rfl) ?_
        have c1 := (HSCC.out W _ _ _ ((hB.block w13.heap.size (by omega)).trans HC16.out)).1
        go_wp2
        refine HK.out _ _ (Below.refl _ _) ?_
        rfl
      · intro vv W K hB hd HK
        simp only [confRules] at hd HK
        obtain ⟨h14, h12⟩ := hd
        simp only [h14, h12] at HK ⊢
        clear h14 h12
        refine wpList_guard_yes (by rfl) ?_
        go_wp2
        refine HK.out _ _ (Below.refl _ _) ?_
        first | rfl | exact congrArg Value.bool (by simp) | exact congrArg Value.bool t0
      · intro vv W K hB hd HK
        simp only [confRules] at hd HK
        obtain ⟨h15, h12, _⟩ := hd
        simp only [h15, h12] at HK ⊢
        clear h15 h12
        refine wpList_guard_yes (by rfl) ?_
        go_wp2
        refine HK.out _ _ (Below.refl _ _) ?_
        rfl
      · intro vv W K hB hd HK
        simp only [confRules] at hd HK
        have h16 := hd
        clear hd
        simp only [h16] at HK ⊢
        clear h16
        refine wpList_guard_yes (by rfl) ?_
        have hT := (hB.block waA.heap.size (by omega)).trans HQ16.out
        go_wp2_with (refine wpList_row_on (by rfl) 28 _ rfl waA.heap.size rfl 28 _ _ _ hT Try.underlying28 rfl (HSCI.out _ _) ?_)
        refine HK.out _ _ (Below.refl _ _) ?_
        rfl
      · intro vv W K hB hd HK
        simp only [confRules] at hd HK
        have h16 := hd
        clear hd
        simp only [h16] at HK ⊢
        clear h16
        refine wpList_guard_yes (by rfl) ?_
        have hT := (hB.block w13.heap.size (by omega)).trans HC16.out
        go_wp2_with (refine wpList_row_on (by rfl) 28 _ rfl w13.heap.size rfl 28 _ _ _ hT Try.underlying28 rfl (HSCI.out _ _) ?_)
        refine HK.out _ _ (Below.refl _ _) ?_
        rfl
      · intro vv W K hB hd HK
        simp only [confRules] at hd HK
        obtain ⟨h17, h18, h16, _⟩ := hd
        simp only [h17, h18, h16] at HK ⊢
        clear h17 h18 h16
        refine wpList_guard_yes (by rfl) ?_
        go_wp2_with (refine (HSY.out _ (HBK.out.trans (hB.mono HBK.out.size))).mono ?_; rintro e w9 ⟨rfl, hB9⟩)
        refine HK.out _ _ hB9 ?_
        rfl
      · intro vv W K hB hd HK
        simp only [confRules] at hd HK
        obtain ⟨h19, h16⟩ := hd
        simp only [h19, h16] at HK ⊢
        clear h19 h16
        refine wpList_guard_yes (by rfl) ?_
        go_wp2
        refine HK.out _ _ (Below.refl _ _) ?_
        first | rfl | exact congrArg Value.bool (by simp) | exact congrArg Value.bool t0
      · intro vv W K hB hd HK
        simp only [confRules] at hd HK
        obtain ⟨h16, h20, h12⟩ := hd
        simp only [h16, h20, h12] at HK ⊢
        clear h16 h20 h12
        refine wpList_guard_yes (by rfl) ?_
        go_wp2
        refine HK.out _ _ (Below.refl _ _) ?_
        first | rfl | exact congrArg Value.bool (by simp) | exact congrArg Value.bool t0
      · intro vv W K hB hd HK
        simp only [confRules] at hd HK
        obtain ⟨h12, h21⟩ := hd
        simp only [h12, h21] at HK ⊢
        clear h12 h21
        go_wp2
        refine HK.out _ _ (Below.refl _ _) ?_
        first | rfl | exact congrArg Value.bool (by simp) | exact congrArg Value.bool t0
    case rbhend =>
      intro vv W hB hf
      have e22 := hf 22 (by decide)
      simp only [endRules] at e22
      simp only [e22, dropRules]
      clear hf e22
      have HBW := Lib.hid (HB16.out.trans (hB.mono HB16.out.size))
      clear hB
      go_wp2
      go_ret
      exact ⟨rfl, HBW.out⟩
end Go.Proofs.Ytjnneoejnpephaa
