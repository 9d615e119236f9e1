/- Proved here: a map's Copy. -/
import Derived.Test.YteggijkcdlboeaaManyOwn
import Derived.Test.YteggijkcdlboeaaBmIter
import Derived.Test.YteggijkcdlboeaaBmNew
import Derived.WalkSpells
import Derived.WalkLawsBesides
namespace Go.Rv
open Go.RowKit
theorem OwnM.empty {α : Type} {w : World} {e : TypeId} {n : Nat} {X : α → Array Value} {Q : α → Prop} {base g : Nat} (hg : w.heap[g]? = some (.cells #[] e (0, 0))) (hb : base ≤ g) : OwnM w e n X Q base (.slice (some ⟨g, 0, none⟩) 0 0) [] :=
  ⟨⟨by simp [flatM], .inr ⟨g, 0, #[], rfl, hb, hg, Nat.le_refl _, by decide, by simp, by simp [flatM]⟩⟩, by simp⟩
end Go.Rv
namespace Go.Proofs.Yteggijkcdlboeaa
open Go.RowKit Go.Rv
set_option linter.unusedVariables false
theorem kinE : Kin 6 BEC (fun _ => True) := ⟨fun e _ => BEC_size e, fun e _ => BEC_one e⟩
/-- an int, as cells -/
def iC (x : Int) : Array Value := #[.int .i64 x]
theorem kinI : Kin 1 iC (fun _ => True) := ⟨fun e _ => rfl, fun e _ => by simp [iC, Value.oneCell']⟩
theorem flat_iC (l : List Int) : flatM iC l = l.map (Value.int .i64) := by
  induction l with
  | nil => rfl
  | cons x l ih => simp only [flatM, List.flatMap_cons, List.map_cons, iC] at ih ⊢; rw [ih]; rfl
theorem flat_BEC (l : List BE) : flatM BEC l = flatE l := rfl
set_option maxRecDepth 100000 in
set_option maxHeartbeats 2000000 in
theorem eclone_any (w : World) (ad : Addr) (es : List BE) (cp : Nat) (hR : RowOf w 6 BEC (fun _ => True) (some ad) es) (hl : es.length ≤ 100000) :
    Calls Try.prog 40 #[.slice (some ad) es.length cp] w fun e w' => ∃ v, e = .returned v ∧ OwnM w' 41 6 BEC (fun _ => True) w.heap.size v es ∧ Below w.heap.size w w' := by
  have HR := Lib.hid (hR.below ((Below.refl _ w).alloc (Nat.le_refl _) (.cells #[] 41)))
  have hnil := fun W => Lib.run_eql_slice_nil (P := Try.prog) W 46 41 (some ad) es.length cp 0 0 Try.underlying46
  have hinfo : (Try.prog.info? 41).map (fun i => (i.zero, i.size, i.bytes)) = some (some (.agg (BEC BE.zero)), 6, 48) := by kernel_rfl
  have HI := Lib.hid hinfo
  have hown : OwnM (w.alloc (.cells #[] 41)) 41 6 BEC (fun _ => True) w.heap.size (.slice (some ⟨w.heap.size, 0, none⟩) 0 0) [] := OwnM.empty (heap_alloc_new _ _) (Nat.le_refl _)
  have HOG := Lib.hid (fun w' (hg : (w.alloc (.cells #[] 41)).grownBy w' (some w.heap.size)) => ((Below.refl w.heap.size w).alloc (Nat.le_refl _) _).trans (hown.grown hg (by simp)))
  have HOWN := Lib.hid hown
  clear hR hinfo hown
  go_enter Try.func40, Try.ntmps40
  go_wp2_with (at_builtin; refine wpList_appendM rfl (.tmp 5) (.tmp 6) 46 rfl 41 6 BEC (fun _ => True) kinE (by decide) (.agg (BEC BE.zero)) 48 Try.underlying46 HI.out rfl w.heap.size _ [] rfl HOWN.out (some ad) cp es rfl HR.out (by simp) (by unfold maxLen; simp; omega) (by simp; omega) (by simp) ?_; intro v' w' hv hg _)
  go_ret
  exact ⟨_, rfl, hv, HOG.out _ hg⟩
set_option maxRecDepth 100000 in
set_option maxHeartbeats 2000000 in
theorem iclone_any (w : World) (ad : Addr) (es : List Int) (cp : Nat) (hR : RowOf w 1 iC (fun _ => True) (some ad) es) (hl : es.length ≤ 100000) :
    Calls Try.prog 41 #[.slice (some ad) es.length cp] w fun e w' => ∃ v, e = .returned v ∧ OwnM w' 3 1 iC (fun _ => True) w.heap.size v es ∧ Below w.heap.size w w' := by
  have HR := Lib.hid (hR.below ((Below.refl _ w).alloc (Nat.le_refl _) (.cells #[] 3)))
  have hnil := fun W => Lib.run_eql_slice_nil (P := Try.prog) W 60 3 (some ad) es.length cp 0 0 Try.underlying60
  have hinfo : (Try.prog.info? 3).map (fun i => (i.zero, i.size, i.bytes)) = some (some (.int .i64 0), 1, 8) := by kernel_rfl
  have HI := Lib.hid hinfo
  have hown : OwnM (w.alloc (.cells #[] 3)) 3 1 iC (fun _ => True) w.heap.size (.slice (some ⟨w.heap.size, 0, none⟩) 0 0) [] := OwnM.empty (heap_alloc_new _ _) (Nat.le_refl _)
  have HOG := Lib.hid (fun w' (hg : (w.alloc (.cells #[] 3)).grownBy w' (some w.heap.size)) => ((Below.refl w.heap.size w).alloc (Nat.le_refl _) _).trans (hown.grown hg (by simp)))
  have HOWN := Lib.hid hown
  clear hR hinfo hown
  go_enter Try.func41, Try.ntmps41
  go_wp2_with (at_builtin; refine wpList_appendM rfl (.tmp 5) (.tmp 6) 60 rfl 3 1 iC (fun _ => True) kinI (by decide) (.int .i64 0) 8 Try.underlying60 HI.out rfl w.heap.size _ [] rfl HOWN.out (some ad) cp es rfl HR.out (by simp) (by unfold maxLen; simp; omega) (by simp; omega) (by simp) ?_; intro v' w' hv hg _)
  go_ret
  exact ⟨_, rfl, hv, HOG.out _ hg⟩
/-- a row that is a copy -/
def CRow (B : Nat) (t : TypeId) (L : List Value) (n b c : Nat) (w : World) : Prop := B ≤ b ∧ n ≤ c ∧ c ≤ 9223372036854775807 ∧ ∃ cur : Array Value, w.heap[b]? = some (.cells cur t (0, 0)) ∧ cur.toList.take L.length = L
theorem CRow.below {B : Nat} {t : TypeId} {L : List Value} {n b c : Nat} {w w' : World} (h : CRow B t L n b c w) (hB : Below w.heap.size w w') : CRow B t L n b c w' := by
  obtain ⟨h1, h2, h3, cur, hc, ht⟩ := h
  exact ⟨h1, h2, h3, cur, (hB.block b (Array.getElem?_eq_some_iff.1 hc).1).trans hc, ht⟩
theorem crow_of_own {α : Type} {w : World} {e : TypeId} {n : Nat} {X : α → Array Value} {base : Nat} {v : Value} {xs : List α} (hK : Kin n X (fun _ => True)) (h : OwnM w e n X (fun _ => True) base v xs) (h0 : xs ≠ []) : ∃ b c, v = .slice (some ⟨b, 0, none⟩) xs.length c ∧ CRow base e (flatM X xs) xs.length b c w := by
  rcases h.1.2 with ⟨-, hn⟩ | ⟨g, cap, cur, rfl, hb, hg, hnc, hcm, hcs, htake⟩
  · exact absurd (List.eq_nil_of_length_eq_zero hn) h0
  · exact ⟨g, cap, rfl, hb, hnc, by unfold maxLen at hcm; omega, cur, hg, by rw [flatM_length (n := n) (fun y _ => hK.size y trivial)]; exact htake⟩
def CSl (B : Nat) (t : TypeId) (L : List Value) (n : Nat) (u : Value) (w : World) : Prop := ∃ b c, u = .slice (some ⟨b, 0, none⟩) n c ∧ CRow B t L n b c w
theorem CSl.st (B : Nat) (t : TypeId) (L : List Value) (n : Nat) (u : Value) (w w' : World) (h : CSl B t L n u w) (hB : Below w.heap.size w w') : CSl B t L n u w' := by
  obtain ⟨b, c, e, h1⟩ := h
  exact ⟨b, c, e, h1.below hB⟩
def CMap (B : Nat) (g : Geo.G) (E L : List Value) (n m : Nat) (u : Value) (w : World) : Prop := ∃ b c1 c c2, u = .agg (mapC g b n c1 c m c2) ∧ CRow B 41 E n b c1 w ∧ CRow B 3 L m c c2 w
theorem CMap.st (B : Nat) (g : Geo.G) (E L : List Value) (n m : Nat) (u : Value) (w w' : World) (h : CMap B g E L n m u w) (hB : Below w.heap.size w w') : CMap B g E L n m u w' := by
  obtain ⟨b, c1, c, c2, e, h1, h2⟩ := h
  exact ⟨b, c1, c, c2, e, h1.below hB, h2.below hB⟩
def CPtr (B : Nat) (g : Geo.G) (E L : List Value) (n m : Nat) (u : Value) (w : World) : Prop := ∃ p b c1 c c2, u = .pointer (some ⟨p, 0, none⟩) ∧ B ≤ p ∧ w.heap[p]? = some (.cells (mapC g b n c1 c m c2) 62 (0, 0)) ∧ CRow B 41 E n b c1 w ∧ CRow B 3 L m c c2 w
theorem CPtr.st (B : Nat) (g : Geo.G) (E L : List Value) (n m : Nat) (u : Value) (w w' : World) (h : CPtr B g E L n m u w) (hB : Below w.heap.size w w') : CPtr B g E L n m u w' := by
  obtain ⟨p, b, c1, c, c2, e, h0, hp, h1, h2⟩ := h
  exact ⟨p, b, c1, c, c2, e, h0, (hB.block p (Array.getElem?_eq_some_iff.1 hp).1).trans hp, h1.below hB, h2.below hB⟩
theorem copyRules : (∀ B t L n u w, (Fact.of (CSl B t L n) (CSl.st B t L n)).p u w = CSl B t L n u w) ∧ (∀ B g E L n m u w, (Fact.of (CMap B g E L n m) (CMap.st B g E L n m)).p u w = CMap B g E L n m u w) ∧ (∀ B g E L n m u w, (Fact.of (CPtr B g E L n m) (CPtr.st B g E L n m)).p u w = CPtr B g E L n m u w) :=
  ⟨fun _ _ _ _ _ _ => rfl, fun _ _ _ _ _ _ _ _ => rfl, fun _ _ _ _ _ _ _ _ => rfl⟩
set_option maxRecDepth 100000 in
set_option maxHeartbeats 4000000 in
theorem bcopy_any (w : World) (p le ll ce cl : Nat) (g : Geo.G) (es : List BE) (lv : List Int) (h : BmIs w p le ll ce cl g es lv) (he : es ≠ []) (hlv : lv ≠ []) (hn : es.length ≤ 100000) (hm : lv.length ≤ 100000) :
    Calls Try.prog 31 #[.pointer (some ⟨p, 0, none⟩)] w fun x w' => ∃ p' le' ll' ce' cl', x = .returned (.pointer (some ⟨p', 0, none⟩)) ∧ BmIs w' p' le' ll' ce' cl' g es lv ∧ w.heap.size ≤ p' ∧ w.heap.size ≤ le' ∧ w.heap.size ≤ ll' ∧ Below w.heap.size w w' := by
  have HBM := Lib.hid h
  obtain ⟨N, hN⟩ : ∃ N, es.length = N := ⟨_, rfl⟩
  obtain ⟨M, hM⟩ : ∃ M, lv.length = M := ⟨_, rfl⟩
  obtain ⟨EL, hEL⟩ : ∃ EL, flatE es = EL := ⟨_, rfl⟩
  obtain ⟨LL, hLL⟩ : ∃ LL, lv.map (Value.int .i64) = LL := ⟨_, rfl⟩
  have HE : Hid (∀ W, Below w.heap.size w W → Calls Try.prog 40 #[.slice (some ⟨le, 0, none⟩) N ce] W fun e w' => ∃ v, e = .returned v ∧ CSl w.heap.size 41 EL N v w' ∧ Below W.heap.size W w') := Lib.hid (fun W hB => by
    rw [← hN, ← hEL]
    refine (eclone_any W ⟨le, 0, none⟩ es ce (h.below hB).rows hn).mono ?_
    rintro x w' ⟨v, rfl, hv, hB2⟩
    obtain ⟨b, c, e, hc⟩ := crow_of_own kinE (hv.mono hB.size) he
    exact ⟨v, rfl, ⟨b, c, e, hc⟩, hB2⟩)
  have HL : Hid (∀ W, Below w.heap.size w W → Calls Try.prog 41 #[.slice (some ⟨ll, 0, none⟩) M cl] W fun e w' => ∃ v, e = .returned v ∧ CSl w.heap.size 3 LL M v w' ∧ Below W.heap.size W w') := Lib.hid (fun W hB => by
    rw [← hM, ← hLL]
    have hr : RowOf W 1 iC (fun _ => True) (some ⟨ll, 0, none⟩) lv := .inr ⟨ll, 0, rfl, (h.below hB).lt.2.2, fun k x hk => ⟨fun j hj => by
      obtain rfl : j = 0 := by omega
      rw [Nat.mul_one, Nat.zero_add]
      exact ((h.below hB).live hk).1, trivial⟩⟩
    refine (iclone_any W ⟨ll, 0, none⟩ lv cl hr hm).mono ?_
    rintro x w' ⟨v, rfl, hv, hB2⟩
    obtain ⟨b, c, e, hc⟩ := crow_of_own kinI (hv.mono hB.size) hlv
    rw [flat_iC] at hc
    exact ⟨v, rfl, ⟨b, c, e, hc⟩, hB2⟩)
  have HCL : Hid (∀ W, Below w.heap.size w W → W.cell? ⟨p, 0, none⟩ = some (.int .i64 g.d) ∧ W.cell? ⟨p, 1, none⟩ = some (.int .i64 g.z) ∧ W.cell? ⟨p, 2, none⟩ = some (.int .i64 g.s) ∧ W.cell? ⟨p, 3, none⟩ = some (.int .i64 g.b) ∧ W.cell? ⟨p, 4, none⟩ = some (.int .i64 g.p) ∧ W.cell? ⟨p, 5, none⟩ = some (.int .i64 g.o) ∧ W.cell? ⟨p, 6, none⟩ = some (.slice (some ⟨le, 0, none⟩) N ce) ∧ W.cell? ⟨p, 7, none⟩ = some (.slice (some ⟨ll, 0, none⟩) M cl)) := Lib.hid (fun W hB => by
    obtain ⟨a0, a1, a2, a3, a4, a5⟩ := (h.below hB).geo
    obtain ⟨a6, a7⟩ := (h.below hB).cells
    rw [hN] at a6
    rw [hM] at a7
    exact ⟨a0, a1, a2, a3, a4, a5, a6, a7⟩)
  have HNM := Lib.hid (show es.length = N ∧ lv.length = M ∧ flatE es = EL ∧ lv.map (Value.int .i64) = LL from ⟨hN, hM, hEL, hLL⟩)
  clear h hN hM hEL hLL he hlv hn hm
  go_enter Try.func31, Try.ntmps31
  go_wp2
  refine wp_region_conf2 16 [Fact.eq ?rax0, Fact.eq ?rax1, Fact.eq ?rax2, Fact.eq (.agg (GC g)), Fact.eq ?rax4, Fact.eq ?rax5, Fact.eq ?rax6, Fact.eq ?rax7, Fact.of (CSl w.heap.size 41 EL N) (CSl.st w.heap.size 41 EL N), Fact.eq ?rax9, Fact.eq ?rax10, Fact.eq ?rax11, Fact.eq ?rax12, Fact.of (CSl w.heap.size 3 LL M) (CSl.st w.heap.size 3 LL M), Fact.of (CMap w.heap.size g EL LL N M) (CMap.st w.heap.size g EL LL N M), Fact.of (CPtr w.heap.size g EL LL N M) (CPtr.st w.heap.size g EL LL N M)] ?raA (by kernel_rfl) (by kernel_rfl) ?rahA ?raho ?rahend
  case rahA =>
    intro vv
    simp only [putRules, Nat.reduceAdd]
    rfl
  case raho =>
    refine ⟨?_, ?_, ?_, ?_, ?_, ?_, ?_, ?_, ?_, ?_, ?_, ?_, ?_, ?_, ?_, ?_, trivial⟩
    · intro vv W K hB hd HK
      simp only [confRules, copyRules] at HK
      clear hd
      go_wp2
      refine HK.out _ _ (Below.refl _ _) ?_
      rfl
    · intro vv W K hB hd HK
      simp only [confRules, copyRules] at hd HK
      have h0 := hd
      clear hd
      simp only [h0] at HK ⊢
      clear h0
      go_wp2
      refine HK.out _ _ (Below.refl _ _) ?_
      rfl
    · intro vv W K hB hd HK
      simp only [confRules, copyRules] at hd HK
      have h1 := hd
      clear hd
      simp only [h1] at HK ⊢
      clear h1
      go_wp2
      refine HK.out _ _ (Below.refl _ _) ?_
      rfl
    · intro vv W K hB hd HK
      simp only [confRules, copyRules] at hd HK
      have h2 := hd
      clear hd
      simp only [h2] at HK ⊢
      clear h2
      have hcl := HCL.out _ hB
      obtain ⟨a0, a1, a2, a3, a4, a5, a6, a7⟩ := hcl
      go_wp2
      refine HK.out _ _ (Below.refl _ _) ?_
      rfl
    · intro vv W K hB hd HK
      simp only [confRules, copyRules] at HK
      clear hd
      go_wp2
      refine HK.out _ _ (Below.refl _ _) ?_
      rfl
    · intro vv W K hB hd HK
      simp only [confRules, copyRules] at hd HK
      have h4 := hd
      clear hd
      simp only [h4] at HK ⊢
      clear h4
      go_wp2
      refine HK.out _ _ (Below.refl _ _) ?_
      rfl
    · intro vv W K hB hd HK
      simp only [confRules, copyRules] at hd HK
      have h5 := hd
      clear hd
      simp only [h5] at HK ⊢
      clear h5
      go_wp2
      refine HK.out _ _ (Below.refl _ _) ?_
      rfl
    · intro vv W K hB hd HK
      simp only [confRules, copyRules] at hd HK
      have h6 := hd
      clear hd
      simp only [h6] at HK ⊢
      clear h6
      have hcl := HCL.out _ hB
      obtain ⟨a0, a1, a2, a3, a4, a5, a6, a7⟩ := hcl
      go_wp2
      refine HK.out _ _ (Below.refl _ _) ?_
      rfl
    · intro vv W K hB hd HK
      simp only [confRules, copyRules] at hd HK
      have h7 := hd
      clear hd
      simp only [h7] at HK ⊢
      clear h7
      go_wp2_with (refine (HE.out _ hB).mono ?_; rintro e w9 ⟨v, rfl, hv, hB9⟩)
      exact HK.out _ _ hB9 hv
    · intro vv W K hB hd HK
      simp only [confRules, copyRules] at HK
      clear hd
      go_wp2
      refine HK.out _ _ (Below.refl _ _) ?_
      rfl
    · intro vv W K hB hd HK
      simp only [confRules, copyRules] at hd HK
      have h9 := hd
      clear hd
      simp only [h9] at HK ⊢
      clear h9
      go_wp2
      refine HK.out _ _ (Below.refl _ _) ?_
      rfl
    · intro vv W K hB hd HK
      simp only [confRules, copyRules] at hd HK
      have h10 := hd
      clear hd
      simp only [h10] at HK ⊢
      clear h10
      go_wp2
      refine HK.out _ _ (Below.refl _ _) ?_
      rfl
    · intro vv W K hB hd HK
      simp only [confRules, copyRules] at hd HK
      have h11 := hd
      clear hd
      simp only [h11] at HK ⊢
      clear h11
      have hcl := HCL.out _ hB
      obtain ⟨a0, a1, a2, a3, a4, a5, a6, a7⟩ := hcl
      go_wp2
      refine HK.out _ _ (Below.refl _ _) ?_
      rfl
    · intro vv W K hB hd HK
      simp only [confRules, copyRules] at hd HK
      obtain ⟨h12, ⟨b8, c8, h8, r8⟩⟩ := hd
      simp only [h12, h8] at HK ⊢
      clear h12 h8
      go_wp2_with (refine (HL.out _ hB).mono ?_; rintro e w9 ⟨v, rfl, hv, hB9⟩)
      exact HK.out _ _ hB9 hv
    · intro vv W K hB hd HK
      simp only [confRules, copyRules] at hd HK
      obtain ⟨h3, ⟨b8, c8, h8, r8⟩, ⟨b13, c13, h13, r13⟩⟩ := hd
      simp only [h3, h8, h13] at HK ⊢
      clear h3 h8 h13
      unfold GC
      go_wp2
      refine HK.out _ _ (Below.refl _ _) ?_
      exact ⟨_, _, _, _, rfl, r8, r13⟩
    · intro vv W K hB hd HK
      simp only [confRules, copyRules] at hd HK
      obtain ⟨q1, q2, q3, q4, h14, r1, r2⟩ := hd
      simp only [h14] at HK ⊢
      clear h14
      go_wp2
      refine HK.out _ _ ((Below.refl _ _).alloc (Nat.le_refl _) _) ?_
      have hbb := (Below.refl W.heap.size W).alloc (Nat.le_refl _) (.cells (mapC g q1 N q2 q3 M q4) 62)
      exact ⟨_, _, _, _, _, rfl, hB.size, heap_alloc_new _ _, r1.below hbb, r2.below hbb⟩
  case rahend =>
    intro vv W hB hf
    have hp := hf 15 (by decide)
    simp only [endRules, copyRules] at hp
    obtain ⟨p', b, c1, c, c2, hv, h0, hp, ⟨k1, k2, k3, cur1, k4, k5⟩, ⟨l1, l2, l3, cur2, l4, l5⟩⟩ := hp
    simp only [dropRules, hv]
    clear hf
    obtain ⟨n1, n2, n3, n4⟩ := HNM.out
    have HR : Hid (BmIs W p' b c c1 c2 g es lv) := Lib.hid ⟨by rw [n1, n2]; exact hp, ⟨cur1, k4, by rw [n3, ← k5, ← n3, flatE_length]⟩, ⟨cur2, l4, by rw [n4, ← l5, ← n4, List.length_map]⟩, ⟨by omega, by omega⟩, ⟨by omega, by omega⟩⟩
    clear hp k2 k3 k4 k5 l2 l3 l4 l5 n1 n2 n3 n4 HNM HE HL HCL
    go_wp2
    go_ret
    exact ⟨p', b, c, c1, c2, rfl, HR.out, h0, k1, l1, hB⟩
end Go.Proofs.Yteggijkcdlboeaa
