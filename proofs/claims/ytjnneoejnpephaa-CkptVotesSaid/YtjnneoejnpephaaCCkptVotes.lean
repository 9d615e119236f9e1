/- Proved here, one behind the other: Proved here: plain facts on the copy that counts and on the zones that hold a Gen; Proved here: a map's Copy; Proved here: the library's sort of a slice of ints of the call's own, in the words of rows that are owned; Proved here: the zones that hold a Gen (Holders); Proved here: the walk of the law on which copy counts. -/
import Derived.WalkSpells
import Derived.WalkLawsBesides
import Derived.Test.YtjnneoejnpephaaSrtLay
import Derived.Sort.OwnSortedInts
import Derived.Test.YtjnneoejnpephaaBa
import Derived.Test.YtjnneoejnpephaaBc
import Derived.Test.YtjnneoejnpephaaBn
import Derived.Test.YtjnneoejnpephaaBs
import Derived.Test.YtjnneoejnpephaaBt
import Derived.Test.YtjnneoejnpephaaBk
namespace Ck
/-- the copy x counts more than b -/
def beats (x b : Int × Int) : Bool := decide (b.2 < x.2) || (decide (x.2 = b.2) && decide (x.1 < b.1))
theorem better_is (m x : Int × Int) : better m x = if beats x m = true then x else m := by
  unfold better
  have h : (0 < ordC x m) ↔ beats x m = true := by
    unfold ordC cmpI beats
    simp only [Bool.or_eq_true, Bool.and_eq_true, decide_eq_true_eq]
    split <;> split <;> rename_i h1 <;> (try split at h1) <;> (try split) <;> omega
  by_cases hb : beats x m = true
  · rw [if_pos (h.2 hb), if_pos hb]
  · rw [if_neg (fun h' => hb (h.1 h')), if_neg hb]
theorem fold_mem : ∀ (r : List (Int × Int)) (c : Int × Int), r.foldl better c ∈ c :: r
  | [], c => by simp
  | x :: r, c => by
    have ih := fold_mem r (better c x)
    simp only [List.foldl_cons]
    rcases List.mem_cons.1 ih with h | h
    · rw [h, better_is]
      split <;> simp
    · simp [h]
theorem beats_trans_no {x y z : Int × Int} (h1 : beats x y = false) (h2 : beats y z = false) : beats x z = false := by
  unfold beats at *
  simp only [Bool.or_eq_false_iff, Bool.and_eq_false_iff, decide_eq_false_iff_not] at *
  omega
theorem beats_self (x : Int × Int) : beats x x = false := by
  unfold beats
  simp
theorem fold_ge : ∀ (r : List (Int × Int)) (c : Int × Int), beats c (r.foldl better c) = false ∧ ∀ x ∈ r, beats x (r.foldl better c) = false
  | [], c => ⟨beats_self c, by simp⟩
  | x :: r, c => by
    obtain ⟨h1, h2⟩ := fold_ge r (better c x)
    simp only [List.foldl_cons]
    have hc : beats c (better c x) = false ∧ beats x (better c x) = false := by
      rw [better_is]
      by_cases hb : beats x c = true
      · rw [if_pos hb]
        refine ⟨?_, beats_self x⟩
        unfold beats at *
        simp only [Bool.or_eq_true, Bool.and_eq_true, decide_eq_true_eq, Bool.or_eq_false_iff, Bool.and_eq_false_iff, decide_eq_false_iff_not] at *
        omega
      · rw [if_neg hb]
        exact ⟨beats_self c, by simpa using hb⟩
    refine ⟨beats_trans_no hc.1 h1, fun y hy => ?_⟩
    rcases List.mem_cons.1 hy with rfl | hy
    · exact beats_trans_no hc.2 h1
    · exact h2 y hy
theorem vote_max {l : List (Int × Int)} {c : Int × Int} {r : List (Int × Int)} (hl : l = c :: r) : (r.foldl better c) ∈ l ∧ ∀ x ∈ l, beats x (r.foldl better c) = false := by
  subst hl
  refine ⟨fold_mem r c, fun x hx => ?_⟩
  obtain ⟨h1, h2⟩ := fold_ge r c
  rcases List.mem_cons.1 hx with rfl | hx
  · exact h1
  · exact h2 x hx
/-- the zones of the copies that have a Gen, in their order -/
def zonesOf (l : List (Int × Int)) (gen : Int) : List Int := (l.filter fun x => decide (x.2 = gen)).map (·.1)
/-- and sorted -/
def holders (l : List (Int × Int)) (gen : Int) : List Int := (zonesOf l gen).mergeSort fun x y => decide (x ≤ y)
/-- is there a copy with a Gen in a zone? -/
def heldIn (l : List (Int × Int)) (z gen : Int) : Bool := l.any fun x => decide (x.1 = z) && decide (x.2 = gen)
def countOf (l : List (Int × Int)) (gen : Int) : Nat := (zonesOf l gen).length
theorem zonesOf_snoc (l : List (Int × Int)) (x : Int × Int) (gen : Int) : zonesOf (l ++ [x]) gen = if x.2 = gen then zonesOf l gen ++ [x.1] else zonesOf l gen := by
  unfold zonesOf
  rw [List.filter_append]
  by_cases h : x.2 = gen <;> simp [h]
theorem zonesOf_le (l : List (Int × Int)) (gen : Int) : (zonesOf l gen).length ≤ l.length := by
  unfold zonesOf
  rw [List.length_map]
  exact List.length_filter_le _ _
theorem heldIn_snoc (l : List (Int × Int)) (x : Int × Int) (z gen : Int) : heldIn (l ++ [x]) z gen = (heldIn l z gen || (decide (x.1 = z) && decide (x.2 = gen))) := by
  simp [heldIn]
theorem holders_length (l : List (Int × Int)) (gen : Int) : (holders l gen).length = countOf l gen := by
  unfold holders countOf
  rw [List.length_mergeSort]
theorem holders_held {l : List (Int × Int)} {gen z : Int} (h : z ∈ holders l gen) : heldIn l z gen = true := by
  unfold holders at h
  rw [List.mem_mergeSort] at h
  unfold zonesOf at h
  simp only [List.mem_map, List.mem_filter, decide_eq_true_eq] at h
  obtain ⟨x, ⟨h1, h2⟩, h3⟩ := h
  unfold heldIn
  rw [List.any_eq_true]
  exact ⟨x, h1, by simp [h2, h3]⟩
theorem holders_sorted (l : List (Int × Int)) (gen : Int) {k : Nat} {a b : Int} (ha : (holders l gen)[k]? = some a) (hb : (holders l gen)[k + 1]? = some b) : a ≤ b := by
  have hs : (holders l gen).Pairwise (fun x y => decide (x ≤ y) = true) := List.pairwise_mergeSort (fun a b c h1 h2 => by simp at *; omega) (fun a b => by simp; omega) _
  obtain ⟨h1, h2⟩ := List.getElem?_eq_some_iff.1 ha
  obtain ⟨h3, h4⟩ := List.getElem?_eq_some_iff.1 hb
  have := List.pairwise_iff_getElem.1 hs k (k + 1) h1 h3 (by omega)
  rw [h2, h4] at this
  simpa using this
theorem heldIn_best {l : List (Int × Int)} {b : Int × Int} (h : b ∈ l) : heldIn l b.1 b.2 = true := by
  unfold heldIn
  rw [List.any_eq_true]
  exact ⟨b, h, by simp⟩
/-- copies of two lists, one by one -/
def pairs (zs gs : List Int) : List (Int × Int) := zs.zip gs
theorem beats_parts {x b : Int × Int} (h : beats x b = false) : decide (b.2 < x.2) = false ∧ (decide (x.2 = b.2) = false ∨ (decide (x.2 = b.2) = true ∧ decide (x.1 < b.1) = false)) := by
  unfold beats at h
  simp only [Bool.or_eq_false_iff, Bool.and_eq_false_iff] at h
  refine ⟨h.1, ?_⟩
  cases hd : decide (x.2 = b.2)
  · exact .inl rfl
  · exact .inr ⟨rfl, by simpa [hd] using h.2⟩
end Ck
namespace Go.Rv
open Go.RowKit
theorem OwnM.empty {α : Type} {w : World} {e : TypeId} {n : Nat} {X : α → Array Value} {Q : α → Prop} {base g : Nat} (hg : w.heap[g]? = some (.cells #[] e (0, 0))) (hb : base ≤ g) : OwnM w e n X Q base (.slice (some ⟨g, 0, none⟩) 0 0) [] :=
  ⟨⟨by simp [flatM], .inr ⟨g, 0, #[], rfl, hb, hg, Nat.le_refl _, by decide, by simp, by simp [flatM]⟩⟩, by simp⟩
end Go.Rv
namespace Go.Proofs.Ytjnneoejnpephaa
open Go.RowKit Go.Rv
set_option linter.unusedVariables false
theorem kinE : Kin 6 BEC (fun _ => True) := ⟨fun e _ => BEC_size e, fun e _ => BEC_one e⟩
/-- an int, as cells -/
def iC (x : Int) : Array Value := #[.int .i64 x]
theorem kinI : Kin 1 iC (fun _ => True) := ⟨fun e _ => rfl, fun e _ => by simp [iC, Value.oneCell']⟩
theorem flat_iC (l : List Int) : flatM iC l = l.map (Value.int .i64) := by
  induction l with
  | nil => rfl
  | cons x l ih => simp only [flatM, List.flatMap_cons, List.map_cons, iC] at ih ⊢; rw [ih]; rfl
theorem flat_BEC (l : List BE) : flatM BEC l = flatE l := rfl
set_option maxRecDepth 100000 in
set_option maxHeartbeats 2000000 in
theorem eclone_any (w : World) (ad : Addr) (es : List BE) (cp : Nat) (hR : RowOf w 6 BEC (fun _ => True) (some ad) es) (hl : es.length ≤ 100000) :
    Calls Try.prog 52 #[.slice (some ad) es.length cp] w fun e w' => ∃ v, e = .returned v ∧ OwnM w' 46 6 BEC (fun _ => True) w.heap.size v es ∧ Below w.heap.size w w' := by
  have HR := Lib.hid (hR.below ((Below.refl _ w).alloc (Nat.le_refl _) (.cells #[] 46)))
  have hnil := fun W => Lib.run_eql_slice_nil (P := Try.prog) W 108 46 (some ad) es.length cp 0 0 Try.underlying108
  have hinfo : (Try.prog.info? 46).map (fun i => (i.zero, i.size, i.bytes)) = some (some (.agg (BEC BE.zero)), 6, 48) := by kernel_rfl
  have HI := Lib.hid hinfo
  have hown : OwnM (w.alloc (.cells #[] 46)) 46 6 BEC (fun _ => True) w.heap.size (.slice (some ⟨w.heap.size, 0, none⟩) 0 0) [] := OwnM.empty (heap_alloc_new _ _) (Nat.le_refl _)
  have HOG := Lib.hid (fun w' (hg : (w.alloc (.cells #[] 46)).grownBy w' (some w.heap.size)) => ((Below.refl w.heap.size w).alloc (Nat.le_refl _) _).trans (hown.grown hg (by simp)))
  have HOWN := Lib.hid hown
  clear hR hinfo hown
  go_enter Try.func52, Try.ntmps52
  go_wp2_with (at_builtin; refine wpList_appendM rfl (.tmp 5) (.tmp 6) 108 rfl 46 6 BEC (fun _ => True) kinE (by decide) (.agg (BEC BE.zero)) 48 Try.underlying108 HI.out rfl w.heap.size _ [] rfl HOWN.out (some ad) cp es rfl HR.out (by simp) (by unfold maxLen; simp; omega) (by simp; omega) (by simp) ?_; intro v' w' hv hg _)
  go_ret
  exact ⟨_, rfl, hv, HOG.out _ hg⟩
set_option maxRecDepth 100000 in
set_option maxHeartbeats 2000000 in
theorem iclone_any (w : World) (ad : Addr) (es : List Int) (cp : Nat) (hR : RowOf w 1 iC (fun _ => True) (some ad) es) (hl : es.length ≤ 100000) :
    Calls Try.prog 53 #[.slice (some ad) es.length cp] w fun e w' => ∃ v, e = .returned v ∧ OwnM w' 3 1 iC (fun _ => True) w.heap.size v es ∧ Below w.heap.size w w' := by
  have HR := Lib.hid (hR.below ((Below.refl _ w).alloc (Nat.le_refl _) (.cells #[] 3)))
  have hnil := fun W => Lib.run_eql_slice_nil (P := Try.prog) W 59 3 (some ad) es.length cp 0 0 Try.underlying59
  have hinfo : (Try.prog.info? 3).map (fun i => (i.zero, i.size, i.bytes)) = some (some (.int .i64 0), 1, 8) := by kernel_rfl
  have HI := Lib.hid hinfo
  have hown : OwnM (w.alloc (.cells #[] 3)) 3 1 iC (fun _ => True) w.heap.size (.slice (some ⟨w.heap.size, 0, none⟩) 0 0) [] := OwnM.empty (heap_alloc_new _ _) (Nat.le_refl _)
  have HOG := Lib.hid (fun w' (hg : (w.alloc (.cells #[] 3)).grownBy w' (some w.heap.size)) => ((Below.refl w.heap.size w).alloc (Nat.le_refl _) _).trans (hown.grown hg (by simp)))
  have HOWN := Lib.hid hown
  clear hR hinfo hown
  go_enter Try.func53, Try.ntmps53
  go_wp2_with (at_builtin; refine wpList_appendM rfl (.tmp 5) (.tmp 6) 59 rfl 3 1 iC (fun _ => True) kinI (by decide) (.int .i64 0) 8 Try.underlying59 HI.out rfl w.heap.size _ [] rfl HOWN.out (some ad) cp es rfl HR.out (by simp) (by unfold maxLen; simp; omega) (by simp; omega) (by simp) ?_; intro v' w' hv hg _)
  go_ret
  exact ⟨_, rfl, hv, HOG.out _ hg⟩
/-- a row that is a copy -/
def CRow (B : Nat) (t : TypeId) (L : List Value) (n b c : Nat) (w : World) : Prop := B ≤ b ∧ n ≤ c ∧ c ≤ 9223372036854775807 ∧ ∃ cur : Array Value, w.heap[b]? = some (.cells cur t (0, 0)) ∧ cur.toList.take L.length = L
theorem CRow.below {B : Nat} {t : TypeId} {L : List Value} {n b c : Nat} {w w' : World} (h : CRow B t L n b c w) (hB : Below w.heap.size w w') : CRow B t L n b c w' := by
  obtain ⟨h1, h2, h3, cur, hc, ht⟩ := h
  exact ⟨h1, h2, h3, cur, (hB.block b (Array.getElem?_eq_some_iff.1 hc).1).trans hc, ht⟩
theorem crow_of_own {α : Type} {w : World} {e : TypeId} {n : Nat} {X : α → Array Value} {base : Nat} {v : Value} {xs : List α} (hK : Kin n X (fun _ => True)) (h : OwnM w e n X (fun _ => True) base v xs) (h0 : xs ≠ []) : ∃ b c, v = .slice (some ⟨b, 0, none⟩) xs.length c ∧ CRow base e (flatM X xs) xs.length b c w := by
  rcases h.1.2 with ⟨-, hn⟩ | ⟨g, cap, cur, rfl, hb, hg, hnc, hcm, hcs, htake⟩
  · exact absurd (List.eq_nil_of_length_eq_zero hn) h0
  · exact ⟨g, cap, rfl, hb, hnc, by unfold maxLen at hcm; omega, cur, hg, by rw [flatM_length (n := n) (fun y _ => hK.size y trivial)]; exact htake⟩
def CSl (B : Nat) (t : TypeId) (L : List Value) (n : Nat) (u : Value) (w : World) : Prop := ∃ b c, u = .slice (some ⟨b, 0, none⟩) n c ∧ CRow B t L n b c w
theorem CSl.st (B : Nat) (t : TypeId) (L : List Value) (n : Nat) (u : Value) (w w' : World) (h : CSl B t L n u w) (hB : Below w.heap.size w w') : CSl B t L n u w' := by
  obtain ⟨b, c, e, h1⟩ := h
  exact ⟨b, c, e, h1.below hB⟩
def CMap (B : Nat) (g : Geo.G) (E L : List Value) (n m : Nat) (u : Value) (w : World) : Prop := ∃ b c1 c c2, u = .agg (mapC g b n c1 c m c2) ∧ CRow B 46 E n b c1 w ∧ CRow B 3 L m c c2 w
theorem CMap.st (B : Nat) (g : Geo.G) (E L : List Value) (n m : Nat) (u : Value) (w w' : World) (h : CMap B g E L n m u w) (hB : Below w.heap.size w w') : CMap B g E L n m u w' := by
  obtain ⟨b, c1, c, c2, e, h1, h2⟩ := h
  exact ⟨b, c1, c, c2, e, h1.below hB, h2.below hB⟩
def CPtr (B : Nat) (g : Geo.G) (E L : List Value) (n m : Nat) (u : Value) (w : World) : Prop := ∃ p b c1 c c2, u = .pointer (some ⟨p, 0, none⟩) ∧ B ≤ p ∧ w.heap[p]? = some (.cells (mapC g b n c1 c m c2) 110 (0, 0)) ∧ CRow B 46 E n b c1 w ∧ CRow B 3 L m c c2 w
theorem CPtr.st (B : Nat) (g : Geo.G) (E L : List Value) (n m : Nat) (u : Value) (w w' : World) (h : CPtr B g E L n m u w) (hB : Below w.heap.size w w') : CPtr B g E L n m u w' := by
  obtain ⟨p, b, c1, c, c2, e, h0, hp, h1, h2⟩ := h
  exact ⟨p, b, c1, c, c2, e, h0, (hB.block p (Array.getElem?_eq_some_iff.1 hp).1).trans hp, h1.below hB, h2.below hB⟩
theorem copyRules : (∀ B t L n u w, (Fact.of (CSl B t L n) (CSl.st B t L n)).p u w = CSl B t L n u w) ∧ (∀ B g E L n m u w, (Fact.of (CMap B g E L n m) (CMap.st B g E L n m)).p u w = CMap B g E L n m u w) ∧ (∀ B g E L n m u w, (Fact.of (CPtr B g E L n m) (CPtr.st B g E L n m)).p u w = CPtr B g E L n m u w) :=
  ⟨fun _ _ _ _ _ _ => rfl, fun _ _ _ _ _ _ _ _ => rfl, fun _ _ _ _ _ _ _ _ => rfl⟩
set_option maxRecDepth 100000 in
set_option maxHeartbeats 4000000 in
theorem bcopy_any (w : World) (p le ll ce cl : Nat) (g : Geo.G) (es : List BE) (lv : List Int) (h : BmIs w p le ll ce cl g es lv) (he : es ≠ []) (hlv : lv ≠ []) (hn : es.length ≤ 100000) (hm : lv.length ≤ 100000) :
    Calls Try.prog 23 #[.pointer (some ⟨p, 0, none⟩)] w fun x w' => ∃ p' le' ll' ce' cl', x = .returned (.pointer (some ⟨p', 0, none⟩)) ∧ BmIs w' p' le' ll' ce' cl' g es lv ∧ w.heap.size ≤ p' ∧ w.heap.size ≤ le' ∧ w.heap.size ≤ ll' ∧ Below w.heap.size w w' := by
  have HBM := Lib.hid h
  obtain ⟨N, hN⟩ : ∃ N, es.length = N := ⟨_, rfl⟩
  obtain ⟨M, hM⟩ : ∃ M, lv.length = M := ⟨_, rfl⟩
  obtain ⟨EL, hEL⟩ : ∃ EL, flatE es = EL := ⟨_, rfl⟩
  obtain ⟨LL, hLL⟩ : ∃ LL, lv.map (Value.int .i64) = LL := ⟨_, rfl⟩
  have HE : Hid (∀ W, Below w.heap.size w W → Calls Try.prog 52 #[.slice (some ⟨le, 0, none⟩) N ce] W fun e w' => ∃ v, e = .returned v ∧ CSl w.heap.size 46 EL N v w' ∧ Below W.heap.size W w') := Lib.hid (fun W hB => by
    rw [← hN, ← hEL]
    refine (eclone_any W ⟨le, 0, none⟩ es ce (h.below hB).rows hn).mono ?_
    rintro x w' ⟨v, rfl, hv, hB2⟩
    obtain ⟨b, c, e, hc⟩ := crow_of_own kinE (hv.mono hB.size) he
    exact ⟨v, rfl, ⟨b, c, e, hc⟩, hB2⟩)
  have HL : Hid (∀ W, Below w.heap.size w W → Calls Try.prog 53 #[.slice (some ⟨ll, 0, none⟩) M cl] W fun e w' => ∃ v, e = .returned v ∧ CSl w.heap.size 3 LL M v w' ∧ Below W.heap.size W w') := Lib.hid (fun W hB => by
    rw [← hM, ← hLL]
    have hr : RowOf W 1 iC (fun _ => True) (some ⟨ll, 0, none⟩) lv := .inr ⟨ll, 0, rfl, (h.below hB).lt.2.2, fun k x hk => ⟨fun j hj => by
      obtain rfl : j = 0 := by omega
      rw [Nat.mul_one, Nat.zero_add]
      exact ((h.below hB).live hk).1, trivial⟩⟩
    refine (iclone_any W ⟨ll, 0, none⟩ lv cl hr hm).mono ?_
    rintro x w' ⟨v, rfl, hv, hB2⟩
    obtain ⟨b, c, e, hc⟩ := crow_of_own kinI (hv.mono hB.size) hlv
    rw [flat_iC] at hc
    exact ⟨v, rfl, ⟨b, c, e, hc⟩, hB2⟩)
  have HCL : Hid (∀ W, Below w.heap.size w W → W.cell? ⟨p, 0, none⟩ = some (.int .i64 g.d) ∧ W.cell? ⟨p, 1, none⟩ = some (.int .i64 g.z) ∧ W.cell? ⟨p, 2, none⟩ = some (.int .i64 g.s) ∧ W.cell? ⟨p, 3, none⟩ = some (.int .i64 g.b) ∧ W.cell? ⟨p, 4, none⟩ = some (.int .i64 g.p) ∧ W.cell? ⟨p, 5, none⟩ = some (.int .i64 g.o) ∧ W.cell? ⟨p, 6, none⟩ = some (.slice (some ⟨le, 0, none⟩) N ce) ∧ W.cell? ⟨p, 7, none⟩ = some (.slice (some ⟨ll, 0, none⟩) M cl)) := Lib.hid (fun W hB => by
    obtain ⟨a0, a1, a2, a3, a4, a5⟩ := (h.below hB).geo
    obtain ⟨a6, a7⟩ := (h.below hB).cells
    rw [hN] at a6
    rw [hM] at a7
    exact ⟨a0, a1, a2, a3, a4, a5, a6, a7⟩)
  have HNM := Lib.hid (show es.length = N ∧ lv.length = M ∧ flatE es = EL ∧ lv.map (Value.int .i64) = LL from ⟨hN, hM, hEL, hLL⟩)
  clear h hN hM hEL hLL he hlv hn hm
  go_enter Try.func23, Try.ntmps23
  go_wp2
  refine wp_region_conf2 16 [Fact.eq ?rax0, Fact.eq ?rax1, Fact.eq ?rax2, Fact.eq (.agg (GC g)), Fact.eq ?rax4, Fact.eq ?rax5, Fact.eq ?rax6, Fact.eq ?rax7, Fact.of (CSl w.heap.size 46 EL N) (CSl.st w.heap.size 46 EL N), Fact.eq ?rax9, Fact.eq ?rax10, Fact.eq ?rax11, Fact.eq ?rax12, Fact.of (CSl w.heap.size 3 LL M) (CSl.st w.heap.size 3 LL M), Fact.of (CMap w.heap.size g EL LL N M) (CMap.st w.heap.size g EL LL N M), Fact.of (CPtr w.heap.size g EL LL N M) (CPtr.st w.heap.size g EL LL N M)] ?raA (by kernel_rfl) (by kernel_rfl) ?rahA ?raho ?rahend
  case rahA =>
    intro vv
    simp only [putRules, Nat.reduceAdd]
    rfl
  case raho =>
    refine ⟨?_, ?_, ?_, ?_, ?_, ?_, ?_, ?_, ?_, ?_, ?_, ?_, ?_, ?_, ?_, ?_, trivial⟩
    · intro vv W K hB hd HK
      simp only [confRules, copyRules] at HK
      clear hd
      go_wp2
      refine HK.out _ _ (Below.refl _ _) ?_
      rfl
    · intro vv W K hB hd HK
      simp only [confRules, copyRules] at hd HK
      have h0 := hd
      clear hd
      simp only [h0] at HK ⊢
      clear h0
      go_wp2
      refine HK.out _ _ (Below.refl _ _) ?_
      rfl
    · intro vv W K hB hd HK
      simp only [confRules, copyRules] at hd HK
      have h1 := hd
      clear hd
      simp only [h1] at HK ⊢
      clear h1
      go_wp2
      refine HK.out _ _ (Below.refl _ _) ?_
      rfl
    · intro vv W K hB hd HK
      simp only [confRules, copyRules] at hd HK
      have h2 := hd
      clear hd
      simp only [h2] at HK ⊢
      clear h2
      have hcl := HCL.out _ hB
      obtain ⟨a0, a1, a2, a3, a4, a5, a6, a7⟩ := hcl
      go_wp2
      refine HK.out _ _ (Below.refl _ _) ?_
      rfl
    · intro vv W K hB hd HK
      simp only [confRules, copyRules] at HK
      clear hd
      go_wp2
      refine HK.out _ _ (Below.refl _ _) ?_
      rfl
    · intro vv W K hB hd HK
      simp only [confRules, copyRules] at hd HK
      have h4 := hd
      clear hd
      simp only [h4] at HK ⊢
      clear h4
      go_wp2
      refine HK.out _ _ (Below.refl _ _) ?_
      rfl
    · intro vv W K hB hd HK
      simp only [confRules, copyRules] at hd HK
      have h5 := hd
      clear hd
      simp only [h5] at HK ⊢
      clear h5
      go_wp2
      refine HK.out _ _ (Below.refl _ _) ?_
      rfl
    · intro vv W K hB hd HK
      simp only [confRules, copyRules] at hd HK
      have h6 := hd
      clear hd
      simp only [h6] at HK ⊢
      clear h6
      have hcl := HCL.out _ hB
      obtain ⟨a0, a1, a2, a3, a4, a5, a6, a7⟩ := hcl
      go_wp2
      refine HK.out _ _ (Below.refl _ _) ?_
      rfl
    · intro vv W K hB hd HK
      simp only [confRules, copyRules] at hd HK
      have h7 := hd
      clear hd
      simp only [h7] at HK ⊢
      clear h7
      go_wp2_with (refine (HE.out _ hB).mono ?_; rintro e w9 ⟨v, rfl, hv, hB9⟩)
      exact HK.out _ _ hB9 hv
    · intro vv W K hB hd HK
      simp only [confRules, copyRules] at HK
      clear hd
      go_wp2
      refine HK.out _ _ (Below.refl _ _) ?_
      rfl
    · intro vv W K hB hd HK
      simp only [confRules, copyRules] at hd HK
      have h9 := hd
      clear hd
      simp only [h9] at HK ⊢
      clear h9
      go_wp2
      refine HK.out _ _ (Below.refl _ _) ?_
      rfl
    · intro vv W K hB hd HK
      simp only [confRules, copyRules] at hd HK
      have h10 := hd
      clear hd
      simp only [h10] at HK ⊢
      clear h10
      go_wp2
      refine HK.out _ _ (Below.refl _ _) ?_
      rfl
    · intro vv W K hB hd HK
      simp only [confRules, copyRules] at hd HK
      have h11 := hd
      clear hd
      simp only [h11] at HK ⊢
      clear h11
      have hcl := HCL.out _ hB
      obtain ⟨a0, a1, a2, a3, a4, a5, a6, a7⟩ := hcl
      go_wp2
      refine HK.out _ _ (Below.refl _ _) ?_
      rfl
    · intro vv W K hB hd HK
      simp only [confRules, copyRules] at hd HK
      obtain ⟨h12, ⟨b8, c8, h8, r8⟩⟩ := hd
      simp only [h12, h8] at HK ⊢
      clear h12 h8
      go_wp2_with (refine (HL.out _ hB).mono ?_; rintro e w9 ⟨v, rfl, hv, hB9⟩)
      exact HK.out _ _ hB9 hv
    · intro vv W K hB hd HK
      simp only [confRules, copyRules] at hd HK
      obtain ⟨h3, ⟨b8, c8, h8, r8⟩, ⟨b13, c13, h13, r13⟩⟩ := hd
      simp only [h3, h8, h13] at HK ⊢
      clear h3 h8 h13
      unfold GC
      go_wp2
      refine HK.out _ _ (Below.refl _ _) ?_
      exact ⟨_, _, _, _, rfl, r8, r13⟩
    · intro vv W K hB hd HK
      simp only [confRules, copyRules] at hd HK
      obtain ⟨q1, q2, q3, q4, h14, r1, r2⟩ := hd
      simp only [h14] at HK ⊢
      clear h14
      go_wp2
      refine HK.out _ _ ((Below.refl _ _).alloc (Nat.le_refl _) _) ?_
      have hbb := (Below.refl W.heap.size W).alloc (Nat.le_refl _) (.cells (mapC g q1 N q2 q3 M q4) 110)
      exact ⟨_, _, _, _, _, rfl, hB.size, heap_alloc_new _ _, r1.below hbb, r2.below hbb⟩
  case rahend =>
    intro vv W hB hf
    have hp := hf 15 (by decide)
    simp only [endRules, copyRules] at hp
    obtain ⟨p', b, c1, c, c2, hv, h0, hp, ⟨k1, k2, k3, cur1, k4, k5⟩, ⟨l1, l2, l3, cur2, l4, l5⟩⟩ := hp
    simp only [dropRules, hv]
    clear hf
    obtain ⟨n1, n2, n3, n4⟩ := HNM.out
    have HR : Hid (BmIs W p' b c c1 c2 g es lv) := Lib.hid ⟨by rw [n1, n2]; exact hp, ⟨cur1, k4, by rw [n3, ← k5, ← n3, flatE_length]⟩, ⟨cur2, l4, by rw [n4, ← l5, ← n4, List.length_map]⟩, ⟨by omega, by omega⟩, ⟨by omega, by omega⟩⟩
    clear hp k2 k3 k4 k5 l2 l3 l4 l5 n1 n2 n3 n4 HNM HE HL HCL
    go_wp2
    go_ret
    exact ⟨p', b, c, c1, c2, rfl, HR.out, h0, k1, l1, hB⟩
end Go.Proofs.Ytjnneoejnpephaa
namespace Go.Proofs.Ytjnneoejnpephaa
open Go.RowKit Go.Rv Go.Sort Go.Shelf
set_option linter.unusedVariables false
theorem sort_held (blk off cap : Nat) (zs : List Int) (w : World) (hH : Holds (Value.int .i64) w blk off zs.toArray) (hblk : blk < w.heap.size) (hsz : zs.length < 4611686018427387904) :
    Calls Try.prog 66 #[.slice (some ⟨blk, off, none⟩) zs.length cap] w fun e w' => e = .returned (.tuple #[]) ∧ ∃ n os, w' = grow (putRow (Value.int .i64) (Sort.ahead w n) blk off (zs.mergeSort fun x y => decide (x ≤ y)).toArray) os :=
  calls_of_every_depth fun D => AnyS.slices_Sort_int_in Try.lays189 D blk off cap zs w hH hblk hsz
theorem sort_none (p : Option Addr) (cap : Nat) (w : World) : Calls Try.prog 66 #[.slice p 0 cap] w fun e w' => e = .returned (.tuple #[]) ∧ w' = w :=
  Any.slices_Sort_int_none Try.lays189 p cap w
def sortedI (xs : List Int) : List Int := xs.mergeSort fun x y => decide (x ≤ y)
theorem sortedI_length (xs : List Int) : (sortedI xs).length = xs.length := by unfold sortedI; rw [List.length_mergeSort]
theorem sort_own {w : World} {base : Nat} {v : Value} {xs : List Int} (h : OwnM w 3 1 iC (fun _ => True) base v xs) (hl : xs.length ≤ 100000) :
    Calls Try.prog 66 #[v] w fun e w' => e = .returned (.tuple #[]) ∧ OwnM w' 3 1 iC (fun _ => True) base v (sortedI xs) ∧ w.grownBy w' v.ownBlock := by
  obtain ⟨⟨h1, hr⟩, hq⟩ := h
  rcases hr with ⟨rfl, hn⟩ | ⟨g, cap, cur, rfl, hb, hg, hnc, hcm, hcs, htake⟩
  · have h0 : xs = [] := List.eq_nil_of_length_eq_zero hn
    subst h0
    refine (sort_none none 0 w).mono ?_
    rintro e w' ⟨rfl, rfl⟩
    exact ⟨rfl, by rw [show sortedI [] = [] from by simp [sortedI]]; exact OwnM.nil _ _ _ _ _ _, ⟨rfl, rfl, rfl, Nat.le_refl _, fun _ _ _ => rfl⟩⟩
  · rw [flat_iC, Nat.mul_one] at htake
    have hH := holds_of_blockI hg htake
    have hlt := (Array.getElem?_eq_some_iff.1 hg).1
    refine (sort_held g 0 cap xs w hH hlt (by omega)).mono ?_
    rintro e w' ⟨rfl, n, os, rfl⟩
    refine ⟨rfl, ⟨?_, by simp⟩, grownBy_sortedI _⟩
    have hk := ownsRow_sortedI (n := n) (os := os) (ts := sortedI xs) (sortedI_length xs) hb hg hnc hcm hcs
    rw [flat_iC, sortedI_length]
    exact hk
end Go.Proofs.Ytjnneoejnpephaa
namespace Go.Proofs.Ytjnneoejnpephaa
open Go.RowKit Go.Rv
set_option linter.unusedVariables false
attribute [local go_sem] Oper.semAt_some
theorem Try.infoInt3 : (Try.prog.info? 3).map (fun i => (i.zero, i.size, i.bytes)) = some (some (.int .i64 0), 1, 8) := by kernel_rfl
/-- a copy in a block of its own: its cells -/
theorem co_cells {w : World} {g : Nat} {c : Int × Int} {t : TypeId} (h : w.heap[g]? = some (.cells (CC c) t (0, 0))) : w.cell? ⟨g, 0, none⟩ = some (.int .i64 c.1) ∧ w.cell? ⟨g, 1, none⟩ = some (.int .i64 c.2) :=
  ⟨(cell_of_row _ _ _ _ _ _ h).trans rfl, (cell_of_row _ _ _ _ _ _ h).trans rfl⟩
theorem co_range {w : World} {a : Option Addr} {l : List (Int × Int)} (hI : RowOf w 5 CC (fun _ => True) a l) {k : Nat} {c : Int × Int} (hk : l[k]? = some c) : ∃ b o, a = some ⟨b, o, none⟩ ∧ b < w.heap.size ∧ w.rangeAt b (o + k * 5) (CC c).toList := by
  obtain ⟨b, o, rfl, hb, hc, -⟩ := hI.at hk
  refine ⟨b, o, rfl, hb, fun j v hv => ?_⟩
  have hj : j < 5 := by
    have := (List.getElem?_eq_some_iff.1 hv).1
    simpa [CC] using this
  rw [hc j hj, ← Array.getElem?_toList, hv]
theorem add_one_int (W : World) (t : TypeId) (z : Int) : RowOf (W.alloc (.cells #[.int .i64 z] t)) 1 iC (fun _ => True) (some ⟨W.heap.size, 0, none⟩) [z] := one_rowOf (fr := (0, 0)) (heap_alloc_new W _) trivial
set_option maxRecDepth 100000 in
set_option maxHeartbeats 4000000 in
theorem kholders_any (w : World) (a : Option Addr) (l : List (Int × Int)) (cap : Nat) (gen : Int) (hI : RowOf w 5 CC (fun _ => True) a l) (hl : l.length ≤ 1000) :
    Calls Try.prog 37 #[.slice a l.length cap, .int .i64 gen] w fun e w' => ∃ v, e = .returned v ∧ OwnM w' 3 1 iC (fun _ => True) w.heap.size v (Ck.holders l gen) ∧ Below w.heap.size w w' := by
  have hz := (zero_of_info Try.infoCo).1
  have HI := Lib.hid hI
  have HIC := Lib.hid (fun c => coSize c)
  have HIL : Hid (∀ c : Int × Int, (Try.prog.info? 81).map (·.size) = some (CC c).toList.length) := Lib.hid (fun c => coSize c)
  have HON := Lib.hid (fun c => kinC.one c trivial)
  have HZC : Hid (∀ c : Int × Int, (CC (0, 0)).size = (CC c).size) := Lib.hid (fun c => rfl)
  have HSO := Lib.hid (fun (W : World) (v : Value) (xs : List Int) (h : OwnM W 3 1 iC (fun _ => True) w.heap.size v xs) (hh : xs.length ≤ 100000) => sort_own h hh)
  have HCE := Lib.hid (fun (W : World) (g : Nat) (c : Int × Int) (h : W.heap[g]? = some (.cells (CC c) 81 (0, 0))) => co_cells h)
  obtain ⟨m, hm⟩ : ∃ m, l.length = m := ⟨_, rfl⟩
  have HM := Lib.hid hm
  rw [hm] at hl ⊢
  clear hI hm
  go_enter Try.func37, Try.ntmps37
  go_wp2
  go_loopw [5, 10] (fun v u wr => ∃ k : Nat, k ≤ m ∧ u = .int .i64 k ∧ OwnM wr 3 1 iC (fun _ => True) w.heap.size v (Ck.zonesOf (l.take k) gen) ∧ Below w.heap.size w wr) (fun _ u _ => m - (intOf u).toNat)
  case atStart => exact ⟨0, Nat.zero_le _, rfl, OwnM.nil _ _ _ _ _ _, Below.refl _ _⟩
  case round =>
    obtain ⟨k, hk, rfl, hown, hBr⟩ := hrel
    have zr := hBr.size
    have HBR := Lib.hid hBr
    have HOW := Lib.hid hown
    clear hBr hown
    by_cases hlt : k < m
    · obtain ⟨x, hx⟩ : ∃ x, l[k]? = some x := ⟨_, List.getElem?_eq_getElem (by rw [HM.out]; exact hlt)⟩
      obtain ⟨b, o, rfl, hb, hrg⟩ := co_range (HI.out.below HBR.out) hx
      have HRG := Lib.hid hrg
      have HLK : Hid ((Ck.zonesOf (l.take k) gen).length ≤ 1000) := Lib.hid (by have := Ck.zonesOf_le (l.take k) gen; simp at this; omega)
      have hst : Ck.zonesOf (l.take (k + 1)) gen = if x.2 = gen then Ck.zonesOf (l.take k) gen ++ [x.1] else Ck.zonesOf (l.take k) gen := by
        rw [List.take_add_one, hx]
        exact Ck.zonesOf_snoc _ _ _
      obtain ⟨W9, hW9⟩ : ∃ W9, wr.alloc (.cells (CC x) 81) = W9 := ⟨_, rfl⟩
      have hb9 : Below wr.heap.size wr W9 := by rw [← hW9]; exact (Below.refl _ _).alloc (Nat.le_refl _) _
      have hF9 : W9.heap[wr.heap.size]? = some (.cells (CC x) 81 (0, 0)) := by rw [← hW9]; exact heap_alloc_new wr _
      obtain ⟨c0, c1⟩ := HCE.out W9 wr.heap.size x hF9
      have HB9 := Lib.hid (HBR.out.trans (hb9.mono zr))
      have HOW9 := Lib.hid (HOW.out.below hb9)
      have HW9 := Lib.hid hW9
      obtain ⟨z, g2⟩ := x
      simp only at c0 c1 hst
      clear hx hrg hW9 hb9 hF9
      have hcase : ((g2 == gen) = true ∧ Ck.zonesOf (l.take (k + 1)) gen = Ck.zonesOf (l.take k) gen ++ [z]) ∨ ((g2 == gen) = false ∧ Ck.zonesOf (l.take (k + 1)) gen = Ck.zonesOf (l.take k) gen) := by
        by_cases h : g2 = gen
        · exact .inl ⟨by simp [h], by rw [hst, if_pos h]⟩
        · exact .inr ⟨by simp [h], by rw [hst, if_neg h]⟩
      clear hst
      rcases hcase with ⟨t1, hst⟩ | ⟨t1, hst⟩
      · have HST := Lib.hid hst
        have z9 := HB9.out.size
        have HB10 := Lib.hid ((Below.refl W9.heap.size W9).alloc (Nat.le_refl _) (.cells #[.int .i64 z] 3))
        have HOW10 := Lib.hid (HOW9.out.below HB10.out)
        have HR10 := Lib.hid (add_one_int W9 3 z)
        clear hst
        go_upto_region 5 with (first | (refine wpList_load_mid rfl 81 _ rfl b (o + k * 5) rfl (CC (z, g2)).toList _ HRG.out Try.underlying81 rfl (HIL.out _) ?_) | (refine wpList_store_row rfl 81 _ _ rfl wr.heap.size (CC (z, g2)) rfl rfl 81 (CC (0, 0)) (heap_alloc_new wr _) (HIC.out _) (HZC.out _) (HON.out _) ?_; rw [World.setRow_alloc_new]))
        rw [HW9.out, put_none]
        go_wp2_with (at_builtin; refine wpList_appendM rfl (.tmp 19) (.tmp 22) 59 rfl 3 1 iC (fun _ => True) kinI (by decide) (.int .i64 0) 8 Try.underlying59 Try.infoInt3 rfl w.heap.size _ (Ck.zonesOf (l.take k) gen) rfl HOW10.out (some ⟨W9.heap.size, 0, none⟩) 1 [z] (by rfl) HR10.out (by simp) (by have := HLK.out; unfold maxLen; simp; omega) (by have := HLK.out; simp; omega) (by simp; omega) ?_; intro v11 w11 hv11 hg11 _; have hB11 := (HB9.out.trans (HB10.out.mono HB9.out.size)).trans (HOW10.out.grown hg11 (by simp; omega)))
        rw [← HST.out] at hv11
        exact ⟨⟨k + 1, by omega, by go_num, hv11, hB11⟩, by simp [intOf]; omega⟩
      · have HST := Lib.hid hst
        clear hst
        go_upto_region 5 with (first | (refine wpList_load_mid rfl 81 _ rfl b (o + k * 5) rfl (CC (z, g2)).toList _ HRG.out Try.underlying81 rfl (HIL.out _) ?_) | (refine wpList_store_row rfl 81 _ _ rfl wr.heap.size (CC (z, g2)) rfl rfl 81 (CC (0, 0)) (heap_alloc_new wr _) (HIC.out _) (HZC.out _) (HON.out _) ?_; rw [World.setRow_alloc_new]))
        rw [HW9.out, put_none]
        go_wp2
        exact ⟨⟨k + 1, by omega, by go_num, by rw [HST.out]; exact HOW9.out, HB9.out⟩, by simp [intOf]; omega⟩
    · obtain rfl : k = m := by omega
      have HFIN : Hid (Ck.zonesOf (l.take k) gen = Ck.zonesOf l gen) := Lib.hid (by rw [List.take_of_length_le (by rw [HM.out]; exact Nat.le_refl _)])
      have hown := HOW.out
      rw [HFIN.out] at hown
      have hso := HSO.out wr _ _ hown (by have := Ck.zonesOf_le l gen; rw [HM.out] at this; omega)
      have HSO2 := Lib.hid hso
      have HOG := Lib.hid (fun w' (hg : wr.grownBy w' _) => hown.grown hg zr)
      clear hown hso
      go_wp2_with fail
      refine HSO2.out.mono ?_
      rintro e2 w2 ⟨rfl, ho2, hg2⟩
      have hB2 := HBR.out.trans (HOG.out w2 hg2)
      have HO2 := Lib.hid ho2
      clear ho2
      go_wp2
      go_ret
      exact ⟨_, rfl, HO2.out, hB2⟩
end Go.Proofs.Ytjnneoejnpephaa
namespace Go.Proofs.Ytjnneoejnpephaa
open Go.RowKit Go.Rv
set_option linter.unusedVariables false
attribute [local go_sem] Oper.semAt_some
theorem Try.infoCo3 : (Try.prog.info? 81).map (fun i => (i.zero, i.size, i.bytes)) = some (some (.agg (CC (0, 0))), 5, 40) := by kernel_rfl
theorem filled_co1 (x : Int × Int) (ie : Array Value) (h0 : ie = CC (0, 0)) : Instr.fill (fun i => some (i * 5, 5)) ((Array.range (1 * 5)).map (ie[· % 5]!)) [(0, .agg (CC x))] = some (CC x) := by
  subst h0
  kernel_rfl
theorem wpList_slice1c {w : World} {ops : Array Oper} {rest : List Oper} {o : Oper} {a : Act} {Q : Exit → Act → World → Prop} (hg : o.guard = none) (x : Operand) (ho : o.op = .buildSlice 79 1 #[(0, x)]) (c : Int × Int) (hx : a.eval x = .agg (CC c))
    (h : wpList Try.prog ops Q rest (a.put o.dst (.slice (some ⟨w.heap.size, 0, none⟩) 1 1)) (w.alloc (.cells (CC c) 81))) : wpList Try.prog ops Q (o :: rest) a w := by
  have hi := Try.infoCo
  cases hie : Try.prog.info? 81 with
  | none => rw [hie] at hi; cases hi
  | some ie =>
    rw [hie, Option.map_some, Option.some.injEq, Prod.mk.injEq] at hi
    obtain ⟨hz, hs⟩ := hi
    refine wpList_buildSlice hg 79 81 1 #[(0, x)] ho (CC c) ie (.agg (CC (0, 0))) Try.underlying79 hie hz (by rw [hs]; decide) (by rw [hs]; decide) ?_ h
    rw [hs]
    have h1 := filled_co1 c _ rfl
    simp only [List.map_toArray, List.map_cons, List.map_nil, hx]
    exact h1
set_option maxRecDepth 100000 in
set_option maxHeartbeats 16000000 in
theorem ck_votes_core (w : World) (a1 a2 : Option Addr) (l1 l2 : List Int) (c1 c2 : Nat) (gen : Int) (hI1 : Ints w a1 l1) (hI2 : Ints w a2 l2) (hl1 : l1.length ≤ 60) (hl2 : l2.length ≤ 60) :
    Calls Try.prog 10 #[.slice a1 l1.length c1, .slice a2 l2.length c2, .int .i64 gen] w fun e w' => e = .returned (.bool true) ∧ Below w.heap.size w w' := by
  have HA := Lib.hid (fun W => ck_anchor W)
  have HI1 := Lib.hid hI1
  have HI2 := Lib.hid hI2
  have hz := (zero_of_info Try.infoCo).1
  have HIC := Lib.hid (fun c => coSize c)
  have HIL : Hid (∀ c : Int × Int, (Try.prog.info? 81).map (·.size) = some (CC c).toList.length) := Lib.hid (fun c => coSize c)
  have HON := Lib.hid (fun c => kinC.one c trivial)
  have HZC : Hid (∀ c : Int × Int, (CC (0, 0)).size = (CC c).size) := Lib.hid (fun c => rfl)
  have HCE := Lib.hid (fun (W : World) (g : Nat) (c : Int × Int) (h : W.heap[g]? = some (.cells (CC c) 81 (0, 0))) => co_cells h)
  have HHO := Lib.hid (fun (W : World) a l cap hI hl => kholders_any W a l cap gen hI hl)
  have HVN := Lib.hid (fun (W : World) (a : Option Addr) (cap : Nat) => kvote_nil W a cap)
  have HVC := Lib.hid (fun (W : World) a c r cap hI hl => kvote_cons W a c r cap hI hl)
  obtain ⟨m, hm⟩ : ∃ m, min l1.length l2.length = m := ⟨_, rfl⟩
  have hmi : min (l1.length : Int) (l2.length : Int) = (m : Int) := by omega
  have HM1 : Hid (m ≤ l1.length ∧ m ≤ l2.length ∧ m ≤ 60) := Lib.hid (by omega)
  have t1 : decide (60 < (l1.length : Int)) = false := decide_eq_false (by omega)
  have t2 : decide (60 < (l2.length : Int)) = false := decide_eq_false (by omega)
  have HZL : Hid ((Ck.pairs l2 l1).length = m) := Lib.hid (by unfold Ck.pairs; rw [List.length_zip]; omega)
  obtain ⟨ps, hps⟩ : ∃ ps, Ck.pairs l2 l1 = ps := ⟨_, rfl⟩
  have HPS := Lib.hid hps
  have hzl := HZL.out
  rw [hps] at hzl
  have HPL := Lib.hid hzl
  obtain ⟨n1, hn1⟩ : ∃ n, l1.length = n := ⟨_, rfl⟩
  obtain ⟨n2, hn2⟩ : ∃ n, l2.length = n := ⟨_, rfl⟩
  have HN := Lib.hid (And.intro hn1 hn2)
  rw [hn1, hn2] at hmi ⊢
  rw [hn1] at t1
  rw [hn2] at t2
  clear hI1 hI2 hm hps hzl hn1 hn2 hl1 hl2
  go_enter Try.func10, Try.ntmps10
  go_wp2_with fail
  refine (HA.out _).mono ?_
  rintro e1 w1 ⟨rfl, hB1⟩
  have HB1 := Lib.hid hB1
  clear hB1
  go_wp2
  try rw [hmi]
  clear hmi t1 t2
  go_loopw [7, 37] (fun x u wr => ∃ (k : Nat) (v : Value), k ≤ m ∧ u = .int .i64 k ∧ v = x ∧ OwnM wr 81 5 CC (fun _ => True) w1.heap.size v (ps.take k) ∧ Below w1.heap.size w1 wr) (fun _ u _ => m - (intOf u).toNat)
  case atStart => exact ⟨0, _, Nat.zero_le _, rfl, rfl, OwnM.nil _ _ _ _ _ _, Below.refl _ _⟩
  case round =>
    obtain ⟨k, v, hk, rfl, rfl, hown, hBr⟩ := hrel
    have zr := hBr.size
    have HBR := Lib.hid hBr
    have HOW := Lib.hid hown
    clear hBr hown
    by_cases hlt : k < m
    · obtain ⟨bz, oz, z, rfl, -, hz1, -, -, hz2⟩ := ((HI2.out.below HB1.out).below HBR.out).at (k := k) (by have := HM1.out; omega)
      obtain ⟨bg, og, x, rfl, -, hg1, -, -, hg2⟩ := ((HI1.out.below HB1.out).below HBR.out).at (k := k) (by have := HM1.out; omega)
      have hx : ps[k]? = some (z, x) := by rw [← HPS.out]; unfold Ck.pairs; rw [List.getElem?_zip_eq_some]; exact ⟨hz2, hg2⟩
      have HCZ : Hid (∀ W, Below wr.heap.size wr W → W.cell? ⟨bz, oz + k, none⟩ = some (.int .i64 z)) := Lib.hid (fun W hB => (hB.cell (Nat.lt_of_lt_of_le (block_lt_of_cell hz1) (Nat.le_refl _))).trans hz1)
      have HCG : Hid (∀ W, Below wr.heap.size wr W → W.cell? ⟨bg, og + k, none⟩ = some (.int .i64 x)) := Lib.hid (fun W hB => (hB.cell (Nat.lt_of_lt_of_le (block_lt_of_cell hg1) (Nat.le_refl _))).trans hg1)
      have HST : Hid (ps.take (k + 1) = ps.take k ++ [(z, x)]) := Lib.hid (by rw [List.take_add_one, hx]; rfl)
      have HLK : Hid ((ps.take k).length ≤ 60) := Lib.hid (by rw [List.length_take]; have := HM1.out; omega)
      have hk1 : k < n1 := by have := HM1.out; have := HN.out; omega
      have hk2 : k < n2 := by have := HM1.out; have := HN.out; omega
      have hfit : (k : Int) < 9223372036854775807 := by have := HM1.out; omega
      have HBS := Lib.hid (built_sng x)
      have HBC := Lib.hid (built_cog z x)
      clear hz1 hz2 hg1 hg2 hx
      go_wp2_with fail
      refine wp_region_conf2 12 [Fact.eq v, Fact.eq (.slice (some ⟨bz, oz, none⟩) n2 c2), Fact.eq (.int .i64 k), Fact.eq (.pointer (some ⟨bz, oz + k, none⟩)), Fact.eq (.int .i64 z), Fact.eq (.slice (some ⟨bg, og, none⟩) n1 c1), Fact.eq (.int .i64 k), Fact.eq (.pointer (some ⟨bg, og + k, none⟩)), Fact.eq (.int .i64 x), Fact.eq (.agg #[.int .i64 x, .int .i64 0, .int .i64 0, .pointer none]), Fact.eq (.agg (CC (z, x))), Fact.rowI wr.heap.size (CC (z, x)) 1 81] ?raA (by kernel_rfl) (by kernel_rfl) ?rahA ?raho ?rahend
      case rahA =>
        intro vv
        simp only [putRules, Nat.reduceAdd]
        rfl
      case raho =>
        refine ⟨?_, ?_, ?_, ?_, ?_, ?_, ?_, ?_, ?_, ?_, ?_, ?_, trivial⟩
        · intro vv W K hB hd HK
          simp only [confRules] at HK
          clear hd
          go_wp2
          refine HK.out _ _ (Below.refl _ _) ?_
          rfl
        · intro vv W K hB hd HK
          simp only [confRules] at HK
          clear hd
          go_wp2
          refine HK.out _ _ (Below.refl _ _) ?_
          rfl
        · intro vv W K hB hd HK
          simp only [confRules] at HK
          clear hd
          go_wp2
          refine HK.out _ _ (Below.refl _ _) ?_
          rfl
        · intro vv W K hB hd HK
          simp only [confRules] at hd HK
          obtain ⟨h1, h2⟩ := hd
          simp only [h1, h2] at HK ⊢
          clear h1 h2
          go_wp2
          refine HK.out _ _ (Below.refl _ _) ?_
          rfl
        · intro vv W K hB hd HK
          simp only [confRules] at hd HK
          have h3 := hd
          clear hd
          simp only [h3] at HK ⊢
          clear h3
          have c9 := HCZ.out W hB
          go_wp2
          refine HK.out _ _ (Below.refl _ _) ?_
          rfl
        · intro vv W K hB hd HK
          simp only [confRules] at HK
          clear hd
          go_wp2
          refine HK.out _ _ (Below.refl _ _) ?_
          rfl
        · intro vv W K hB hd HK
          simp only [confRules] at HK
          clear hd
          go_wp2
          refine HK.out _ _ (Below.refl _ _) ?_
          rfl
        · intro vv W K hB hd HK
          simp only [confRules] at hd HK
          obtain ⟨h5, h6⟩ := hd
          simp only [h5, h6] at HK ⊢
          clear h5 h6
          go_wp2
          refine HK.out _ _ (Below.refl _ _) ?_
          rfl
        · intro vv W K hB hd HK
          simp only [confRules] at hd HK
          have h7 := hd
          clear hd
          simp only [h7] at HK ⊢
          clear h7
          have c9 := HCG.out W hB
          go_wp2
          refine HK.out _ _ (Below.refl _ _) ?_
          rfl
        · intro vv W K hB hd HK
          simp only [confRules] at hd HK
          have h8 := hd
          clear hd
          simp only [h8] at HK ⊢
          clear h8
          go_wp2_with (refine wpList_build_on (by rfl) 28 _ rfl #[(0, .int .i64 x)] (by simp [Act.eval, Act.put]) _ HBS.out ?_)
          refine HK.out _ _ (Below.refl _ _) ?_
          rfl
        · intro vv W K hB hd HK
          simp only [confRules] at hd HK
          obtain ⟨h4, h9⟩ := hd
          simp only [h4, h9] at HK ⊢
          clear h4 h9
          go_wp2_with (refine wpList_build_on (by rfl) 81 _ rfl #[(0, .int .i64 z), (1, .agg #[.int .i64 x, .int .i64 0, .int .i64 0, .pointer none])] (by simp [Act.eval, Act.put]) _ HBC.out ?_)
          refine HK.out _ _ (Below.refl _ _) ?_
          rfl
        · intro vv W K hB hd HK
          simp only [confRules] at hd HK
          have h10 := hd
          clear hd
          simp only [h10] at HK ⊢
          clear h10
          refine wpList_slice1c rfl (.tmp 50) rfl (z, x) rfl ?_
          refine HK.out _ _ ((Below.refl _ _).alloc (Nat.le_refl _) _) ?_
          exact ⟨_, rfl, hB.size, heap_alloc_new _ _⟩
      case rahend =>
        intro vv W hB hf
        have e0 := hf 0 (by decide)
        obtain ⟨g11, e11, l11, r11⟩ := hf 11 (by decide)
        simp only [endRules] at e0
        simp only [e0, e11, dropRules]
        clear hf e0 e11
        have zW := hB.size
        have HB9 := Lib.hid (HBR.out.trans (hB.mono zr))
        have HOW9 := Lib.hid (HOW.out.below hB)
        have HR9 : Hid (RowOf W 5 CC (fun _ => True) (some ⟨g11, 0, none⟩) [(z, x)]) := Lib.hid (one_rowOf (t := 81) (fr := (0, 0)) r11 trivial)
        clear r11 hB
        go_wp2_with (at_builtin; refine wpList_appendM rfl (.tmp 40) (.tmp 51) 79 rfl 81 5 CC (fun _ => True) kinC (by decide) (.agg (CC (0, 0))) 40 Try.underlying79 Try.infoCo3 rfl w1.heap.size _ (ps.take k) rfl HOW9.out (some ⟨g11, 0, none⟩) 1 [(z, x)] (by rfl) HR9.out (by simp) (by have := HLK.out; unfold maxLen; simp at this ⊢; omega) (by have := HLK.out; simp at this ⊢; omega) (by omega) ?_; intro v13 w13 hv13 hg13 _; have hB13 := HB9.out.trans (HOW9.out.grown hg13 (by omega)))
        rw [← HST.out] at hv13
        exact ⟨⟨k + 1, _, by omega, by go_num, rfl, hv13, hB13⟩, by simp [intOf]; omega⟩
    · obtain rfl : k = m := by omega
      have hown := HOW.out
      rw [List.take_of_length_le (by rw [HPL.out]; exact Nat.le_refl _)] at hown
      obtain ⟨a2x, c2x, rfl, hr2, -, -, -, -⟩ := hown.shape kinC
      have HR2 := Lib.hid hr2
      have HB2 := Lib.hid (HB1.out.trans (HBR.out.mono HB1.out.size))
      have hm60 : k ≤ 60 := HM1.out.2.2
      have hplen := HPL.out
      rw [hplen]
      clear hown hr2 HI1 HI2 HPS HZL
      cases ps with
      | nil =>
        have h0 : 0 = k := hplen
        subst h0
        go_wp2_with fail
        refine (HVN.out _ _ _).mono ?_
        rintro e3 w3 ⟨rfl, hB3⟩
        have z3 := hB3.size
        have hb4 : Below wr.heap.size wr (w3.alloc (.cells (CC (0, 0)) 81)) := hB3.alloc z3 _
        obtain ⟨W4, hW4⟩ : ∃ W, w3.alloc (.cells (CC (0, 0)) 81) = W := ⟨_, rfl⟩
        rw [hW4] at hb4
        have HW4 := Lib.hid hW4
        have HB4 := Lib.hid (HB2.out.trans (hb4.mono HB2.out.size))
        have HHO4 := Lib.hid (HHO.out W4 a2x [] c2x (RowOf.nil _ _ _ _ _) (by simp))
        clear hB3 hb4 hW4
        go_upto_region 12 with (refine wpList_store_row rfl 81 _ _ rfl w3.heap.size (CC (0, 0)) rfl rfl 81 (CC (0, 0)) (heap_alloc_new w3 _) (HIC.out _) (HZC.out _) (HON.out _) ?_; rw [World.setRow_alloc_new])
        rw [HW4.out]
        go_wp2_with fail
        refine HHO4.out.mono ?_
        rintro e5 w5 ⟨v5, rfl, ho5, hB5⟩
        obtain ⟨a5, c5, rfl, -, -, -, -, -⟩ := ho5.shape kinI
        have HB5 := Lib.hid (HB4.out.trans (hB5.mono HB4.out.size))
        have hlen0 : (Ck.holders [] gen).length = 0 := by rw [Ck.holders_length]; rfl
        rw [hlen0]
        clear ho5 hB5 hlen0
        go_wp2
        go_ret
        exact ⟨rfl, HB5.out⟩
      | cons c r =>
        have hrl : r.length + 1 = k := hplen
        obtain ⟨bst, hbst⟩ : ∃ b, r.foldl Ck.better c = b := ⟨_, rfl⟩
        have hmax := Ck.vote_max (l := c :: r) (c := c) (r := r) rfl
        rw [hbst] at hmax
        have HMEM := Lib.hid hmax.1
        have HMAX := Lib.hid hmax.2
        have hvc := HVC.out wr a2x c r c2x HR2.out (by omega)
        rw [hbst, hrl] at hvc
        have HVC2 := Lib.hid hvc
        obtain ⟨ps, hps⟩ : ∃ ps, c :: r = ps := ⟨_, rfl⟩
        rw [hps] at HR2 HMEM HMAX hplen
        have HPL2 := Lib.hid hplen
        have t0 : (k == 0) = false := beq_false_of_ne (by omega)
        have t0i : ((k : Int) == 0) = false := beq_false_of_ne (by omega)
        have T0 := Lib.hid (And.intro t0 t0i)
        clear t0 t0i
        clear hmax hvc hbst hps hrl HVC HVN HPL hplen
        go_wp2_with fail
        refine HVC2.out.mono ?_
        rintro e3 w3 ⟨rfl, hB3⟩
        have z3 := hB3.size
        have hb4 : Below wr.heap.size wr (w3.alloc (.cells (CC bst) 81)) := hB3.alloc z3 _
        obtain ⟨W4, hW4⟩ : ∃ W, w3.alloc (.cells (CC bst) 81) = W := ⟨_, rfl⟩
        rw [hW4] at hb4
        have hC4 : W4.heap[w3.heap.size]? = some (.cells (CC bst) 81 (0, 0)) := by rw [← hW4]; exact heap_alloc_new w3 _
        have zC4 : w3.heap.size < W4.heap.size := (Array.getElem?_eq_some_iff.1 hC4).1
        have HC4 := Lib.hid hC4
        have HW4 := Lib.hid hW4
        have HB4 := Lib.hid (HB2.out.trans (hb4.mono HB2.out.size))
        have HR4 := Lib.hid (HR2.out.below hb4)
        obtain ⟨t0, t0i⟩ := T0.out
        clear hB3 hb4 hW4 hC4
        go_upto_region 12 with (refine wpList_store_row rfl 81 _ _ rfl w3.heap.size (CC bst) rfl rfl 81 (CC (0, 0)) (heap_alloc_new w3 _) (HIC.out _) (HZC.out _) (HON.out _) ?_; rw [World.setRow_alloc_new])
        rw [HW4.out]
        go_wp2
        clear t0 t0i
        go_loopw [11, 12, 73] (fun th nn u wr => ∃ j : Nat, j ≤ k ∧ u = .int .i64 j ∧ th = .bool (Ck.heldIn (ps.take j) bst.1 bst.2) ∧ nn = .int .i64 (Ck.countOf (ps.take j) gen : Nat) ∧ Below W4.heap.size W4 wr) (fun _ _ u _ => k - (intOf u).toNat)
        case atStart => exact ⟨0, Nat.zero_le _, rfl, rfl, rfl, Below.refl _ _⟩
        case round =>
          obtain ⟨j, hj, rfl, rfl, rfl, hBq⟩ := hrel
          have zq := hBq.size
          have HBQ := Lib.hid hBq
          clear hBq
          by_cases hlt : j < k
          · obtain ⟨x, hx⟩ : ∃ x, ps[j]? = some x := ⟨_, List.getElem?_eq_getElem (by rw [HPL2.out]; exact hlt)⟩
            obtain ⟨b, o, rfl, hb, hrg⟩ := co_range ((HR4.out.below HBQ.out)) hx
            have hno := Ck.beats_parts (HMAX.out x (List.mem_of_getElem? hx))
            have hst1 : Ck.heldIn (ps.take (j + 1)) bst.1 bst.2 = (Ck.heldIn (ps.take j) bst.1 bst.2 || (decide (x.1 = bst.1) && decide (x.2 = bst.2))) := by
              rw [List.take_add_one, hx]
              exact Ck.heldIn_snoc _ _ _ _
            have hst2 : Ck.countOf (ps.take (j + 1)) gen = if x.2 = gen then Ck.countOf (ps.take j) gen + 1 else Ck.countOf (ps.take j) gen := by
              unfold Ck.countOf
              rw [List.take_add_one, hx]
              simp only [Option.toList_some]
              rw [Ck.zonesOf_snoc]
              split <;> simp
            have hcnt : Ck.countOf (ps.take j) gen ≤ 60 := by
              have := Ck.zonesOf_le (ps.take j) gen
              rw [List.length_take] at this
              unfold Ck.countOf
              omega
            obtain ⟨xz, xg⟩ := x
            obtain ⟨bz, bg⟩ := bst
            have HRG := Lib.hid hrg
            obtain ⟨W9, hW9⟩ : ∃ W9, wr.alloc (.cells (CC (xz, xg)) 81) = W9 := ⟨_, rfl⟩
            have hb9 : Below wr.heap.size wr W9 := by rw [← hW9]; exact (Below.refl _ _).alloc (Nat.le_refl _) _
            have hF9 : W9.heap[wr.heap.size]? = some (.cells (CC (xz, xg)) 81 (0, 0)) := by rw [← hW9]; exact heap_alloc_new wr _
            obtain ⟨x0, x1⟩ := HCE.out W9 wr.heap.size _ hF9
            obtain ⟨y0, y1⟩ := HCE.out W9 w3.heap.size _ (((HBQ.out.trans (hb9.mono zq)).block _ zC4).trans HC4.out)
            have HB9 := Lib.hid (HBQ.out.trans (hb9.mono zq))
            have HW9 := Lib.hid hW9
            obtain ⟨th, hth⟩ : ∃ th, Ck.heldIn (ps.take j) bz bg = th := ⟨_, rfl⟩
            obtain ⟨th2, hth2⟩ : ∃ th, Ck.heldIn (ps.take (j + 1)) bz bg = th := ⟨_, rfl⟩
            obtain ⟨cn, hcn⟩ : ∃ n, Ck.countOf (ps.take j) gen = n := ⟨_, rfl⟩
            obtain ⟨cn2, hcn2⟩ : ∃ n, Ck.countOf (ps.take (j + 1)) gen = n := ⟨_, rfl⟩
            simp only at hst1 hst2 hno x0 x1 y0 y1 hth hth2
            rw [hth, hth2] at hst1
            rw [hcn, hcn2] at hst2
            rw [hcn] at hcnt
            have HTH2 := Lib.hid hth2
            have HCN2 := Lib.hid hcn2
            simp only [hth, hcn]
            have hB9s := HB9.out
            clear hx hrg hW9 hb9 hF9 hth hth2 hcn hcn2 hb
            have hgc : ((xg == gen) = true ∧ cn2 = cn + 1) ∨ ((xg == gen) = false ∧ cn2 = cn) := by
              by_cases h : xg = gen
              · exact .inl ⟨by simp [h], by rw [hst2, if_pos h]⟩
              · exact .inr ⟨by simp [h], by rw [hst2, if_neg h]⟩
            have hc : ((xg == bg) = false ∧ decide (bg < xg) = false ∧ th2 = th) ∨ (xg = bg ∧ xz = bz ∧ th2 = true) ∨ (xg = bg ∧ decide (xz < bz) = false ∧ (xz == bz) = false ∧ th2 = th) := by
              by_cases h : xg = bg
              · by_cases h2 : xz = bz
                · exact .inr (.inl ⟨h, h2, by rw [hst1]; simp [h, h2]⟩)
                · refine .inr (.inr ⟨h, ?_, by simp [h2], by rw [hst1]; simp [h, h2]⟩)
                  rcases hno.2 with h3 | h3
                  · exact absurd h (of_decide_eq_false h3)
                  · exact h3.2
              · exact .inl ⟨by simp [h], hno.1, by rw [hst1]; simp [h]⟩
            clear hst1 hst2 hno
            go_upto_region 19 with (first | (refine wpList_load_mid rfl 81 _ rfl b (o + j * 5) rfl (CC (xz, xg)).toList _ HRG.out Try.underlying81 rfl (HIL.out _) ?_) | (refine wpList_store_row rfl 81 _ _ rfl wr.heap.size (CC (xz, xg)) rfl rfl 81 (CC (0, 0)) (heap_alloc_new wr _) (HIC.out _) (HZC.out _) (HON.out _) ?_; rw [World.setRow_alloc_new]))
            rw [HW9.out, put_none]
            cases th <;> rcases hc with ⟨d1, d2, d3⟩ | ⟨d1, d2, d3⟩ | ⟨d1, d2, d3, d4⟩ <;> (try subst d1) <;> (try subst d2) <;> (try subst d3) <;> (try subst d4)
            all_goals
              go_upto_region 22 with (fail)
              clear x0 y0 y1
              rcases hgc with ⟨g1, g2⟩ | ⟨g1, g2⟩ <;> subst g2
              all_goals
                go_wp2
                go_roundw
                case rel => exact ⟨j + 1, by omega, by go_num, by rw [HTH2.out], by rw [HCN2.out] <;> go_num, HB9.out⟩
                case measure => simp [intOf]; omega
          · obtain rfl : j = k := by omega
            have hall : ps.take j = ps := List.take_of_length_le (by rw [HPL2.out]; exact Nat.le_refl _)
            simp only [hall, Ck.heldIn_best HMEM.out]
            have HH := Lib.hid (HHO.out wr a2x ps c2x (HR4.out.below HBQ.out) (by rw [HPL2.out]; omega))
            have hpl := HPL2.out
            rw [hpl] at HH
            have HB6 := Lib.hid (HB4.out.trans (HBQ.out.mono HB4.out.size))
            obtain ⟨cn, hcn⟩ : ∃ n, Ck.countOf ps gen = n := ⟨_, rfl⟩
            have HHL : Hid ((Ck.holders ps gen).length = cn) := Lib.hid (by rw [Ck.holders_length, hcn])
            have HHD := Lib.hid (fun z (h : z ∈ Ck.holders ps gen) => Ck.holders_held h)
            have HHS := Lib.hid (fun i a b ha hb => Ck.holders_sorted ps gen (k := i) (a := a) (b := b) ha hb)
            simp only [hcn]
            have hcn60 : cn ≤ 1000 := by have := Ck.zonesOf_le ps gen; rw [← hcn]; unfold Ck.countOf; rw [HPL2.out] at this; omega
            clear hall hcn hpl HHO HC4
            go_wp2_with fail
            refine HH.out.mono ?_
            rintro e7 w7 ⟨v7, rfl, ho7, hB7⟩
            obtain ⟨a7, c7, rfl, hr7, -, -, -, -⟩ := ho7.shape kinI
            have HB7 := Lib.hid (HB6.out.trans (hB7.mono HB6.out.size))
            have HR7 := Lib.hid hr7
            have HRL := Lib.hid ((HR4.out.below HBQ.out).below hB7)
            rw [HHL.out]
            obtain ⟨hs, hhs⟩ : ∃ hs, Ck.holders ps gen = hs := ⟨_, rfl⟩
            rw [hhs] at HR7 HHL HHD HHS
            clear ho7 hr7 hB7 hhs HH
            go_wp2
            go_loopw [130] (fun u wr => ∃ i : Nat, i ≤ cn ∧ u = .int .i64 i ∧ Below w7.heap.size w7 wr) (fun u _ => cn - (intOf u).toNat)
            case atStart => exact ⟨0, Nat.zero_le _, rfl, Below.refl _ _⟩
            case round =>
              obtain ⟨i, hi, rfl, hB8⟩ := hrel
              have z8 := hB8.size
              have HB8 := Lib.hid hB8
              clear hB8
              by_cases hlt : i < cn
              · obtain ⟨z, hz7⟩ : ∃ z, hs[i]? = some z := ⟨_, List.getElem?_eq_getElem (by rw [HHL.out]; exact hlt)⟩
                obtain ⟨bh, oh, rfl, -, hcell, -⟩ := (HR7.out.below HB8.out).at hz7
                have y0 : wr.cell? ⟨bh, oh + i, none⟩ = some (.int .i64 z) := by have := hcell 0 (by decide); simpa [iC] using this
                have HHELD := Lib.hid (HHD.out z (List.mem_of_getElem? hz7))
                have hprev : i = 0 ∨ ∃ i1 zp, i = i1 + 1 ∧ wr.cell? ⟨bh, oh + i1, none⟩ = some (.int .i64 zp) ∧ decide (zp ≤ z) = true := by
                  cases i with
                  | zero => exact .inl rfl
                  | succ i1 =>
                    obtain ⟨zp, hzp⟩ : ∃ z, hs[i1]? = some z := ⟨_, List.getElem?_eq_getElem (by rw [HHL.out]; omega)⟩
                    obtain ⟨b2, o2, e2, -, hcell2, -⟩ := (HR7.out.below HB8.out).at hzp
                    cases e2
                    exact .inr ⟨i1, zp, rfl, by have := hcell2 0 (by decide); simpa [iC] using this, decide_eq_true (HHS.out i1 zp z hzp hz7)⟩
                clear hz7 hcell
                rcases hprev with rfl | ⟨i1, zp, rfl, yp, tp⟩
                · simp only [Nat.add_zero] at y0
                  go_wp2
                  have hB10 := HB8.out
                  go_loopw [19, 148] (fun hh u wr => ∃ q : Nat, q ≤ j ∧ u = .int .i64 q ∧ hh = .bool (Ck.heldIn (ps.take q) z gen) ∧ Below w7.heap.size w7 wr) (fun _ u _ => j - (intOf u).toNat)
                  case atStart => exact ⟨0, Nat.zero_le _, rfl, rfl, HB8.out⟩
                  case round =>
                    obtain ⟨q, hq, rfl, rfl, hBi⟩ := hrel
                    have zi := hBi.size
                    have HBI := Lib.hid hBi
                    clear hBi
                    by_cases hlt2 : q < j
                    · obtain ⟨x, hx⟩ : ∃ x, ps[q]? = some x := ⟨_, List.getElem?_eq_getElem (by rw [HPL2.out]; exact hlt2)⟩
                      obtain ⟨b, o, rfl, hb, hrg⟩ := co_range (HRL.out.below HBI.out) hx
                      have hst1 : Ck.heldIn (ps.take (q + 1)) z gen = (Ck.heldIn (ps.take q) z gen || (decide (x.1 = z) && decide (x.2 = gen))) := by
                        rw [List.take_add_one, hx]
                        exact Ck.heldIn_snoc _ _ _ _
                      obtain ⟨xz, xg⟩ := x
                      have HRG := Lib.hid hrg
                      obtain ⟨W9, hW9⟩ : ∃ W9, wr.alloc (.cells (CC (xz, xg)) 81) = W9 := ⟨_, rfl⟩
                      have hb9 : Below wr.heap.size wr W9 := by rw [← hW9]; exact (Below.refl _ _).alloc (Nat.le_refl _) _
                      have hF9 : W9.heap[wr.heap.size]? = some (.cells (CC (xz, xg)) 81 (0, 0)) := by rw [← hW9]; exact heap_alloc_new wr _
                      obtain ⟨x0, x1⟩ := HCE.out W9 wr.heap.size _ hF9
                      have HB9 := Lib.hid (HBI.out.trans (hb9.mono zi))
                      have HW9 := Lib.hid hW9
                      obtain ⟨th, hth⟩ : ∃ th, Ck.heldIn (ps.take q) z gen = th := ⟨_, rfl⟩
                      obtain ⟨th2, hth2⟩ : ∃ th, Ck.heldIn (ps.take (q + 1)) z gen = th := ⟨_, rfl⟩
                      simp only at hst1 x0 x1
                      rw [hth, hth2] at hst1
                      have HTH2 := Lib.hid hth2
                      simp only [hth]
                      clear hx hrg hW9 hb9 hF9 hth hth2 hb hB10 y0
                      have hc : ((xz == z) = false ∧ th2 = th) ∨ (xz = z ∧ (xg == gen) = false ∧ th2 = th) ∨ (xz = z ∧ xg = gen ∧ th2 = true) := by
                        by_cases h : xz = z
                        · by_cases h2 : xg = gen
                          · exact .inr (.inr ⟨h, h2, by rw [hst1]; simp [h, h2]⟩)
                          · exact .inr (.inl ⟨h, by simp [h2], by rw [hst1]; simp [h, h2]⟩)
                        · exact .inl ⟨by simp [h], by rw [hst1]; simp [h]⟩
                      clear hst1
                      go_upto_region 34 with (first | (refine wpList_load_mid rfl 81 _ rfl b (o + q * 5) rfl (CC (xz, xg)).toList _ HRG.out Try.underlying81 rfl (HIL.out _) ?_) | (refine wpList_store_row rfl 81 _ _ rfl wr.heap.size (CC (xz, xg)) rfl rfl 81 (CC (0, 0)) (heap_alloc_new wr _) (HIC.out _) (HZC.out _) (HON.out _) ?_; rw [World.setRow_alloc_new]))
                      rw [HW9.out, put_none]
                      cases th <;> rcases hc with ⟨d1, d2⟩ | ⟨d1, d2, d3⟩ | ⟨d1, d2, d3⟩ <;> (try subst d1) <;> (try subst d2) <;> (try subst d3)
                      all_goals
                        go_wp2
                        go_roundw
                        case rel =>
                          first
                          | exact ⟨q + 1, by omega, by go_num, by rw [HTH2.out], HB9.out⟩
                          | (repeat apply Exists.intro
                             refine ⟨⟨q + 1, by omega, ?_, ?_, HB9.out⟩, ?_⟩
                             rotate_left 2
                             · first | rfl | (rw [show decide (((i1 : Int) + 1) < (cn : Int)) = true from decide_eq_true (by omega)]; rfl)
                             · go_num
                             · rw [HTH2.out])
                        case measure => simp [intOf]; omega
                    · obtain rfl : q = j := by omega
                      have hall : ps.take q = ps := List.take_of_length_le (by rw [HPL2.out]; exact Nat.le_refl _)
                      simp only [hall, HHELD.out]
                      clear hall y0
                      go_wp2
                      go_roundw
                      case rel => exact ⟨0 + 1, by omega, by go_num, HBI.out⟩
                      case measure => simp [intOf]; omega
                · have tn : ((i1 : Int) + 1 == 0) = false := by simp; omega
                  have tn2 : (((i1 + 1 : Nat) : Int) == 0) = false := by simp; omega
                  go_wp2
                  have hB10 := HB8.out
                  go_loopw [19, 148] (fun hh u wr => ∃ q : Nat, q ≤ j ∧ u = .int .i64 q ∧ hh = .bool (Ck.heldIn (ps.take q) z gen) ∧ Below w7.heap.size w7 wr) (fun _ u _ => j - (intOf u).toNat)
                  case atStart => exact ⟨0, Nat.zero_le _, rfl, rfl, HB8.out⟩
                  case round =>
                    obtain ⟨q, hq, rfl, rfl, hBi⟩ := hrel
                    have zi := hBi.size
                    have HBI := Lib.hid hBi
                    clear hBi
                    by_cases hlt2 : q < j
                    · obtain ⟨x, hx⟩ : ∃ x, ps[q]? = some x := ⟨_, List.getElem?_eq_getElem (by rw [HPL2.out]; exact hlt2)⟩
                      obtain ⟨b, o, rfl, hb, hrg⟩ := co_range (HRL.out.below HBI.out) hx
                      have hst1 : Ck.heldIn (ps.take (q + 1)) z gen = (Ck.heldIn (ps.take q) z gen || (decide (x.1 = z) && decide (x.2 = gen))) := by
                        rw [List.take_add_one, hx]
                        exact Ck.heldIn_snoc _ _ _ _
                      obtain ⟨xz, xg⟩ := x
                      have HRG := Lib.hid hrg
                      obtain ⟨W9, hW9⟩ : ∃ W9, wr.alloc (.cells (CC (xz, xg)) 81) = W9 := ⟨_, rfl⟩
                      have hb9 : Below wr.heap.size wr W9 := by rw [← hW9]; exact (Below.refl _ _).alloc (Nat.le_refl _) _
                      have hF9 : W9.heap[wr.heap.size]? = some (.cells (CC (xz, xg)) 81 (0, 0)) := by rw [← hW9]; exact heap_alloc_new wr _
                      obtain ⟨x0, x1⟩ := HCE.out W9 wr.heap.size _ hF9
                      have HB9 := Lib.hid (HBI.out.trans (hb9.mono zi))
                      have HW9 := Lib.hid hW9
                      obtain ⟨th, hth⟩ : ∃ th, Ck.heldIn (ps.take q) z gen = th := ⟨_, rfl⟩
                      obtain ⟨th2, hth2⟩ : ∃ th, Ck.heldIn (ps.take (q + 1)) z gen = th := ⟨_, rfl⟩
                      simp only at hst1 x0 x1
                      rw [hth, hth2] at hst1
                      have HTH2 := Lib.hid hth2
                      simp only [hth]
                      clear hx hrg hW9 hb9 hF9 hth hth2 hb hB10 y0
                      have hc : ((xz == z) = false ∧ th2 = th) ∨ (xz = z ∧ (xg == gen) = false ∧ th2 = th) ∨ (xz = z ∧ xg = gen ∧ th2 = true) := by
                        by_cases h : xz = z
                        · by_cases h2 : xg = gen
                          · exact .inr (.inr ⟨h, h2, by rw [hst1]; simp [h, h2]⟩)
                          · exact .inr (.inl ⟨h, by simp [h2], by rw [hst1]; simp [h, h2]⟩)
                        · exact .inl ⟨by simp [h], by rw [hst1]; simp [h]⟩
                      clear hst1
                      go_upto_region 34 with (first | (refine wpList_load_mid rfl 81 _ rfl b (o + q * 5) rfl (CC (xz, xg)).toList _ HRG.out Try.underlying81 rfl (HIL.out _) ?_) | (refine wpList_store_row rfl 81 _ _ rfl wr.heap.size (CC (xz, xg)) rfl rfl 81 (CC (0, 0)) (heap_alloc_new wr _) (HIC.out _) (HZC.out _) (HON.out _) ?_; rw [World.setRow_alloc_new]))
                      rw [HW9.out, put_none]
                      cases th <;> rcases hc with ⟨d1, d2⟩ | ⟨d1, d2, d3⟩ | ⟨d1, d2, d3⟩ <;> (try subst d1) <;> (try subst d2) <;> (try subst d3)
                      all_goals
                        go_wp2
                        go_roundw
                        case rel =>
                          first
                          | exact ⟨q + 1, by omega, by go_num, by rw [HTH2.out], HB9.out⟩
                          | (repeat apply Exists.intro
                             refine ⟨⟨q + 1, by omega, ?_, ?_, HB9.out⟩, ?_⟩
                             rotate_left 2
                             · first | rfl | (rw [show decide (((i1 : Int) + 1) < (cn : Int)) = true from decide_eq_true (by omega)]; rfl)
                             · go_num
                             · rw [HTH2.out])
                        case measure => simp [intOf]; omega
                    · obtain rfl : q = j := by omega
                      have hall : ps.take q = ps := List.take_of_length_le (by rw [HPL2.out]; exact Nat.le_refl _)
                      simp only [hall, HHELD.out]
                      clear hall y0
                      go_wp2
                      go_roundw
                      case rel => exact ⟨(i1 + 1) + 1, by omega, by go_num, HBI.out⟩
                      case measure => simp [intOf]; omega
              · obtain rfl : i = cn := by omega
                go_wp2
                go_ret
                exact ⟨rfl, HB7.out.trans (HB8.out.mono HB7.out.size)⟩
set_option maxRecDepth 100000 in
set_option maxHeartbeats 2000000 in
theorem ck_votes_walk (w : World) (a1 a2 : Option Addr) (l1 l2 : List Int) (c1 c2 : Nat) (gen : Int) (hI1 : Ints w a1 l1) (hI2 : Ints w a2 l2) :
    Calls Try.prog 10 #[.slice a1 l1.length c1, .slice a2 l2.length c2, .int .i64 gen] w fun e w' => e = .returned (.bool true) ∧ Below w.heap.size w w' := by
  by_cases h : l1.length ≤ 60 ∧ l2.length ≤ 60
  · exact ck_votes_core w a1 a2 l1 l2 c1 c2 gen hI1 hI2 h.1 h.2
  · have hc : (decide (60 < (l1.length : Int)) = true) ∨ (decide (60 < (l1.length : Int)) = false ∧ decide (60 < (l2.length : Int)) = true) := by
      by_cases h1 : 60 < (l1.length : Int)
      · exact .inl (decide_eq_true h1)
      · exact .inr ⟨decide_eq_false h1, decide_eq_true (by omega)⟩
    have HA := Lib.hid (fun W => ck_anchor W)
    clear h hI1 hI2
    obtain ⟨n1, hn1⟩ : ∃ n, l1.length = n := ⟨_, rfl⟩
    obtain ⟨n2, hn2⟩ : ∃ n, l2.length = n := ⟨_, rfl⟩
    rw [hn1] at hc
    rw [hn2] at hc
    rw [hn1, hn2]
    clear hn1 hn2
    rcases hc with t1 | ⟨t1, t2⟩
    · go_enter Try.func10, Try.ntmps10
      go_wp2_with fail
      refine (HA.out _).mono ?_
      rintro e1 w1 ⟨rfl, hB1⟩
      go_wp2
      go_ret
      exact ⟨rfl, hB1⟩
    · go_enter Try.func10, Try.ntmps10
      go_wp2_with fail
      refine (HA.out _).mono ?_
      rintro e1 w1 ⟨rfl, hB1⟩
      go_wp2
      go_ret
      exact ⟨rfl, hB1⟩
end Go.Proofs.Ytjnneoejnpephaa
