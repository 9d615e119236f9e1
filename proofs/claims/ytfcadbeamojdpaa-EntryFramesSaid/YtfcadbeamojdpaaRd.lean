/- Proved here: contracts of the codec's Reader: New, take, Bytes, Num, Done. -/
import Derived.Test.YtfcadbeamojdpaaCodNum
import Derived.Deep.DeepMust
import Derived.Laws.BitsAllLaws
import Derived.Laws.BitsLemmas
namespace Go.Proofs.Ytfcadbeamojdpaa
open Go.RowKit Go.Rv
set_option linter.unusedVariables false
/-- block g is a reader with these bytes left, which lie in a block from B on; bad or not -/
def RdAt (w : World) (B g : Nat) (l : List Nat) (bad : Bool) : Prop :=
  ∃ a cap, w.heap[g]? = some (.cells #[.slice a l.length cap, .bool bad] 97 (0, 0)) ∧ Bytes w a l ∧ l.length ≤ cap ∧ cap ≤ maxLen ∧ (a = none → cap = 0) ∧ (∀ x, a = some x → x.block < g ∧ B ≤ x.block)
/-- the block of a slice -/
theorem RdAt.lt {w : World} {B g : Nat} {l : List Nat} {bad : Bool} (h : RdAt w B g l bad) : g < w.heap.size := by
  obtain ⟨a, cap, hg, _⟩ := h
  exact (Array.getElem?_eq_some_iff.1 hg).1
theorem RdAt.below {w w' : World} {B g : Nat} {l : List Nat} {bad : Bool} (h : RdAt w B g l bad) (hB : Below w.heap.size w w') : RdAt w' B g l bad := by
  have hlt := h.lt
  obtain ⟨a, cap, hg, hb, h1, h2, h3, h4⟩ := h
  exact ⟨a, cap, (hB.block g hlt).trans hg, hb.below hB, h1, h2, h3, h4⟩
theorem RdAt.only {S : List Nat} {w w' : World} {B g : Nat} {l : List Nat} {bad : Bool} (h : RdAt w B g l bad) (hO : Only S w w') (hg : g ∉ S) (hS : ∀ x ∈ S, x < B ∨ g < x) : RdAt w' B g l bad := by
  have hlt := h.lt
  obtain ⟨a, cap, hh, hb, h1, h2, h3, h4⟩ := h
  exact ⟨a, cap, (hO.block g hlt hg).trans hh, hb.only hO (fun x hx hm => by have := hS _ hm; have := (h4 x hx); omega), h1, h2, h3, h4⟩
theorem RdAt.cells {w : World} {g : Nat} {v : Value} {bad : Bool} {t : TypeId} (h : w.heap[g]? = some (.cells #[v, .bool bad] t (0, 0))) : w.cell? ⟨g, 0, none⟩ = some v ∧ w.cell? ⟨g, 1, none⟩ = some (.bool bad) ∧ w.frozen? ⟨g, 0, none⟩ = false ∧ w.frozen? ⟨g, 1, none⟩ = false :=
  ⟨by rw [cell_of_row _ _ _ _ _ _ h]; rfl, by rw [cell_of_row _ _ _ _ _ _ h]; rfl, frozen_of_row _ _ _ _ _ h, frozen_of_row _ _ _ _ _ h⟩
/-- what New makes -/
def NewRdPost (l : List Nat) (w : World) (e : Ending) (w' : World) : Prop :=
  ∃ g, e = .returned (.pointer (some ⟨g, 0, none⟩)) ∧ w.heap.size ≤ g ∧ RdAt w' w.heap.size g l false ∧ Below w.heap.size w w'
set_option maxRecDepth 100000 in
set_option maxHeartbeats 400000 in
theorem rd_new (a : Option Addr) (l : List Nat) (cap : Nat) (w : World) (hb : Bytes w a l) (hn : a = none → cap = 0) (hl : l.length ≤ 2000000) :
    Calls Try.prog 43 #[.slice a l.length cap] w (NewRdPost l w) := by
  have hbel : Below w.heap.size w (w.alloc (.cells #[] 5)) := (Below.refl _ _).alloc (Nat.le_refl _) _
  go_enter Try.func43, Try.ntmps43
  go_wp2_with (at_builtin; refine wpList_append_bytes_at rfl (.tmp 3) (.tmp 4) 47 rfl 5 Try.underlying47 Try.infoU8 w.heap.size _ [] rfl (OwnB.made (g := w.heap.size) (Nat.le_refl _) (heap_alloc_new w _) rfl (by unfold maxLen; omega)) a cap l rfl (hb.below hbel) hn (by simp; omega) (by simp) ?_; intro v' w1 hown hgr hat; rw [List.nil_append] at hown; obtain ⟨a', c', rfl, hb', hn', hx⟩ := hown.bytes)
  go_ret
  have hB1 : Below w.heap.size w w1 := hbel.trans (Below.of_grown hgr (by simp) (fun k hk => by simp [Act.eval, Value.ownBlock] at hk; omega))
  have hz := hB1.size
  refine ⟨w1.heap.size, rfl, hz, ⟨a', c', heap_alloc_new _ _, hb'.below ((Below.refl _ _).alloc (Nat.le_refl _) _), ?_, ?_, hn', fun x h => ⟨?_, ?_⟩⟩, hB1.alloc hz _⟩
  · rcases hown.1.2 with ⟨e, h0⟩ | ⟨_, _, _, e, _, _, h1, _⟩
    · omega
    · injection e with _ _ e3
      rw [e3]
      exact h1
  · rcases hown.1.2 with ⟨e, h0⟩ | ⟨_, _, _, e, _, _, h1, h2, _⟩
    · injection e with _ _ e3
      rw [e3]
      exact Nat.zero_le _
    · injection e with _ _ e3
      rw [e3]
      exact h2
  · exact (hx x h).2.1
  · exact (hx x h).1
/-- what take tells: the next bytes, and what is left -/
def TakeYes (B g : Nat) (l : List Nat) (n : Nat) (w : World) (e : Ending) (w' : World) : Prop :=
  ∃ a, e = .returned (.slice a n n) ∧ Bytes w' a (l.take n) ∧ (a = none → n = 0) ∧ (∀ x, a = some x → x.block < g ∧ B ≤ x.block) ∧ RdAt w' B g (l.drop n) false ∧ Only [g] w w'
def TakeNo (B g : Nat) (w : World) (e : Ending) (w' : World) : Prop := e = .returned (.slice none 0 0) ∧ RdAt w' B g [] true ∧ Only [g] w w'
theorem RdAt.spoil {w : World} {B g : Nat} {l : List Nat} {bad : Bool} (h : RdAt w B g l bad) : RdAt ((w.setCell ⟨g, 0, none⟩ (.slice none 0 0)).setCell ⟨g, 1, none⟩ (.bool true)) B g [] true ∧ Only [g] w ((w.setCell ⟨g, 0, none⟩ (.slice none 0 0)).setCell ⟨g, 1, none⟩ (.bool true)) := by
  obtain ⟨a, cap, hg, _⟩ := h
  refine ⟨⟨none, 0, ?_, Bytes.nil _ _, Nat.le_refl _, Nat.zero_le _, fun _ => rfl, fun x h => by cases h⟩, ((Only.refl _ _).setCell (by simp) _).setCell (by simp) _⟩
  rw [heap_setCell_same _ _ _ _ _ _ (heap_setCell_same _ _ _ _ _ _ hg)]
  rfl
set_option maxRecDepth 100000 in
set_option maxHeartbeats 400000 in
theorem take_no {B : Nat} (g : Nat) (l : List Nat) (bad : Bool) (n : Int) (w : World) (hR : RdAt w B g l bad) (hno : bad = true ∨ n < 0 ∨ (l.length : Int) < n) :
    Calls Try.prog 57 #[.pointer (some ⟨g, 0, none⟩), .int .i64 n] w (TakeNo B g w) := by
  have hS := hR.spoil
  have hfin : ∀ e w', e = .returned (.slice none 0 0) → w' = (w.setCell ⟨g, 0, none⟩ (.slice none 0 0)).setCell ⟨g, 1, none⟩ (.bool true) → TakeNo B g w e w' := by
    rintro e w' rfl rfl
    exact ⟨rfl, hS.1, hS.2⟩
  have HF := Lib.hid hfin
  obtain ⟨a, cap, hg, _⟩ := hR
  obtain ⟨c0, c1, f0, f1⟩ := RdAt.cells hg
  clear hS hfin
  cases bad
  · by_cases hn : n < 0
    · clear hno
      go_enter Try.func57, Try.ntmps57
      go_wp2
      go_ret
      exact HF.out _ _ rfl rfl
    · have hgt : (l.length : Int) < n := by simp at hno; omega
      have hd : decide (n < 0) = false := decide_eq_false hn
      clear hno
      go_enter Try.func57, Try.ntmps57
      go_wp2
      go_ret
      exact HF.out _ _ rfl rfl
  · clear hno
    go_enter Try.func57, Try.ntmps57
    go_wp2
    go_ret
    exact HF.out _ _ rfl rfl
set_option maxRecDepth 100000 in
set_option maxHeartbeats 400000 in
theorem take_yes {B : Nat} (g : Nat) (l : List Nat) (n : Nat) (w : World) (hR : RdAt w B g l false) (hn : n ≤ l.length) :
    Calls Try.prog 57 #[.pointer (some ⟨g, 0, none⟩), .int .i64 n] w (TakeYes B g l n w) := by
  obtain ⟨a, cap, hg, hb, hlc, hcm, hnil, hx⟩ := hR
  obtain ⟨c0, c1, f0, f1⟩ := RdAt.cells hg
  have hcm' : cap ≤ 9223372036854775807 := by unfold maxLen at hcm; omega
  have hd : decide ((n : Int) < 0) = false := decide_eq_false (by omega)
  have hd2 : decide ((l.length : Int) < (n : Int)) = false := decide_eq_false (by omega)
  have hO : ∀ v, Only [g] w (w.setCell ⟨g, 0, none⟩ v) := fun v => (Only.refl _ _).setCell (by simp) _
  have hgs : ∀ v, (w.setCell ⟨g, 0, none⟩ v).heap[g]? = some (.cells #[v, .bool false] 97 (0, 0)) := fun v => by
    rw [heap_setCell_same _ _ _ _ _ _ hg]
    rfl
  have hfin : ∀ a' c', Bytes w a' (l.drop n) → l.length - n ≤ c' → c' ≤ maxLen → (a' = none → c' = 0) → (∀ x, a' = some x → x.block < g ∧ B ≤ x.block) → (a = none → n = 0) → ∀ e w', e = .returned (.slice a n n) → w' = w.setCell ⟨g, 0, none⟩ (.slice a' (l.length - n : Nat) c') → TakeYes B g l n w e w' := by
    rintro a' c' hb' h1 h1' h2 h3 h4 e w' rfl rfl
    refine ⟨a, rfl, (hb.take n).only (hO _) (fun x hx' => by simp; have := (hx x hx').1; omega), h4, hx, ⟨a', c', ?_, hb'.only (hO _) (fun x hx' => by simp; have := (h3 x hx').1; omega), by rw [List.length_drop]; exact h1, h1', h2, h3⟩, hO _⟩
    rw [hgs, List.length_drop]
  cases a with
  | none =>
    obtain rfl := hnil rfl
    obtain rfl : n = 0 := by omega
    obtain rfl : l = [] := List.eq_nil_of_length_eq_zero (by omega)
    have HF := Lib.hid (hfin none 0 (Bytes.nil _ _) (by simp) (Nat.zero_le _) (fun _ => rfl) (fun x h => by cases h) (fun _ => rfl))
    clear hfin hgs hO hx hnil hb
    go_enter Try.func57, Try.ntmps57
    go_wp2
    go_ret
    exact HF.out _ _ rfl rfl
  | some ad =>
    obtain ⟨b, o, spot⟩ := ad
    by_cases hcn : cap = n
    · obtain rfl := hcn
      have hld : l.drop cap = [] := List.drop_eq_nil_of_le (by omega)
      have hl0 : l.length = cap := by omega
      have HF := Lib.hid (hfin (some ⟨b, o, spot⟩) 0 (by rw [hld]; exact Bytes.nil _ _) (by omega) (Nat.zero_le _) (fun h => by cases h) hx (fun h => by cases h))
      rw [show l.length - cap = 0 by omega] at HF
      clear hfin hgs hO hx hnil hb hld
      go_enter Try.func57, Try.ntmps57
      go_wp2
      go_ret
      exact HF.out _ _ rfl rfl
    · by_cases hn0 : n = 0
      · subst hn0
        have HF := Lib.hid (hfin (some ⟨b, o, spot⟩) cap (by simpa using hb) (by omega) hcm (fun h => by cases h) hx (fun h => by cases h))
        rw [Nat.sub_zero] at HF
        clear hfin hgs hO hx hnil hb
        go_enter Try.func57, Try.ntmps57
        go_wp2
        go_ret
        exact HF.out _ _ rfl rfl
      · obtain ⟨b', o', _, e, _⟩ := hb.at (k := 0) (by omega)
        cases e
        have HF := Lib.hid (hfin (some ⟨b, o + n, none⟩) (cap - n) (hb.drop n) (by omega) (by omega) (fun h => by cases h) (fun x h => by cases h; exact hx ⟨b, o, none⟩ rfl) (fun h => by cases h))
        clear hfin hgs hO hx hnil hb
        go_enter Try.func57, Try.ntmps57
        go_wp2
        go_ret
        exact HF.out _ _ rfl rfl
/-- what Done tells -/
def doneOf (l : List Nat) (bad : Bool) : Int := if bad = false ∧ l = [] then 0 else 14
set_option maxRecDepth 100000 in
set_option maxHeartbeats 400000 in
theorem rd_done {B : Nat} (g : Nat) (l : List Nat) (bad : Bool) (w : World) (hR : RdAt w B g l bad) (hl : l.length ≤ 2000000) :
    Calls Try.prog 46 #[.pointer (some ⟨g, 0, none⟩)] w fun e w' => e = .returned (.int .i64 (doneOf l bad)) ∧ w = w' := by
  obtain ⟨a, cap, hg, _⟩ := hR
  obtain ⟨c0, c1, f0, f1⟩ := RdAt.cells hg
  cases bad
  · by_cases h0 : l = []
    · subst h0
      go_enter Try.func46, Try.ntmps46
      go_wp2
      go_ret
      exact ⟨rfl, rfl⟩
    · have hp : 0 < l.length := List.length_pos_iff.2 h0
      have HE := Lib.hid (show doneOf l false = 14 by unfold doneOf; rw [if_neg (by simp [h0])])
      have hpi : (0 : Int) < (l.length : Int) := by omega
      clear h0
      go_enter Try.func46, Try.ntmps46
      go_wp2
      go_ret
      exact ⟨by rw [HE.out]; rfl, rfl⟩
  · go_enter Try.func46, Try.ntmps46
    go_wp2
    go_ret
    exact ⟨rfl, rfl⟩
set_option maxRecDepth 100000 in
set_option maxHeartbeats 400000 in
theorem rd_bytes_yes {B : Nat} (g : Nat) (l : List Nat) (n : Nat) (w : World) (hR : RdAt w B g l false) (hn : n ≤ l.length) :
    Calls Try.prog 45 #[.pointer (some ⟨g, 0, none⟩), .int .i64 n] w (TakeYes B g l n w) := by
  go_enter Try.func45, Try.ntmps45
  go_wp2_with (go_at_call 57; refine (take_yes g l n _ hR hn).mono ?_; rintro e w' ⟨a, rfl, h⟩)
  go_ret
  exact ⟨a, rfl, h⟩
set_option maxRecDepth 100000 in
set_option maxHeartbeats 400000 in
theorem rd_bytes_no {B : Nat} (g : Nat) (l : List Nat) (bad : Bool) (n : Int) (w : World) (hR : RdAt w B g l bad) (hno : bad = true ∨ n < 0 ∨ (l.length : Int) < n) :
    Calls Try.prog 45 #[.pointer (some ⟨g, 0, none⟩), .int .i64 n] w (TakeNo B g w) := by
  have HT := Lib.hid (fun W (hR : RdAt W B g l bad) => take_no g l bad n W hR hno)
  clear hno
  go_enter Try.func45, Try.ntmps45
  go_wp2_with (go_at_call 57; refine (HT.out _ hR).mono ?_; rintro e w' ⟨rfl, h⟩)
  go_ret
  exact ⟨rfl, h⟩
/-- a reader has read a number -/
def RdNumPost (B g : Nat) (x : Nat) (l : List Nat) (bad : Bool) (w : World) (e : Ending) (w' : World) : Prop := e = .returned (.int .i64 (x : Nat)) ∧ RdAt w' B g l bad ∧ Only [g] w w'
set_option maxRecDepth 100000 in
set_option maxHeartbeats 400000 in
theorem rd_num_no {B : Nat} (g : Nat) (l : List Nat) (bad : Bool) (width : Int) (w : World) (hR : RdAt w B g l bad) (hno : bad = true ∨ width < 1 ∨ 7 < width ∨ (l.length : Int) < width) :
    Calls Try.prog 44 #[.pointer (some ⟨g, 0, none⟩), .int .i64 width] w (RdNumPost B g 0 [] true w) := by
  by_cases hin : 1 ≤ width ∧ width ≤ 7
  · have HY := Lib.hid (fun W => within_yes width W hin.1 hin.2)
    have HT := Lib.hid (fun W (hR : RdAt W B g l bad) => take_no g l bad width W hR (by rcases hno with h | h | h | h; exact .inl h; omega; omega; exact .inr (.inr h)))
    clear hno
    go_enter Try.func44, Try.ntmps44
    go_wp2_with (first | (go_at_call 54; refine (HY.out _).mono ?_; rintro e w' ⟨rfl, rfl⟩) | (go_at_call 57; refine (HT.out _ hR).mono ?_; rintro e w' ⟨rfl, h⟩))
    refine wp_loop_rounds 1 ?_
    rw [rounds_succ]
    go_wp2
    go_ret
    exact ⟨rfl, h⟩
  · have HY := Lib.hid (fun W => within_no width W (by omega))
    have HT := Lib.hid (fun W (hR : RdAt W B g l bad) => take_no g l bad (-1) W hR (.inr (.inl (by omega))))
    clear hno hin
    go_enter Try.func44, Try.ntmps44
    go_wp2_with (first | (go_at_call 54; refine (HY.out _).mono ?_; rintro e w' ⟨rfl, rfl⟩) | (go_at_call 57; refine (HT.out _ hR).mono ?_; rintro e w' ⟨rfl, h⟩))
    go_ret
    exact ⟨rfl, h⟩
theorem ofInt_i64 (a : Nat) (ha : a < 9223372036854775808) : (BitVec.ofInt 64 (a : Int)).toNat = a := by
  rw [BitVec.ofInt_natCast, BitVec.toNat_ofNat]; exact Nat.mod_eq_of_lt (by omega)
theorem i64_or_nat (a b : Nat) (ha : a < 9223372036854775808) (hb : b < 9223372036854775808) : bits .or .i64 (a : Int) (b : Int) = ((a ||| b : Nat) : Int) := by
  have hx : a ||| b < 2 ^ 63 := Nat.or_lt_two_pow (by omega) (by omega)
  show IntKind.i64.wrap ((BitVec.ofInt 64 (a : Int) ||| BitVec.ofInt 64 (b : Int)).toNat : Int) = _
  rw [BitVec.toNat_or, ofInt_i64 a ha, ofInt_i64 b hb, IntKind.wrap_i64]
  omega
theorem or_step64 (x c j : Nat) (hj : j ≤ 6) (hx : x < 256 ^ j) (hc : c < 256) : bits .or .i64 (x : Int) (wrap64 ((c : Int) * 2 ^ (8 * j))) = ((x + 256 ^ j * c : Nat) : Int) := by
  have h6 : 256 ^ j ≤ 281474976710656 := Cod.pw_le6 j hj
  have e : (c : Int) * 2 ^ (8 * j) = ((c * 256 ^ j : Nat) : Int) := by
    rw [Int.natCast_mul, Cod.pow_cast, Int.pow_mul]
    rfl
  have hm : c * 256 ^ j < 9223372036854775808 := by
    have := Nat.mul_le_mul (show c ≤ 255 by omega) h6
    omega
  have hw : wrap64 ((c * 256 ^ j : Nat) : Int) = ((c * 256 ^ j : Nat) : Int) := IntWalk.wrap64_in _ ⟨by omega, by omega⟩
  rw [e, hw, i64_or_nat x _ (by omega) hm, Cod.or_add x c j hx]
set_option maxRecDepth 100000 in
set_option maxHeartbeats 400000 in
theorem rd_num_yes {B : Nat} (g : Nat) (l : List Nat) (k : Nat) (w : World) (hR : RdAt w B g l false) (h1 : 1 ≤ k) (h7 : k ≤ 7) (hk : k ≤ l.length) :
    Calls Try.prog 44 #[.pointer (some ⟨g, 0, none⟩), .int .i64 k] w (RdNumPost B g (Cod.rd (l.take k)) (l.drop k) false w) := by
  have HY := Lib.hid (fun W => within_yes k W (by omega) (by omega))
  have HT := Lib.hid (fun W (hR : RdAt W B g l false) => take_yes g l k W hR hk)
  go_enter Try.func44, Try.ntmps44
  go_wp2_with (first | (go_at_call 54; refine (HY.out _).mono ?_; rintro e w' ⟨rfl, rfl⟩) | (go_at_call 57; refine (HT.out _ hR).mono ?_; rintro e w1 ⟨a, rfl, hb, hn, hx, hR1, hO1⟩))
  go_loop [5, 17] (fun v i => ∃ j : Nat, j ≤ k ∧ i = .int .i64 j ∧ v = .int .i64 (Cod.rd (l.take j) : Nat)) (fun _ i => k - (intOf i).toNat)
  case atStart => exact ⟨0, by omega, rfl, by simp [Cod.rd]⟩
  case round =>
    obtain ⟨j, hj, rfl, rfl⟩ := hrel
    by_cases hlt : j < k
    · obtain ⟨b1, o1, c, rfl, hbl, hc, hc8, hlk⟩ := hb.at (show j < (l.take k).length by simp; omega)
      have hlk' : l[j]? = some c := by rw [List.getElem?_take, if_pos hlt] at hlk; exact hlk
      have hs := Lib.hid (Cod.rd_take_succ l j c hlk')
      have hlt2 := Cod.rd_take_lt (l.take k) hb.1 j (by simp; omega)
      rw [List.take_take, Nat.min_eq_left (by omega)] at hlt2
      replace hlt2 := Lib.hid hlt2
      clear hlk hlk'
      go_wp2
      refine ⟨⟨j + 1, by omega, by go_num, ?_⟩, by simp [intOf]; omega⟩
      rw [hs.out, or_step64 _ _ _ (by omega) hlt2.out hc8]
    · obtain rfl : j = k := by omega
      go_wp2
      go_ret
      exact ⟨rfl, hR1, hO1⟩
end Go.Proofs.Ytfcadbeamojdpaa
