/- Proved here: contracts of the codec's Pen: Bytes, Num, Out. -/
import Derived.Test.YtfcadbeamojdpaaCodNum
import Derived.Deep.DeepMust
namespace Go.Proofs.Ytfcadbeamojdpaa
open Go.RowKit Go.Rv
set_option linter.unusedVariables false
/-- block g is a pen that has written these bytes (its row is block f); bad or not -/
def PenAt (w : World) (g : Nat) (f : Option Nat) (l : List Nat) (bad : Bool) : Prop :=
  ∃ v, w.heap[g]? = some (.cells #[v, .bool bad] 76 (0, 0)) ∧ OwnB w 5 0 v l ∧ v.ownBlock = f
theorem PenAt.lt {w : World} {g : Nat} {f : Option Nat} {l : List Nat} {bad : Bool} (h : PenAt w g f l bad) : g < w.heap.size := by
  obtain ⟨v, hg, _⟩ := h
  exact (Array.getElem?_eq_some_iff.1 hg).1
theorem PenAt.row_lt {w : World} {g k : Nat} {f : Option Nat} {l : List Nat} {bad : Bool} (h : PenAt w g f l bad) (hk : f = some k) : k < w.heap.size := by
  obtain ⟨v, hg, ho, hf⟩ := h
  exact (ho.lt (hf.trans hk)).2
theorem PenAt.ne {w : World} {g : Nat} {f : Option Nat} {l : List Nat} {bad : Bool} (h : PenAt w g f l bad) : f ≠ some g := by
  obtain ⟨v, hg, ho, hf⟩ := h
  rw [← hf]
  exact ho.ne_block hg (by decide)
theorem PenAt.only {S : List Nat} {w w' : World} {g : Nat} {f : Option Nat} {l : List Nat} {bad : Bool} (h : PenAt w g f l bad) (hO : Only S w w') (hg : g ∉ S) (hf : ∀ k, f = some k → k ∉ S) : PenAt w' g f l bad := by
  have hlt := h.lt
  obtain ⟨v, h1, ho, hv⟩ := h
  exact ⟨v, (hO.block g hlt hg).trans h1, ho.only hO (fun k hk => hf k (by rw [← hv]; exact hk)), hv⟩
theorem PenAt.below {w w' : World} {g : Nat} {f : Option Nat} {l : List Nat} {bad : Bool} (h : PenAt w g f l bad) (hB : Below w.heap.size w w') : PenAt w' g f l bad :=
  h.only (S := []) (Only.of_below hB) (by simp) (by simp)
theorem PenAt.new (w : World) : PenAt (w.alloc (.cells #[.slice none 0 0, .bool false] 76)) w.heap.size none [] false :=
  ⟨_, heap_alloc_new w _, OwnB.nil _ _ _, rfl⟩
/-- a pen has written on: of what was there its own two blocks alone have turned; its row is as it was, or new -/
def PenPost (w : World) (g : Nat) (f : Option Nat) (l : List Nat) (bad : Bool) (e : Ending) (w' : World) : Prop :=
  e = .returned (.tuple #[]) ∧ ∃ f', PenAt w' g f' l bad ∧ Only (g :: f.toList) w w' ∧ (f' = f ∨ ∃ k, f' = some k ∧ w.heap.size ≤ k)
theorem PenAt.cells {w : World} {g : Nat} {v : Value} {bad : Bool} {t : TypeId} (h : w.heap[g]? = some (.cells #[v, .bool bad] t (0, 0))) : w.cell? ⟨g, 0, none⟩ = some v ∧ w.cell? ⟨g, 1, none⟩ = some (.bool bad) ∧ w.frozen? ⟨g, 0, none⟩ = false ∧ w.frozen? ⟨g, 1, none⟩ = false :=
  ⟨by rw [cell_of_row _ _ _ _ _ _ h]; rfl, by rw [cell_of_row _ _ _ _ _ _ h]; rfl, frozen_of_row _ _ _ _ _ h, frozen_of_row _ _ _ _ _ h⟩
theorem PenAt.setBad {w : World} {g : Nat} {f : Option Nat} {l : List Nat} {bad : Bool} (h : PenAt w g f l bad) (b : Bool) : PenAt (w.setCell ⟨g, 1, none⟩ (.bool b)) g f l b := by
  have hne := h.ne
  obtain ⟨v, hg, ho, hv⟩ := h
  refine ⟨v, ?_, ?_, hv⟩
  · rw [heap_setCell_same _ _ _ _ _ _ hg]
    rfl
  · refine ho.only (S := [g]) ((Only.refl _ _).setCell (by simp) _) ?_
    intro k hk
    simp
    rintro rfl
    exact hne (by rw [← hv]; exact hk)
theorem PenAt.setRow {w : World} {g : Nat} {v v' : Value} {l : List Nat} {bad : Bool} (hg : w.heap[g]? = some (.cells #[v, .bool bad] 76 (0, 0))) (ho : OwnB w 5 0 v' l) : PenAt (w.setCell ⟨g, 0, none⟩ v') g v'.ownBlock l bad := by
  refine ⟨v', ?_, ?_, rfl⟩
  · rw [heap_setCell_same _ _ _ _ _ _ hg]
    rfl
  · refine ho.only (S := [g]) ((Only.refl _ _).setCell (by simp) _) ?_
    intro k hk
    simp
    rintro rfl
    exact ho.ne_block hg (by decide) hk
theorem fresh_trans {f f1 f2 : Option Nat} {H H' : Nat} (h1 : f1 = f ∨ ∃ k, f1 = some k ∧ H ≤ k) (h2 : f2 = f1 ∨ ∃ k, f2 = some k ∧ H' ≤ k) (hH : H ≤ H') : f2 = f ∨ ∃ k, f2 = some k ∧ H ≤ k := by
  rcases h2 with rfl | ⟨k, rfl, hk⟩
  · exact h1
  · exact .inr ⟨k, rfl, by omega⟩
/-- one append through the pen -/
theorem PenAt.step {w w1 : World} {g : Nat} {f : Option Nat} {v v' : Value} {l q : List Nat} {bad : Bool} (hg : w.heap[g]? = some (.cells #[v, .bool bad] 76 (0, 0))) (ho : OwnB w 5 0 v l) (hf : v.ownBlock = f)
    (hown : OwnB w1 5 0 v' q) (hgr : w.grownBy w1 v.ownBlock) (hat : v'.ownBlock = v.ownBlock ∨ v'.ownBlock = some w.heap.size) :
    w1.heap[g]? = some (.cells #[v, .bool bad] 76 (0, 0)) ∧ PenAt (w1.setCell ⟨g, 0, none⟩ v') g v'.ownBlock q bad ∧ Only (g :: f.toList) w (w1.setCell ⟨g, 0, none⟩ v') ∧ (v'.ownBlock = f ∨ ∃ k, v'.ownBlock = some k ∧ w.heap.size ≤ k) := by
  have hne := ho.ne_block hg (by decide)
  have hlt : g < w.heap.size := (Array.getElem?_eq_some_iff.1 hg).1
  have hg1 := (hgr.block g hlt (fun e => hne e.symm)).trans hg
  subst hf
  refine ⟨hg1, PenAt.setRow hg1 hown, ?_, ?_⟩
  · refine ((Only.refl _ _).grown hgr ?_).setCell (by simp) _
    intro k hk
    rw [hk]
    simp
  · rcases hat with h | h
    · exact .inl h
    · exact .inr ⟨_, h, Nat.le_refl _⟩
set_option maxRecDepth 100000 in
set_option maxHeartbeats 400000 in
theorem pen_bytes (g : Nat) (f : Option Nat) (l : List Nat) (bad : Bool) (a : Option Addr) (m : List Nat) (cap : Nat) (w : World) (hP : PenAt w g f l bad) (hb : Bytes w a m) (hcap : a = none → cap = 0) (hl : l.length ≤ 1000000) (hm : m.length ≤ 1000000) :
    Calls Try.prog 39 #[.pointer (some ⟨g, 0, none⟩), .slice a m.length cap] w (PenPost w g f (l ++ m) bad) := by
  obtain ⟨v, hg, ho, hf⟩ := hP
  obtain ⟨c0, c1, f0, f1⟩ := PenAt.cells hg
  have HF := Lib.hid hf
  clear hf
  obtain ⟨q, hq⟩ : ∃ q, q = l ++ m := ⟨_, rfl⟩
  rw [← hq]
  have HQ := Lib.hid hq
  clear hq
  go_enter Try.func39, Try.ntmps39
  go_wp2_with (at_builtin; refine wpList_append_bytes_at rfl (.tmp 8) (.tmp 9) 47 rfl 5 Try.underlying47 Try.infoU8 0 v l rfl ho a cap m rfl hb hcap (by omega) (by omega) ?_; intro v' w1 hown hgr hat; rw [← HQ.out] at hown; obtain ⟨k1, k2, k3, k4⟩ := PenAt.step hg ho HF.out hown hgr hat; obtain ⟨d0, d1, e0, e1⟩ := PenAt.cells k1; obtain ⟨a', c', rfl, _, _, _⟩ := hown.bytes; have K := Lib.hid (And.intro k2 (And.intro k3 k4)); clear k2 k3 k4)
  go_end0
  exact ⟨rfl, _, K.out.1, K.out.2.1, K.out.2.2⟩
set_option maxRecDepth 100000 in
set_option maxHeartbeats 400000 in
theorem pen_num_no (g : Nat) (f : Option Nat) (l : List Nat) (bad : Bool) (width v : Int) (w : World) (hP : PenAt w g f l bad) (h1 : -9223372036854775808 ≤ v) (h2 : v ≤ 9223372036854775807) (hno : Cod.fits width v = false) :
    Calls Try.prog 38 #[.pointer (some ⟨g, 0, none⟩), .int .i64 width, .int .i64 v] w (PenPost w g f l true) := by
  have hS := hP.setBad true
  have hO : Only (g :: f.toList) w (w.setCell ⟨g, 1, none⟩ (.bool true)) := (Only.refl _ _).setCell (by simp) _
  have hfin : ∀ e w', e = .returned (.tuple #[]) → w' = w.setCell ⟨g, 1, none⟩ (.bool true) → PenPost w g f l true e w' := by
    rintro e w' rfl rfl
    exact ⟨rfl, f, hS, hO, .inl rfl⟩
  have HF := Lib.hid hfin
  obtain ⟨v0, hg, ho, hf⟩ := hP
  obtain ⟨c0, c1, f0, f1⟩ := PenAt.cells hg
  clear hf hS hO hfin ho
  by_cases hin : 1 ≤ width ∧ width ≤ 7
  · have hW := Cod.fits_wid width v hin.1 hin.2
    rw [hno] at hW
    have hgt : width < Cod.wid v := by
      have := of_decide_eq_false hW.symm
      omega
    have HY := Lib.hid (fun W => within_yes width W hin.1 hin.2)
    have HW := Lib.hid (fun W => width_any v W h1 h2)
    generalize Cod.wid v = z at *
    clear hW hno hin
    go_enter Try.func38, Try.ntmps38
    go_wp2_with (first | (go_at_call 54; refine (HY.out _).mono ?_; rintro e w' ⟨rfl, rfl⟩) | (go_at_call 55; refine (HW.out _).mono ?_; rintro e w' ⟨rfl, rfl⟩))
    refine bodyPost_ret (results_none rfl _ _ _) rfl ?_
    exact HF.out _ _ rfl rfl
  · have HY := Lib.hid (fun W => within_no width W (by omega))
    clear hno hin
    go_enter Try.func38, Try.ntmps38
    go_wp2_with (go_at_call 54; refine (HY.out _).mono ?_; rintro e w' ⟨rfl, rfl⟩)
    refine bodyPost_ret (results_none rfl _ _ _) rfl ?_
    exact HF.out _ _ rfl rfl
set_option maxRecDepth 100000 in
set_option maxHeartbeats 400000 in
theorem pen_num_yes (g : Nat) (f : Option Nat) (l : List Nat) (bad : Bool) (k n : Nat) (w : World) (hP : PenAt w g f l bad) (h1 : 1 ≤ k) (h7 : k ≤ 7) (hn : n < 256 ^ k) (hl : l.length ≤ 1000000) :
    Calls Try.prog 38 #[.pointer (some ⟨g, 0, none⟩), .int .i64 k, .int .i64 n] w (PenPost w g f (l ++ Cod.leN k n) bad) := by
  have hn63 : n < 9223372036854775808 := by have := (Cod.pow_le k h7).1; omega
  have hle : Cod.wid (n : Int) ≤ (k : Int) := by
    unfold Cod.wid
    rw [if_neg (by omega), Int.toNat_natCast]
    have := (Cod.widN_le n k h1 h7).2 hn
    omega
  have HY := Lib.hid (fun W => within_yes k W (by omega) (by omega))
  have HW := Lib.hid (fun W => width_any n W (by omega) (by omega))
  generalize Cod.wid (n : Int) = z at *
  clear hn
  go_enter Try.func38, Try.ntmps38
  go_wp2_with (first | (go_at_call 54; refine (HY.out _).mono ?_; rintro e w' ⟨rfl, rfl⟩) | (go_at_call 55; refine (HW.out _).mono ?_; rintro e w' ⟨rfl, rfl⟩))
  go_loopw [2, 19] (fun x i wr => ∃ j : Nat, j ≤ k ∧ i = .int .i64 j ∧ x = .int .i64 (n / 256 ^ j : Nat) ∧ ∃ f', PenAt wr g f' (l ++ Cod.leN j n) bad ∧ Only (g :: f.toList) w wr ∧ (f' = f ∨ ∃ k, f' = some k ∧ w.heap.size ≤ k)) (fun _ i _ => k - (intOf i).toNat)
  case atStart => exact ⟨0, by omega, rfl, by simp, f, by simpa [Cod.leN] using hP, Only.refl _ _, .inl rfl⟩
  case round =>
    obtain ⟨j, hj, rfl, rfl, f', hP', hO, hfr⟩ := hrel
    by_cases hlt : j < k
    · have hs := Lib.hid (div_succ n j)
      have hle' := div_le n j
      obtain ⟨q, hq⟩ : ∃ q, q = l ++ Cod.leN (j + 1) n := ⟨_, rfl⟩
      have hsn : q = (l ++ Cod.leN j n) ++ [n / 256 ^ j % 256] := by rw [hq, Cod.leN_snoc, List.append_assoc]
      have HQ := Lib.hid hq
      clear hq
      have hjl : (l ++ Cod.leN j n).length ≤ 1000007 := by rw [List.length_append, Cod.leN_length]; omega
      generalize l ++ Cod.leN j n = l0 at *
      generalize n / 256 ^ j = x at *
      have hx8 : x % 256 < 256 := Nat.mod_lt _ (by omega)
      have HSN := Lib.hid hsn
      obtain ⟨v, hg, ho, hf⟩ := hP'
      have hbb : Below wr.heap.size wr (wr.alloc (.cells #[.int .u8 ((x % 256 : Nat) : Int)] 5)) := (Below.refl _ _).alloc (Nat.le_refl _) _
      have hga := (hbb.block g (Array.getElem?_eq_some_iff.1 hg).1).trans hg
      have hoa := ho.below hbb
      obtain ⟨c0, c1, f0, f1⟩ := PenAt.cells hg
      have HF := Lib.hid hf
      have HO := Lib.hid hO
      have HFR := Lib.hid hfr
      clear hf hsn hO hfr
      go_wp2_with (at_builtin; refine wpList_append_bytes_at rfl (.tmp 25) (.tmp 28) 47 rfl 5 Try.underlying47 Try.infoU8 0 v l0 rfl hoa (some ⟨wr.heap.size, 0, none⟩) 1 [x % 256] rfl (one_byte_row wr _ _ hx8) (fun e => by cases e) (by simp; omega) (by omega) ?_; intro v' w1 hown hgr hat; rw [← HSN.out] at hown; obtain ⟨k1, k2, k3, k4⟩ := PenAt.step hga hoa HF.out hown hgr hat; obtain ⟨d0, d1, e0, e1⟩ := PenAt.cells k1; obtain ⟨a', c', rfl, _, _, _⟩ := hown.bytes; have K := Lib.hid (And.intro k2 (And.intro k3 k4)); clear k1 k2 k3 k4)
      go_roundw
      case rel =>
        refine ⟨j + 1, by omega, by go_num, by rw [← hs.out]; go_num, _, by rw [← HQ.out]; exact K.out.1, ?_, ?_⟩
        · refine HO.out.trans' ((Only.of_below hbb).trans K.out.2.1) ?_
          intro y hy
          simp only [List.mem_cons, Option.mem_toList] at hy ⊢
          rcases hy with rfl | hy
          · exact .inl (.inl rfl)
          · rcases HFR.out with h | ⟨k', h, hk'⟩
            · exact .inl (.inr (by rw [← h]; exact hy))
            · rw [h] at hy; cases hy; exact .inr hk'
        · exact fresh_trans HFR.out K.out.2.2 (by have := HO.out.size; simp; omega)
      case measure => simp [intOf]; omega
    · obtain rfl : j = k := by omega
      go_wp2
      refine bodyPost_ret (results_none rfl _ _ _) rfl ?_
      exact ⟨rfl, f', hP', hO, hfr⟩
theorem pen_num (g : Nat) (f : Option Nat) (l : List Nat) (bad : Bool) (width v : Int) (w : World) (hP : PenAt w g f l bad) (h1 : -9223372036854775808 ≤ v) (h2 : v ≤ 9223372036854775807) (hl : l.length ≤ 1000000) :
    Calls Try.prog 38 #[.pointer (some ⟨g, 0, none⟩), .int .i64 width, .int .i64 v] w (PenPost w g f (if Cod.fits width v then l ++ Cod.leN width.toNat v.toNat else l) (bad || !Cod.fits width v)) := by
  cases hf : Cod.fits width v
  · simp only [Bool.false_eq_true, if_false, Bool.not_false, Bool.or_true]
    exact pen_num_no g f l bad width v w hP h1 h2 hf
  · obtain ⟨k, n, rfl, rfl, hk1, hk7, hn⟩ := (Cod.fits_iff width v).1 hf
    simp only [if_true, Bool.not_true, Bool.or_false, Int.toNat_natCast]
    exact pen_num_yes g f l bad k n w hP hk1 hk7 hn hl
/-- what Out tells -/
def OutPost (l : List Nat) (bad : Bool) (w : World) (e : Ending) (w' : World) : Prop :=
  (∃ v, e = .returned (.tuple #[v, .int .i64 (if bad then 13 else 0)]) ∧ OwnB w' 5 w.heap.size v (if bad then [] else l) ∧ (bad = true → v = .slice none 0 0)) ∧ Below w.heap.size w w'
set_option maxRecDepth 100000 in
set_option maxHeartbeats 400000 in
theorem pen_out (g : Nat) (f : Option Nat) (l : List Nat) (bad : Bool) (w : World) (hP : PenAt w g f l bad) (hl : l.length ≤ 2000000) :
    Calls Try.prog 40 #[.pointer (some ⟨g, 0, none⟩)] w (OutPost l bad w) := by
  obtain ⟨v, hg, ho, hf⟩ := hP
  obtain ⟨c0, c1, f0, f1⟩ := PenAt.cells hg
  clear hf
  cases bad
  · obtain ⟨a, cap, rfl, hb, hn, _⟩ := ho.bytes
    have hbel : Below w.heap.size w (w.alloc (.cells #[] 5)) := (Below.refl _ _).alloc (Nat.le_refl _) _
    have d0 := (hbel.cell (p := ⟨g, 0, none⟩) (Array.getElem?_eq_some_iff.1 hg).1).trans c0
    go_enter Try.func40, Try.ntmps40
    go_wp2_with (at_builtin; refine wpList_append_bytes_at rfl (.tmp 8) (.tmp 12) 47 rfl 5 Try.underlying47 Try.infoU8 w.heap.size _ [] rfl (OwnB.made (g := w.heap.size) (Nat.le_refl _) (heap_alloc_new w _) rfl (by unfold maxLen; omega)) a cap l rfl (hb.below hbel) hn (by simp; omega) (by simp) ?_; intro v' w1 hown hgr hat)
    go_ret2
    refine ⟨⟨v', rfl, hown, fun h => by cases h⟩, hbel.trans (Below.of_grown hgr (by simp) ?_)⟩
    intro k hk
    simp [Act.eval, Value.ownBlock] at hk
    omega
  · go_enter Try.func40, Try.ntmps40
    go_wp2
    go_ret2
    exact ⟨⟨_, rfl, OwnB.nil _ _ _, fun _ => rfl⟩, Below.refl _ _⟩
/-- a pen of the caller's own writes on: what lies below it stays -/
def PenNext (w : World) (g : Nat) (l : List Nat) (bad : Bool) (e : Ending) (w' : World) : Prop :=
  e = .returned (.tuple #[]) ∧ ∃ f, PenAt w' g f l bad ∧ (∀ j, f = some j → g < j) ∧ Below g w w'
theorem PenPost.next {w w' : World} {g : Nat} {f : Option Nat} {l : List Nat} {bad : Bool} {e : Ending} (h : PenPost w g f l bad e w') (hf : ∀ j, f = some j → g < j) (hg : g < w.heap.size) : PenNext w g l bad e w' := by
  obtain ⟨he, f', hP, hO, hfr⟩ := h
  refine ⟨he, f', hP, ?_, hO.below ?_ (by omega)⟩
  · intro j hj
    rcases hfr with h | ⟨k, h, hk⟩
    · exact hf j (h ▸ hj)
    · rw [h] at hj; cases hj; omega
  · intro x hx
    simp only [List.mem_cons, Option.mem_toList] at hx
    rcases hx with rfl | hx
    · exact Nat.le_refl _
    · exact Nat.le_of_lt (hf x hx)
theorem pen_to (g : Nat) (f : Option Nat) (l q : List Nat) (bad : Bool) (W V : Int) (k n : Nat) (w : World) (hP : PenAt w g f l bad) (hf : ∀ j, f = some j → g < j) (hW : W = k) (hV : V = n) (h1 : 1 ≤ k) (h7 : k ≤ 7) (hn : n < 256 ^ k) (hl : l.length ≤ 1000000) (hq : q = l ++ Cod.leN k n) :
    Calls Try.prog 38 #[.pointer (some ⟨g, 0, none⟩), .int .i64 W, .int .i64 V] w (PenNext w g q bad) := by
  subst hW hV hq
  exact (pen_num_yes g f l bad k n w hP h1 h7 hn hl).mono fun e w' h => h.next hf hP.lt
theorem pen_bytes_to (g : Nat) (f : Option Nat) (l q : List Nat) (bad : Bool) (a : Option Addr) (m : List Nat) (cap len : Nat) (w : World) (hP : PenAt w g f l bad) (hf : ∀ j, f = some j → g < j) (hb : Bytes w a m) (hcap : a = none → cap = 0) (hl : l.length ≤ 1000000) (hm : m.length ≤ 1000000) (hlen : m.length = len) (hq : q = l ++ m) :
    Calls Try.prog 39 #[.pointer (some ⟨g, 0, none⟩), .slice a len cap] w (PenNext w g q bad) := by
  subst hq hlen
  exact (pen_bytes g f l bad a m cap w hP hb hcap hl hm).mono fun e w' h => h.next hf hP.lt
end Go.Proofs.Ytfcadbeamojdpaa
