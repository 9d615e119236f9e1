/- Proved here: the walk of the law on a queue of texts. -/
import Derived.Test.YtogijlpclceanaaQAnchor
import Derived.Test.YtogijlpclceanaaQString
import Derived.Test.YtogijlpclceanaaFit
import Derived.LoopTactic
import Derived.WalkLawsBesides
namespace Go.Proofs.Ytogijlpclceanaa
open Go.Conc Go.RowKit Go.Rv
set_option linter.unusedVariables false
/-- texts, as values -/
def vS (l : List ByteArray) : List Value := l.map fun x => .string x
theorem vS_take (l : List ByteArray) (k : Nat) (y : ByteArray) (h : l[k]? = some y) : vS (l.take (k + 1)) = vS (l.take k) ++ [.string y] := by
  have : l.take (k + 1) = l.take k ++ [y] := by
    obtain ⟨hk, rfl⟩ := List.getElem?_eq_some_iff.1 h
    exact List.take_succ_eq_append_getElem hk
  rw [this]
  simp [vS]
theorem vS_drop (l : List ByteArray) (k : Nat) (y : ByteArray) (h : l[k]? = some y) : vS (l.drop k) = .string y :: vS (l.drop (k + 1)) := by
  obtain ⟨hk', rfl⟩ := List.getElem?_eq_some_iff.1 h
  rw [List.drop_eq_getElem_cons hk']
  rfl
theorem vS_length (l : List ByteArray) : (vS l).length = l.length := by simp [vS]
set_option maxRecDepth 100000 in
set_option maxHeartbeats 4000000 in
theorem q_texts_core (b o : Nat) (l : List ByteArray) (cap : Nat) (w : World) (hb : b < w.heap.size) (hI : ∀ k y, l[k]? = some y → w.cell? ⟨b, o + k, none⟩ = some (.string y)) (hl1 : 1 ≤ l.length) (hl2 : l.length ≤ 60) :
    Calls Try.prog 3 #[.slice (some ⟨b, o, none⟩) l.length cap] w fun e w' => e = .returned (.bool true) ∧ Below w.heap.size w w' := by
  have HA := Lib.hid (fun W => q_anchor W)
  have HN := Lib.hid (fun W => qs_new l.length W hl1 (by omega))
  have HI := Lib.hid hI
  clear hI
  go_enter Try.func3, Try.ntmps3
  go_wp2_with fail
  refine (HA.out _).mono ?_
  rintro e w0 ⟨rfl, hB0⟩
  go_wp2_with fail
  refine (HN.out _).mono ?_
  rintro e w1 ⟨rfl, hQ1, hB1, z1⟩
  have hBW := hB0.trans (hB1.mono hB0.size)
  obtain ⟨c, hc⟩ : ∃ c, w0.heap.size = c := ⟨_, rfl⟩
  have zc : w.heap.size ≤ c := by have := hB0.size; omega
  rw [hc] at hQ1 z1 ⊢
  have HQ1 := Lib.hid hQ1
  have HZ1 := Lib.hid z1
  clear hQ1 hB0 hB1 hc HA HN z1
  go_wp2
  go_loopw [37] (fun i wr => ∃ k : Nat, k ≤ l.length ∧ i = .int .i64 k ∧ QsIsQ wr (c + 1) c l.length (vS (l.take k)) ∧ Only [c] w1 wr) (fun i _ => l.length - (intOf i).toNat)
  case atStart => exact ⟨0, Nat.zero_le _, rfl, HQ1.out, Only.refl _ _⟩
  case round =>
    obtain ⟨k, hk, rfl, hQ, hO⟩ := hrel
    have HQ := Lib.hid hQ
    have hB := hBW.trans (hO.below (B := w.heap.size) (by simp; omega) (by have := HZ1.out; omega))
    clear hQ
    by_cases hlt : k < l.length
    · obtain ⟨y, hy⟩ : ∃ y, l[k]? = some y := ⟨_, List.getElem?_eq_getElem hlt⟩
      have hcw := (hB.cell (p := ⟨b, o + k, none⟩) hb).trans (HI.out k y hy)
      have H1 := Lib.hid (vS_take l k y hy)
      have HP := Lib.hid (qs_put_room wr (c + 1) c l.length _ (.string y) HQ.out (by rw [vS_length, List.length_take]; omega))
      clear hy
      go_wp2_with fail
      refine HP.out.mono ?_
      rintro e w3 ⟨rfl, hQ3, hO3⟩
      have HQ3 := Lib.hid hQ3
      clear hQ3
      go_wp2
      go_roundw
      case rel => exact ⟨k + 1, by omega, by go_num, by rw [H1.out]; exact HQ3.out, hO.trans hO3⟩
      case measure => simp [intOf]; omega
    · obtain rfl : l.length = k := by omega
      have HQ2 : Hid (QsIsQ wr (c + 1) c l.length (vS (l.drop 0))) := Lib.hid (by have := HQ.out; rwa [List.take_length] at this)
      have HF := Lib.hid (qs_put_full wr (c + 1) c l.length _ (.string ⟨#[]⟩) HQ2.out (by rw [vS_length, List.drop_zero]; omega))
      clear HQ
      go_wp2_with fail
      refine HF.out.mono ?_
      rintro e w3 ⟨rfl, rfl⟩
      go_wp2
      obtain ⟨wo, hwo⟩ : ∃ wo : World, wo = wr := ⟨_, rfl⟩
      subst hwo
      go_loopw [51] (fun i wr => ∃ k : Nat, k ≤ l.length ∧ i = .int .i64 k ∧ QsIsQ wr (c + 1) c l.length (vS (l.drop k)) ∧ Only [c] w1 wr) (fun i _ => l.length - (intOf i).toNat)
      case atStart => exact ⟨0, Nat.zero_le _, rfl, HQ2.out, hO⟩
      case round =>
        obtain ⟨k, hk, rfl, hQ, hO2⟩ := hrel
        have HQ := Lib.hid hQ
        have hB2 := hBW.trans (hO2.below (B := w.heap.size) (by simp; omega) (by have := HZ1.out; omega))
        clear hQ
        by_cases hlt : k < l.length
        · obtain ⟨y, hy⟩ : ∃ y, l[k]? = some y := ⟨_, List.getElem?_eq_getElem hlt⟩
          have HT := Lib.hid (qs_take_some wr (c + 1) c l.length (.string y) (vS (l.drop (k + 1))) (by rw [← vS_drop l k y hy]; exact HQ.out))
          have hcw := (hB2.cell (p := ⟨b, o + k, none⟩) hb).trans (HI.out k y hy)
          clear hy
          go_wp2_with fail
          refine HT.out.mono ?_
          rintro e w3 ⟨rfl, hQ3, hO3⟩
          have HQ3 := Lib.hid hQ3
          clear hQ3
          go_wp2
          go_roundw
          case rel => exact ⟨k + 1, by omega, by go_num, HQ3.out, hO2.trans hO3⟩
          case measure => simp [intOf]; omega
        · obtain rfl : l.length = k := by omega
          have HL := Lib.hid (qs_take_none wr (c + 1) c l.length (by have := HQ.out; rwa [List.drop_length] at this))
          go_wp2_with fail
          refine HL.out.mono ?_
          rintro e w3 ⟨rfl, rfl⟩
          go_wp2
          go_ret
          exact ⟨rfl, hB2⟩
set_option maxRecDepth 100000 in
set_option maxHeartbeats 4000000 in
theorem q_texts_no (a : Option Addr) (len cap : Nat) (w : World) (hl : len < 1 ∨ 60 < len) :
    Calls Try.prog 3 #[.slice a len cap] w fun e w' => e = .returned (.bool true) ∧ Below w.heap.size w w' := by
  have HA := Lib.hid (fun W => q_anchor W)
  rcases hl with hl | hl
  · go_enter Try.func3, Try.ntmps3
    go_wp2_with fail
    refine (HA.out _).mono ?_
    rintro e w0 ⟨rfl, hB0⟩
    go_wp2
    go_ret
    exact ⟨rfl, hB0⟩
  · go_enter Try.func3, Try.ntmps3
    go_wp2_with fail
    refine (HA.out _).mono ?_
    rintro e w0 ⟨rfl, hB0⟩
    go_wp2
    go_ret
    exact ⟨rfl, hB0⟩
set_option maxRecDepth 100000 in
theorem q_texts_walk (v : Value) (w : World) (hf : Fits Try.prog w 6 22 v.cells.toList) (hv : ∃ a len cap, v = .slice a len cap) :
    Calls Try.prog 3 #[v] w fun e w' => e = .returned (.bool true) ∧ Below w.heap.size w w' := by
  obtain ⟨a, len, cap, rfl⟩ := hv
  by_cases hl : len < 1 ∨ 60 < len
  · exact q_texts_no a len cap w hl
  · have k1 : Try.prog.cellsOf 9 = 1 := by kernel_rfl
    obtain ⟨h1, h2, h3, h4⟩ := row_of_fits (d := 5) Try.underlying22 (Nat.lt_of_lt_of_eq Nat.one_pos k1.symm) hf
    rcases h4 with h4 | ⟨b, o, rfl, hb, hi⟩
    · omega
    · rw [k1] at hi
      obtain ⟨l, hl1, hl2⟩ := list_of_forall (Q := fun i (x : ByteArray) => w.cell? ⟨b, o + i, none⟩ = some (.string x)) len fun i hil => by
        obtain ⟨cs, c1, c2, c3⟩ := hi i hil
        obtain ⟨s, rfl, -⟩ := fits_string (d := 4) Try.underlying9 c3
        exact ⟨s, by have := c2 0 (by omega); simpa using this⟩
      subst hl1
      exact q_texts_core b o l cap w hb hl2 (by omega) (by omega)
end Go.Proofs.Ytogijlpclceanaa
