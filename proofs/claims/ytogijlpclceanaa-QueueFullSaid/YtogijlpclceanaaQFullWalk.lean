/- Proved here: the walk of the law on a queue that is full. -/
import Derived.Test.YtogijlpclceanaaQAnchor
import Derived.Test.YtogijlpclceanaaKitI
import Derived.LoopTactic
namespace Go.Proofs.Ytogijlpclceanaa
open Go.Conc Go.RowKit Go.Rv
set_option linter.unusedVariables false
/-- numbers, as values -/
def vI (l : List Int) : List Value := l.map fun x => .int .i64 x
theorem vI_take (l : List Int) (k : Nat) (y : Int) (h : l[k]? = some y) : vI (l.take (k + 1)) = vI (l.take k) ++ [.int .i64 y] := by
  have : l.take (k + 1) = l.take k ++ [y] := by
    obtain ⟨hk, rfl⟩ := List.getElem?_eq_some_iff.1 h
    exact List.take_succ_eq_append_getElem hk
  rw [this]
  simp [vI]
theorem vI_drop (l : List Int) (k m : Nat) (y : Int) (hk : k < m) (h : l[k]? = some y) : vI ((l.take m).drop k) = .int .i64 y :: vI ((l.take m).drop (k + 1)) := by
  have h1 : (l.take m)[k]? = some y := by rw [List.getElem?_take, if_pos hk]; exact h
  obtain ⟨hk', rfl⟩ := List.getElem?_eq_some_iff.1 h1
  rw [List.drop_eq_getElem_cons hk']
  rfl
theorem vI_length (l : List Int) : (vI l).length = l.length := by simp [vI]
/-- what a queue of n holds when k things have come -/
def came (l : List Int) (n k : Nat) : List Value := vI (l.take (min k n))
theorem came_lt {l : List Int} {n k : Nat} {y : Int} (hk : k < n) (h : l[k]? = some y) : came l n (k + 1) = came l n k ++ [.int .i64 y] ∧ (came l n k).length < n := by
  obtain ⟨hl, -⟩ := List.getElem?_eq_some_iff.1 h
  unfold came
  rw [show min (k + 1) n = k + 1 by omega, show min k n = k by omega]
  exact ⟨vI_take l k y h, by rw [vI_length, List.length_take]; omega⟩
theorem came_ge {l : List Int} {n k : Nat} (hk : n ≤ k) (hl : k < l.length) : came l n (k + 1) = came l n k ∧ n ≤ (came l n k).length := by
  unfold came
  rw [show min (k + 1) n = n by omega, show min k n = n by omega]
  exact ⟨rfl, by rw [vI_length, List.length_take]; omega⟩
theorem vI_nil (l : List Int) (m : Nat) (h : m ≤ l.length) : vI ((l.take m).drop m) = [] := by
  rw [List.drop_eq_nil_of_le (by rw [List.length_take]; omega)]
  rfl
set_option maxRecDepth 100000 in
set_option maxHeartbeats 4000000 in
theorem q_full_a (n : Nat) (hn1 : 1 ≤ n) (hn2 : n ≤ 4096) (b o : Nat) (l : List Int) (cap : Nat) (w : World) (hI : Ints w (some ⟨b, o, none⟩) l) (hl : l.length ≤ 200) (hm : n ≤ l.length) :
    Calls Try.prog 4 #[.int .i64 (n : Int), .slice (some ⟨b, o, none⟩) l.length cap] w fun e w' => e = .returned (.bool true) ∧ Below w.heap.size w w' := by
  have HA := Lib.hid (fun W => q_anchor W)
  have HN := Lib.hid (fun W => qi_new n W hn1 hn2)
  have HI := Lib.hid hI
  clear hI
  go_enter Try.func4, Try.ntmps4
  go_wp2_with fail
  refine (HA.out _).mono ?_
  rintro e w0 ⟨rfl, hB0⟩
  go_wp2_with fail
  refine (HN.out _).mono ?_
  rintro e w1 ⟨rfl, hQ1, hB1, z1⟩
  have hBW := hB0.trans (hB1.mono hB0.size)
  obtain ⟨c, hc⟩ : ∃ c, w0.heap.size = c := ⟨_, rfl⟩
  have zc : w.heap.size ≤ c := by have := hB0.size; omega
  rw [hc] at hQ1 z1 ⊢
  have HQ1 := Lib.hid hQ1
  have HZ1 := Lib.hid z1
  clear hQ1 hB0 hB1 hc HA HN z1
  go_wp2
  have HC0 : Hid (came l n 0 = []) := Lib.hid (by unfold came; rw [show min 0 n = 0 by omega]; rfl)
  go_loopw [33] (fun i wr => ∃ k : Nat, k ≤ l.length ∧ i = .int .i64 k ∧ QiIsQ wr (c + 1) c n (came l n k) ∧ Only [c] w1 wr) (fun i _ => l.length - (intOf i).toNat)
  case atStart => exact ⟨0, Nat.zero_le _, rfl, by rw [HC0.out]; exact HQ1.out, Only.refl _ _⟩
  case round =>
    obtain ⟨k, hk, rfl, hQ, hO⟩ := hrel
    have HQ := Lib.hid hQ
    have hB := hBW.trans (hO.below (B := w.heap.size) (by simp; omega) (by have := HZ1.out; omega))
    clear hQ
    by_cases hlt : k < l.length
    · obtain ⟨b', o', y, e, hbl, hcell, -, -, hy⟩ := HI.out.at hlt
      cases e
      have hcw := (hB.cell (p := ⟨b, o + k, none⟩) hbl).trans hcell
      have HY := Lib.hid hy
      clear hy hcell
      by_cases hkn : k < n
      · obtain ⟨h1, h2⟩ := came_lt hkn HY.out
        have H1 := Lib.hid h1
        have hP := qi_put_room wr (c + 1) c n _ (.int .i64 y) HQ.out h2
        have HP := Lib.hid hP
        clear h1 h2 hP
        go_wp2_with fail
        refine HP.out.mono ?_
        rintro e w3 ⟨rfl, hQ3, hO3⟩
        have HQ3 := Lib.hid hQ3
        clear hQ3
        go_wp2
        go_roundw
        case rel => exact ⟨k + 1, by omega, by go_num, by rw [H1.out]; exact HQ3.out, hO.trans hO3⟩
        case measure => simp [intOf]; omega
      · obtain ⟨h1, h2⟩ := came_ge (Nat.le_of_not_lt hkn) hlt
        have H1 := Lib.hid h1
        have hP := qi_put_full wr (c + 1) c n _ (.int .i64 y) HQ.out h2
        have HP := Lib.hid hP
        clear h1 h2 hP
        go_wp2_with fail
        refine HP.out.mono ?_
        rintro e w3 ⟨rfl, rfl⟩
        go_wp2
        go_roundw
        case rel => exact ⟨k + 1, by omega, by go_num, by rw [H1.out]; exact HQ.out, hO⟩
        case measure => simp [intOf]; omega
    · obtain rfl : k = l.length := by omega
      have HQ2 : Hid (QiIsQ wr (c + 1) c n (vI ((l.take n).drop 0))) := Lib.hid (by have := HQ.out; unfold came at this; rwa [show min l.length n = n by omega] at this)
      clear HQ
      go_wp2
      obtain ⟨wo, hwo⟩ : ∃ wo : World, wo = wr := ⟨_, rfl⟩
      subst hwo
      go_loopw [60] (fun i wr => ∃ k : Nat, k ≤ n ∧ i = .int .i64 k ∧ QiIsQ wr (c + 1) c n (vI ((l.take (n)).drop k)) ∧ Only [c] w1 wr) (fun i _ => n - (intOf i).toNat)
      case atStart => exact ⟨0, Nat.zero_le _, rfl, HQ2.out, hO⟩
      case round =>
        obtain ⟨k, hk, rfl, hQ, hO2⟩ := hrel
        have HQ := Lib.hid hQ
        have hB2 := hBW.trans (hO2.below (B := w.heap.size) (by simp; omega) (by have := HZ1.out; omega))
        clear hQ
        by_cases hlt : k < n
        · obtain ⟨b', o', y, e, hbl, hcell, -, -, hy⟩ := HI.out.at (show k < l.length by omega)
          cases e
          have hT := qi_take_some wr (c + 1) c n (.int .i64 y) (vI ((l.take (n)).drop (k + 1))) (by rw [← vI_drop l k _ y hlt hy]; exact HQ.out)
          have HT := Lib.hid hT
          have hkl : k < l.length := by omega
          clear hT hy
          go_wp2_with fail
          refine HT.out.mono ?_
          rintro e w3 ⟨rfl, hQ3, hO3⟩
          have HQ3 := Lib.hid hQ3
          have hcw := ((hB2.trans (hO3.below (B := w.heap.size) (by simp; omega) (by have := hB2.size; omega))).cell (p := ⟨b, o + k, none⟩) hbl).trans hcell
          clear hQ3 hcell
          go_wp2
          go_roundw
          case rel => exact ⟨k + 1, by omega, by go_num, HQ3.out, hO2.trans hO3⟩
          case measure => simp [intOf]; omega
        · obtain rfl : n = k := by omega
          have HL := Lib.hid (qi_len wr (c + 1) c n [] (by have := HQ.out; rwa [vI_nil l _ (by omega)] at this))
          go_wp2_with fail
          refine HL.out.mono ?_
          rintro e w3 ⟨rfl, rfl⟩
          go_wp2
          go_ret
          exact ⟨rfl, hB2⟩

set_option maxRecDepth 100000 in
set_option maxHeartbeats 4000000 in
theorem q_full_b (n : Nat) (hn1 : 1 ≤ n) (hn2 : n ≤ 4096) (b o : Nat) (l : List Int) (cap : Nat) (w : World) (hI : Ints w (some ⟨b, o, none⟩) l) (hl : l.length ≤ 200) (hm : l.length < n) :
    Calls Try.prog 4 #[.int .i64 (n : Int), .slice (some ⟨b, o, none⟩) l.length cap] w fun e w' => e = .returned (.bool true) ∧ Below w.heap.size w w' := by
  have HA := Lib.hid (fun W => q_anchor W)
  have HN := Lib.hid (fun W => qi_new n W hn1 hn2)
  have HI := Lib.hid hI
  clear hI
  go_enter Try.func4, Try.ntmps4
  go_wp2_with fail
  refine (HA.out _).mono ?_
  rintro e w0 ⟨rfl, hB0⟩
  go_wp2_with fail
  refine (HN.out _).mono ?_
  rintro e w1 ⟨rfl, hQ1, hB1, z1⟩
  have hBW := hB0.trans (hB1.mono hB0.size)
  obtain ⟨c, hc⟩ : ∃ c, w0.heap.size = c := ⟨_, rfl⟩
  have zc : w.heap.size ≤ c := by have := hB0.size; omega
  rw [hc] at hQ1 z1 ⊢
  have HQ1 := Lib.hid hQ1
  have HZ1 := Lib.hid z1
  clear hQ1 hB0 hB1 hc HA HN z1
  go_wp2
  have HC0 : Hid (came l n 0 = []) := Lib.hid (by unfold came; rw [show min 0 n = 0 by omega]; rfl)
  go_loopw [33] (fun i wr => ∃ k : Nat, k ≤ l.length ∧ i = .int .i64 k ∧ QiIsQ wr (c + 1) c n (came l n k) ∧ Only [c] w1 wr) (fun i _ => l.length - (intOf i).toNat)
  case atStart => exact ⟨0, Nat.zero_le _, rfl, by rw [HC0.out]; exact HQ1.out, Only.refl _ _⟩
  case round =>
    obtain ⟨k, hk, rfl, hQ, hO⟩ := hrel
    have HQ := Lib.hid hQ
    have hB := hBW.trans (hO.below (B := w.heap.size) (by simp; omega) (by have := HZ1.out; omega))
    clear hQ
    by_cases hlt : k < l.length
    · obtain ⟨b', o', y, e, hbl, hcell, -, -, hy⟩ := HI.out.at hlt
      cases e
      have hcw := (hB.cell (p := ⟨b, o + k, none⟩) hbl).trans hcell
      have HY := Lib.hid hy
      clear hy hcell
      by_cases hkn : k < n
      · obtain ⟨h1, h2⟩ := came_lt hkn HY.out
        have H1 := Lib.hid h1
        have hP := qi_put_room wr (c + 1) c n _ (.int .i64 y) HQ.out h2
        have HP := Lib.hid hP
        clear h1 h2 hP
        go_wp2_with fail
        refine HP.out.mono ?_
        rintro e w3 ⟨rfl, hQ3, hO3⟩
        have HQ3 := Lib.hid hQ3
        clear hQ3
        go_wp2
        go_roundw
        case rel => exact ⟨k + 1, by omega, by go_num, by rw [H1.out]; exact HQ3.out, hO.trans hO3⟩
        case measure => simp [intOf]; omega
      · obtain ⟨h1, h2⟩ := came_ge (Nat.le_of_not_lt hkn) hlt
        have H1 := Lib.hid h1
        have hP := qi_put_full wr (c + 1) c n _ (.int .i64 y) HQ.out h2
        have HP := Lib.hid hP
        clear h1 h2 hP
        go_wp2_with fail
        refine HP.out.mono ?_
        rintro e w3 ⟨rfl, rfl⟩
        go_wp2
        go_roundw
        case rel => exact ⟨k + 1, by omega, by go_num, by rw [H1.out]; exact HQ.out, hO⟩
        case measure => simp [intOf]; omega
    · obtain rfl : k = l.length := by omega
      have HQ2 : Hid (QiIsQ wr (c + 1) c n (vI ((l.take l.length).drop 0))) := Lib.hid (by have := HQ.out; unfold came at this; rwa [show min l.length n = l.length by omega] at this)
      clear HQ
      go_wp2
      obtain ⟨wo, hwo⟩ : ∃ wo : World, wo = wr := ⟨_, rfl⟩
      subst hwo
      go_loopw [60] (fun i wr => ∃ k : Nat, k ≤ l.length ∧ i = .int .i64 k ∧ QiIsQ wr (c + 1) c n (vI ((l.take (l.length)).drop k)) ∧ Only [c] w1 wr) (fun i _ => l.length - (intOf i).toNat)
      case atStart => exact ⟨0, Nat.zero_le _, rfl, HQ2.out, hO⟩
      case round =>
        obtain ⟨k, hk, rfl, hQ, hO2⟩ := hrel
        have HQ := Lib.hid hQ
        have hB2 := hBW.trans (hO2.below (B := w.heap.size) (by simp; omega) (by have := HZ1.out; omega))
        clear hQ
        by_cases hlt : k < l.length
        · obtain ⟨b', o', y, e, hbl, hcell, -, -, hy⟩ := HI.out.at (show k < l.length by omega)
          cases e
          have hT := qi_take_some wr (c + 1) c n (.int .i64 y) (vI ((l.take (l.length)).drop (k + 1))) (by rw [← vI_drop l k _ y hlt hy]; exact HQ.out)
          have HT := Lib.hid hT
          have hkl : k < l.length := by omega
          clear hT hy
          go_wp2_with fail
          refine HT.out.mono ?_
          rintro e w3 ⟨rfl, hQ3, hO3⟩
          have HQ3 := Lib.hid hQ3
          have hcw := ((hB2.trans (hO3.below (B := w.heap.size) (by simp; omega) (by have := hB2.size; omega))).cell (p := ⟨b, o + k, none⟩) hbl).trans hcell
          clear hQ3 hcell
          go_wp2
          go_roundw
          case rel => exact ⟨k + 1, by omega, by go_num, HQ3.out, hO2.trans hO3⟩
          case measure => simp [intOf]; omega
        · obtain rfl : l.length = k := by omega
          have HL := Lib.hid (qi_len wr (c + 1) c n [] (by have := HQ.out; rwa [vI_nil l _ (by omega)] at this))
          go_wp2_with fail
          refine HL.out.mono ?_
          rintro e w3 ⟨rfl, rfl⟩
          go_wp2
          go_ret
          exact ⟨rfl, hB2⟩

set_option maxRecDepth 100000 in
set_option maxHeartbeats 4000000 in
theorem q_full_nil (n : Nat) (hn1 : 1 ≤ n) (hn2 : n ≤ 4096) (a : Option Addr) (cap : Nat) (w : World) :
    Calls Try.prog 4 #[.int .i64 (n : Int), .slice a 0 cap] w fun e w' => e = .returned (.bool true) ∧ Below w.heap.size w w' := by
  have HA := Lib.hid (fun W => q_anchor W)
  have HN := Lib.hid (fun W => qi_new n W hn1 hn2)
  go_enter Try.func4, Try.ntmps4
  go_wp2_with fail
  refine (HA.out _).mono ?_
  rintro e w0 ⟨rfl, hB0⟩
  go_wp2_with fail
  refine (HN.out _).mono ?_
  rintro e w1 ⟨rfl, hQ1, hB1, z1⟩
  have hBW := hB0.trans (hB1.mono hB0.size)
  have HL := Lib.hid (qi_len w1 _ _ n [] hQ1)
  clear hQ1 hB0 hB1 HA HN z1
  go_wp2
  go_loopw [33] (fun i wr => i = .int .i64 0 ∧ w1 = wr) (fun i _ => (intOf i).toNat)
  case atStart => exact ⟨rfl, rfl⟩
  case round =>
    obtain ⟨rfl, rfl⟩ := hrel
    go_wp2
    go_loopw [60] (fun i wr => i = .int .i64 0 ∧ w1 = wr) (fun i _ => (intOf i).toNat)
    case atStart => exact ⟨rfl, rfl⟩
    case round =>
      obtain ⟨rfl, rfl⟩ := hrel
      go_wp2_with fail
      refine HL.out.mono ?_
      rintro e w3 ⟨rfl, rfl⟩
      go_wp2
      go_ret
      exact ⟨rfl, hBW⟩
set_option maxRecDepth 100000 in
set_option maxHeartbeats 4000000 in
theorem q_full_no (room : Int) (hr : room < 1 ∨ 4096 < room) (a : Option Addr) (len cap : Nat) (w : World) :
    Calls Try.prog 4 #[.int .i64 room, .slice a len cap] w fun e w' => e = .returned (.bool true) ∧ Below w.heap.size w w' := by
  have HA := Lib.hid (fun W => q_anchor W)
  have HN := Lib.hid (fun W => qi_new_no room W hr)
  clear hr
  go_enter Try.func4, Try.ntmps4
  go_wp2_with fail
  refine (HA.out _).mono ?_
  rintro e w0 ⟨rfl, hB0⟩
  go_wp2_with fail
  refine (HN.out _).mono ?_
  rintro e w1 ⟨rfl, rfl⟩
  go_wp2
  go_ret
  exact ⟨rfl, hB0⟩
set_option maxRecDepth 100000 in
set_option maxHeartbeats 4000000 in
theorem q_full_long (n : Nat) (hn1 : 1 ≤ n) (hn2 : n ≤ 4096) (a : Option Addr) (len cap : Nat) (hl : 200 < len) (w : World) :
    Calls Try.prog 4 #[.int .i64 (n : Int), .slice a len cap] w fun e w' => e = .returned (.bool true) ∧ Below w.heap.size w w' := by
  have HA := Lib.hid (fun W => q_anchor W)
  have HN := Lib.hid (fun W => qi_new n W hn1 hn2)
  go_enter Try.func4, Try.ntmps4
  go_wp2_with fail
  refine (HA.out _).mono ?_
  rintro e w0 ⟨rfl, hB0⟩
  go_wp2_with fail
  refine (HN.out _).mono ?_
  rintro e w1 ⟨rfl, hQ1, hB1, z1⟩
  have hBW := hB0.trans (hB1.mono hB0.size)
  clear hQ1 hB0 hB1 HA HN z1
  go_wp2
  go_ret
  exact ⟨rfl, hBW⟩
theorem q_full_walk (room : Int) (a : Option Addr) (l : List Int) (cap : Nat) (w : World) (hI : Ints w a l) :
    Calls Try.prog 4 #[.int .i64 room, .slice a l.length cap] w fun e w' => e = .returned (.bool true) ∧ Below w.heap.size w w' := by
  by_cases hr : room < 1 ∨ 4096 < room
  · exact q_full_no room hr a _ cap w
  · obtain ⟨n, rfl⟩ : ∃ n : Nat, room = n := ⟨room.toNat, by omega⟩
    by_cases hl : 200 < l.length
    · exact q_full_long n (by omega) (by omega) a _ cap hl w
    · have hI' := hI
      rcases hI.2 with rfl | ⟨b, o, rfl, -, -⟩
      · exact q_full_nil n (by omega) (by omega) a cap w
      · by_cases hm : n ≤ l.length
        · exact q_full_a n (by omega) (by omega) b o l cap w hI' (by omega) hm
        · exact q_full_b n (by omega) (by omega) b o l cap w hI' (by omega) (by omega)
end Go.Proofs.Ytogijlpclceanaa
