/- Proved here: the contracts of the document's own functions (Over, Sum, Same): what each answers, and that it leaves the world alone. -/
import Derived.Test.YthabhmgolfoccaaAnchor
import Derived.Deep.QuietTactic
import Derived.BigQuiet
namespace Go.Proofs.Ythabhmgolfoccaa
open Go.RowKit Go.Rv
set_option linter.unusedVariables false
set_option maxRecDepth 100000 in
set_option maxHeartbeats 400000 in
theorem rover_any (r : Nat) (a : Option Addr) (l : List Nat) (cap : Nat) (hr : r < 2 ^ 32) (w : World) (hb : Bytes w a l) (hlen : l.length ≤ 9223372036854775807) :
    Calls Try.prog 15 #[.int .u32 r, .slice a l.length cap] w fun e w' => e = .returned (.int .u32 (Crc.over r l : Nat)) ∧ w = w' := by
  go_enter Try.func15, Try.ntmps15
  go_wp2
  go_loop [0, 5] (fun q i => ∃ k : Nat, k ≤ l.length ∧ i = .int .i64 k ∧ q = .int .u32 (Crc.over r (l.take k) : Nat)) (fun _ i => l.length - (intOf i).toNat)
  case atStart => exact ⟨0, by omega, rfl, rfl⟩
  case round =>
    obtain ⟨k, hk, rfl, rfl⟩ := hrel
    by_cases hlt : k < l.length
    · obtain ⟨b, o, c, rfl, hbl, hc, hc8, hlk⟩ := hb.at hlt
      have hs := Lib.hid (over_take_succ r l k c hlk)
      have hl32 := over_take_lt hr hb.1 k
      clear hlk
      generalize Crc.over r (l.take k) = q at *
      go_wp2_with (first | (go_at_call 24; refine (rstep_any _ _ hl32 hc8 _).mono ?_; rintro e w1 ⟨rfl, rfl⟩))
      go_round
      case rel => exact ⟨k + 1, by omega, by go_num, by rw [hs.out]⟩
      case measure => simp [intOf]; omega
    · obtain rfl : k = l.length := by omega
      go_wp2
      go_ret
      exact ⟨by first | rfl | (rw [List.take_length]; rfl), rfl⟩
theorem sub_ones_i (x : Nat) (hx : x < 2 ^ 32) : (4294967295 : Int) - (x : Int) = ((x ^^^ Crc.ones : Nat) : Int) := by
  rw [← Crc.sub_ones hx]
  unfold Crc.ones
  omega
set_option maxRecDepth 100000 in
set_option maxHeartbeats 400000 in
theorem rsum_any (a : Option Addr) (l : List Nat) (cap : Nat) (w : World) (hb : Bytes w a l) (hlen : l.length ≤ 9223372036854775807) :
    Calls Try.prog 17 #[.slice a l.length cap] w fun e w' => e = .returned (.int .u32 (Crc.sum l : Nat)) ∧ w = w' := by
  have ho : Crc.over Crc.ones l < 2 ^ 32 := Crc.over_lt Crc.ones_lt hb.1
  have hx := sub_ones_i (Crc.over Crc.ones l) ho
  have hs : Crc.sum l = Crc.over Crc.ones l ^^^ Crc.ones := rfl
  rw [← hs] at hx
  have HX := Lib.hid hx
  clear hs hx
  have hc := fun w0 h0 => rover_any 4294967295 a l cap (by omega) w0 h0 hlen
  rw [show Crc.over 4294967295 l = Crc.over Crc.ones l from rfl] at hc
  generalize Crc.over Crc.ones l = q at *
  have HC := Lib.hid hc
  clear hc
  go_enter Try.func17, Try.ntmps17
  go_wp2_with (go_at_call 15; refine (HC.out _ hb).mono ?_; rintro e w1 ⟨rfl, rfl⟩)
  go_ret
  refine ⟨?_, rfl⟩
  rw [← HX.out]
  rfl
theorem same_pref {a b : List Nat} {k : Nat} (h : a.take k = b.take k) {x y : Nat} (ha : a[k]? = some x) (hb : b[k]? = some y) (e : x = y) : a.take (k + 1) = b.take (k + 1) := by
  obtain ⟨h1, rfl⟩ := List.getElem?_eq_some_iff.1 ha
  obtain ⟨h2, rfl⟩ := List.getElem?_eq_some_iff.1 hb
  rw [List.take_succ_eq_append_getElem h1, List.take_succ_eq_append_getElem h2, h, e]
theorem same_no {a b : List Nat} {k : Nat} {x y : Nat} (ha : a[k]? = some x) (hb : b[k]? = some y) (e : ¬ x = y) : a ≠ b := by
  rintro rfl
  rw [ha] at hb
  exact e (by injection hb)
set_option maxRecDepth 100000 in
set_option maxHeartbeats 400000 in
theorem rsame_any (a b : Option Addr) (l m : List Nat) (ca cb : Nat) (w : World) (ha : Bytes w a l) (hb : Bytes w b m) (hl : l.length ≤ 9223372036854775807) (hm : m.length ≤ 9223372036854775807) :
    Calls Try.prog 21 #[.slice a l.length ca, .slice b m.length cb] w fun e w' => e = .returned (.bool (decide (l = m))) ∧ ∃ n, w' = w.drewN n := by
  by_cases hlen : l.length = m.length
  · have hbl : (((l.length : Nat) : Int) != ((m.length : Nat) : Int)) = false := by rw [bne_eq_false_iff_eq]; omega
    have HL := Lib.hid hlen
    have hle : l.length ≤ m.length := by omega
    clear hlen
    go_enter Try.func21, Try.ntmps21
    go_wp2
    go_loopw [5] (fun i wr => ∃ k : Nat, k ≤ l.length ∧ i = .int .i64 k ∧ l.take k = m.take k ∧ ∃ n, wr = w.drewN n) (fun i _ => l.length - (intOf i).toNat)
    case atStart => exact ⟨0, by omega, rfl, by simp, 0, rfl⟩
    case round =>
      obtain ⟨k, hk, rfl, hpre, n, rfl⟩ := hrel
      by_cases hlt : k < l.length
      · have hlm : k < m.length := by omega
        obtain ⟨b1, o1, c1, rfl, hb1, hc1, hc81, hlk1⟩ := ha.at hlt
        obtain ⟨b2, o2, c2, rfl, hb2, hc2, hc82, hlk2⟩ := hb.at hlm
        have HP := Lib.hid hpre
        have H1 := Lib.hid hlk1
        have H2 := Lib.hid hlk2
        have i1 : (k : Int) < (l.length : Int) := by omega
        have i2 : (k : Int) < (m.length : Int) := by omega
        clear hpre hlk1 hlk2
        by_cases hc : c1 = c2
        · have hne : ((c1 : Int) != (c2 : Int)) = false := by rw [bne_eq_false_iff_eq]; omega
          have HC := Lib.hid hc
          clear hc
          go_wp2
          go_quiet (fail)
          go_wp2
          go_roundw
          case rel => exact ⟨k + 1, by omega, by go_num, same_pref HP.out H1.out H2.out HC.out, _, rfl⟩
          case measure => simp [intOf]; omega
        · have hne : ((c1 : Int) != (c2 : Int)) = true := by rw [bne_iff_ne]; omega
          have hno := same_no H1.out H2.out hc
          have HN := Lib.hid (decide_eq_false hno)
          clear hno hc
          go_wp2
          go_quiet (fail)
          go_wp2
          go_ret
          exact ⟨by rw [HN.out]; rfl, _, World.drewN_drewN _ _ _⟩
      · obtain rfl : k = l.length := by omega
        have e : l = m := by
          have h1 := HL.out
          rw [List.take_length, h1, List.take_length] at hpre
          exact hpre
        have HN := Lib.hid (decide_eq_true e)
        clear e hpre
        go_wp2
        go_ret
        exact ⟨by rw [HN.out]; rfl, _, rfl⟩
  · have hbl : (((l.length : Nat) : Int) != ((m.length : Nat) : Int)) = true := by rw [bne_iff_ne]; omega
    have hno : ¬ l = m := fun e => hlen (by rw [e])
    have HN := Lib.hid (decide_eq_false hno)
    clear hno hlen
    go_enter Try.func21, Try.ntmps21
    go_wp2
    go_ret
    exact ⟨by rw [HN.out]; rfl, 0, rfl⟩
end Go.Proofs.Ythabhmgolfoccaa
