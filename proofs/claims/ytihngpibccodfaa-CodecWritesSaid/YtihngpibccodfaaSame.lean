/- Proved here: the contract of the document's Same: whether two slices read as the same bytes. -/
import Derived.Test.YtihngpibccodfaaProg
import Derived.Test.YtihngpibccodfaaKit2
import Derived.Deep.QuietTactic
import Derived.BigQuiet
namespace Go.Proofs.Ytihngpibccodfaa
open Go.RowKit Go.Rv
set_option linter.unusedVariables false
theorem same_pref {a b : List Nat} {k : Nat} (h : a.take k = b.take k) {x y : Nat} (ha : a[k]? = some x) (hb : b[k]? = some y) (e : x = y) : a.take (k + 1) = b.take (k + 1) := by
  obtain ⟨h1, rfl⟩ := List.getElem?_eq_some_iff.1 ha
  obtain ⟨h2, rfl⟩ := List.getElem?_eq_some_iff.1 hb
  rw [List.take_succ_eq_append_getElem h1, List.take_succ_eq_append_getElem h2, h, e]
theorem same_no {a b : List Nat} {k : Nat} {x y : Nat} (ha : a[k]? = some x) (hb : b[k]? = some y) (e : ¬ x = y) : a ≠ b := by
  rintro rfl
  rw [ha] at hb
  exact e (by injection hb)
set_option maxRecDepth 100000 in
set_option maxHeartbeats 400000 in
theorem rsame_any (a b : Option Addr) (l m : List Nat) (ca cb : Nat) (w : World) (ha : Bytes w a l) (hb : Bytes w b m) (hl : l.length ≤ 9223372036854775807) (hm : m.length ≤ 9223372036854775807) :
    Calls Try.prog 14 #[.slice a l.length ca, .slice b m.length cb] w fun e w' => e = .returned (.bool (decide (l = m))) ∧ ∃ n, w' = w.drewN n := by
  by_cases hlen : l.length = m.length
  · have hbl : (((l.length : Nat) : Int) != ((m.length : Nat) : Int)) = false := by rw [bne_eq_false_iff_eq]; omega
    have HL := Lib.hid hlen
    have hle : l.length ≤ m.length := by omega
    clear hlen
    go_enter Try.func14, Try.ntmps14
    go_wp2
    go_loopw [5] (fun i wr => ∃ k : Nat, k ≤ l.length ∧ i = .int .i64 k ∧ l.take k = m.take k ∧ ∃ n, wr = w.drewN n) (fun i _ => l.length - (intOf i).toNat)
    case atStart => exact ⟨0, by omega, rfl, by simp, 0, rfl⟩
    case round =>
      obtain ⟨k, hk, rfl, hpre, n, rfl⟩ := hrel
      by_cases hlt : k < l.length
      · have hlm : k < m.length := by omega
        obtain ⟨b1, o1, c1, rfl, hb1, hc1, hc81, hlk1⟩ := ha.at hlt
        obtain ⟨b2, o2, c2, rfl, hb2, hc2, hc82, hlk2⟩ := hb.at hlm
        have HP := Lib.hid hpre
        have H1 := Lib.hid hlk1
        have H2 := Lib.hid hlk2
        have i1 : (k : Int) < (l.length : Int) := by omega
        have i2 : (k : Int) < (m.length : Int) := by omega
        clear hpre hlk1 hlk2
        by_cases hc : c1 = c2
        · have hne : ((c1 : Int) != (c2 : Int)) = false := by rw [bne_eq_false_iff_eq]; omega
          have HC := Lib.hid hc
          clear hc
          go_wp2
          go_quiet (fail)
          go_wp2
          go_roundw
          case rel => exact ⟨k + 1, by omega, by go_num, same_pref HP.out H1.out H2.out HC.out, _, rfl⟩
          case measure => simp [intOf]; omega
        · have hne : ((c1 : Int) != (c2 : Int)) = true := by rw [bne_iff_ne]; omega
          have hno := same_no H1.out H2.out hc
          have HN := Lib.hid (decide_eq_false hno)
          clear hno hc
          go_wp2
          go_quiet (fail)
          go_wp2
          go_ret
          exact ⟨by rw [HN.out]; rfl, _, World.drewN_drewN _ _ _⟩
      · obtain rfl : k = l.length := by omega
        have e : l = m := by
          have h1 := HL.out
          rw [List.take_length, h1, List.take_length] at hpre
          exact hpre
        have HN := Lib.hid (decide_eq_true e)
        clear e hpre
        go_wp2
        go_ret
        exact ⟨by rw [HN.out]; rfl, _, rfl⟩
  · have hbl : (((l.length : Nat) : Int) != ((m.length : Nat) : Int)) = true := by rw [bne_iff_ne]; omega
    have hno : ¬ l = m := fun e => hlen (by rw [e])
    have HN := Lib.hid (decide_eq_false hno)
    clear hno hlen
    go_enter Try.func14, Try.ntmps14
    go_wp2
    go_ret
    exact ⟨by rw [HN.out]; rfl, 0, rfl⟩
theorem rsame_b (a b : Option Addr) (l m : List Nat) (ca cb : Nat) (w : World) (ha : Bytes w a l) (hb : Bytes w b m) (hl : l.length ≤ 9223372036854775807) (hm : m.length ≤ 9223372036854775807) (d : Bool) (hd : decide (l = m) = d) :
    Calls Try.prog 14 #[.slice a l.length ca, .slice b m.length cb] w fun e w' => e = .returned (.bool d) ∧ Below w.heap.size w w' := by
  subst hd
  refine (rsame_any a b l m ca cb w ha hb hl hm).mono ?_
  rintro e w' ⟨rfl, n, rfl⟩
  exact ⟨rfl, ⟨rfl, rfl, rfl, Nat.le_refl _, fun _ _ => rfl⟩⟩
end Go.Proofs.Ytihngpibccodfaa
