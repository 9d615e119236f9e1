/- Plain mathematics: a sector of which bits are turned. -/
import Derived.Test.YtfcadbeamojdpaaFrMath
import Derived.Test.YtfcadbeamojdpaaMathB
import Derived.Test.YtfcadbeamojdpaaMathE
namespace Crc
def xorAt (l : List Nat) (i : Nat) : List Nat := l.set (i / 8) (l.getD (i / 8) 0 ^^^ 2 ^ (i % 8))
def turned (S : List Nat) (p w : Nat) : Nat → List Nat
  | 0 => S
  | k + 1 => if w.testBit k then xorAt (turned S p w k) (p + k) else turned S p w k
theorem length_turned (S : List Nat) (p w k : Nat) : (turned S p w k).length = S.length := by
  induction k with
  | zero => rfl
  | succ k ih => unfold turned; split <;> simp [xorAt, ih]
theorem xorAt_lt {l : List Nat} (hl : ∀ c ∈ l, c < 256) (i : Nat) : ∀ c ∈ xorAt l i, c < 256 := by
  intro c hc
  rcases List.mem_or_eq_of_mem_set hc with h | h
  · exact hl c h
  · rw [h]
    exact Nat.xor_lt_two_pow (n := 8) (getD_lt hl _) (by
      have : i % 8 < 8 := Nat.mod_lt _ (by omega)
      exact Nat.pow_lt_pow_right (by omega) this)
theorem turned_lt {S : List Nat} (hS : ∀ c ∈ S, c < 256) (p w k : Nat) : ∀ c ∈ turned S p w k, c < 256 := by
  induction k with
  | zero => exact hS
  | succ k ih =>
    unfold turned
    split
    · exact xorAt_lt ih _
    · exact ih
theorem or_xor {x r : Nat} (h : x.testBit r = false) : x ||| 2 ^ r = x ^^^ 2 ^ r := by
  apply Nat.eq_of_testBit_eq
  intro i
  rw [Nat.testBit_or, Nat.testBit_xor, Nat.testBit_two_pow]
  by_cases e : r = i
  · subst e
    rw [h]
    simp
  · simp [e]
theorem turned_zip (S : List Nat) (p w k : Nat) (hk : p + k ≤ 8 * S.length) : turned S p w k = List.zipWith (· ^^^ ·) S (burst S.length p w k) := by
  induction k with
  | zero =>
    apply List.ext_getElem
    · simp [turned, burst]
    · intro i h1 h2
      simp [turned, burst]
  | succ k ih =>
    have ih := ih (by omega)
    by_cases hw : w.testBit k = true
    · have hb := bitOf_burst S.length p w k (p + k) (by omega)
      rw [show (decide (p + k < p + k)) = false by simp, Bool.false_and, Bool.and_false] at hb
      unfold bitOf at hb
      have hx := or_xor hb
      unfold turned burst
      rw [if_pos hw, if_pos hw, ih]
      have hl := length_burst S.length p w k
      generalize burst S.length p w k = B at *
      unfold xorAt orAt
      rw [hx]
      apply List.ext_getElem
      · simp [hl]
      · intro i h1 h2
        have hi : i < S.length := by simp [hl] at h1; omega
        simp only [List.getElem_set, List.getElem_zipWith]
        by_cases e : (p + k) / 8 = i
        · subst e
          have hz : (p + k) / 8 < (List.zipWith (fun x1 x2 => x1 ^^^ x2) S B).length := by simp [hl]; exact hi
          have g1 : (List.zipWith (fun x1 x2 => x1 ^^^ x2) S B).getD ((p + k) / 8) 0 = S[(p + k) / 8] ^^^ B[(p + k) / 8]'(by omega) := by
            rw [List.getD_eq_getElem?_getD, List.getElem?_eq_getElem hz, List.getElem_zipWith]
            rfl
          have g2 : B.getD ((p + k) / 8) 0 = B[(p + k) / 8]'(by omega) := by
            rw [List.getD_eq_getElem?_getD, List.getElem?_eq_getElem (by omega)]
            rfl
          rw [if_pos rfl, if_pos rfl, g1, Nat.xor_assoc]
          congr 2
          exact g2.symm
        · rw [if_neg e, if_neg e]
    · unfold turned burst
      rw [if_neg hw, if_neg hw]
      exact ih
end Crc
namespace Frm
theorem turned_dec {f : Fr} (hb : Body f.body) (p w : Nat) (hw : w < 2 ^ 32) (h0 : w ≠ 0) (hp : p ≤ 480) : decF (Crc.turned (sectorOf f) p w 32) = (Fr.zero, 11) := by
  have hS := sector_length hb
  have hz := Crc.turned_zip (sectorOf f) p w 32 (by omega)
  have hl := Crc.length_burst 64 p w 32
  rw [hS] at hz
  have hx := Crc.xorTo_zip (sectorOf f) (Crc.burst 64 p w 32) (by rw [hS, hl])
  rw [← hz, hS] at hx
  have hp := Crc.patterns (frB f) (Crc.burst 64 p w 32) (frB_lt hb) (Crc.burst_lt _ _ _ _) (by rw [hl, frB_length hb]) (Crc.turned (sectorOf f) p w 32) (by rw [hl, ← hx]; rfl)
  rw [Crc.length_turned, hS] at hp
  unfold decF
  rw [if_neg (fun h => Crc.burst_ne 64 p w (by omega) hw h0 (hp.1 h))]
end Frm
