/- Small laws, over any program: a row of numbers that are bits, and how long division turns it. -/
import Derived.Test.YtfcadbeamojdpaaKitV
import Derived.Test.YtfcadbeamojdpaaMath
namespace Crc
theorem flips_snoc (f : Nat → Bool) (i : Nat) (l : List Nat) (p : Nat) : flips f i (l ++ [p]) = flip1 (flips f i l) (i + 32 - p) := by
  induction l generalizing f with
  | nil => rfl
  | cons q l ih => exact ih _
theorem flips_take (f : Nat → Bool) (i k p : Nat) (h : powers[k]? = some p) : flips f i (powers.take (k + 1)) = flip1 (flips f i (powers.take k)) (i + 32 - p) := by
  obtain ⟨hk, rfl⟩ := List.getElem?_eq_some_iff.1 h
  rw [List.take_succ_eq_append_getElem hk, flips_snoc]
end Crc
namespace Go.Rv
/-- bits, as whole numbers -/
def pv (f : Nat → Bool) (n : Nat) : List Value := (List.range n).map fun i => .int .i64 ((f i).toNat : Nat)
theorem pv_len (f : Nat → Bool) (n : Nat) : (pv f n).length = n := by simp [pv]
theorem pv_at (f : Nat → Bool) {n i : Nat} (h : i < n) : (pv f n)[i]? = some (.int .i64 ((f i).toNat : Nat)) := by simp [pv, h]
theorem pv_succ (f : Nat → Bool) (n : Nat) : pv f n ++ [.int .i64 ((f n).toNat : Nat)] = pv f (n + 1) := by simp [pv, List.range_succ]
theorem pv_flip (f : Nat → Bool) (n p : Nat) : (pv f n).set p (.int .i64 ((!f p).toNat : Nat)) = pv (Crc.flip1 f p) n := by
  apply List.ext_getElem?
  intro i
  rw [List.getElem?_set]
  by_cases hi : i < n
  · rw [pv_at _ hi, pv_at _ hi, pv_len]
    by_cases hp : p = i
    · subst hp
      simp [hi, Crc.flip1]
    · have : ¬ i = p := fun e => hp e.symm
      simp [hp, this, Crc.flip1]
  · have h1 : ∀ g : Nat → Bool, (pv g n)[i]? = none := fun g => List.getElem?_eq_none (by rw [pv_len]; omega)
    rw [h1, h1, pv_len]
    by_cases hp : p = i
    · subst hp
      simp [hi]
    · simp [hp]
theorem pv_one (f : Nat → Bool) (n : Nat) : ∀ x ∈ pv f n, x.oneCell' = true := by
  intro x hx
  simp only [pv, List.mem_map] at hx
  obtain ⟨i, _, rfl⟩ := hx
  rfl
end Go.Rv
