/- Small laws, over any program: slices of ints that are read. -/
import Derived.Test.YtogijlpclceanaaKit2
namespace Go.Rv
open Go.RowKit
/-- a slice whose elements are these ints -/
def Ints (w : World) (a : Option Addr) (l : List Int) : Prop :=
  (∀ c ∈ l, -9223372036854775808 ≤ c ∧ c ≤ 9223372036854775807) ∧ (l = [] ∨ ∃ b o, a = some ⟨b, o, none⟩ ∧ b < w.heap.size ∧ ∀ i, i < l.length → w.cell? ⟨b, o + i, none⟩ = some (.int .i64 (l.getD i 0)))
theorem Ints.nil (w : World) (a : Option Addr) : Ints w a [] := ⟨by simp, .inl rfl⟩
theorem Ints.below {w w' : World} {a : Option Addr} {l : List Int} (h : Ints w a l) (hb : Below w.heap.size w w') : Ints w' a l := by
  refine ⟨h.1, ?_⟩
  rcases h.2 with rfl | ⟨b, o, rfl, hlt, hc⟩
  · exact .inl rfl
  · exact .inr ⟨b, o, rfl, Nat.lt_of_lt_of_le hlt hb.size, fun i hi => by rw [hb.cell (by exact hlt)]; exact hc i hi⟩
theorem Ints.at {w : World} {a : Option Addr} {l : List Int} (h : Ints w a l) {k : Nat} (hk : k < l.length) : ∃ b o c, a = some ⟨b, o, none⟩ ∧ b < w.heap.size ∧ w.cell? ⟨b, o + k, none⟩ = some (.int .i64 c) ∧ -9223372036854775808 ≤ c ∧ c ≤ 9223372036854775807 ∧ l[k]? = some c := by
  rcases h.2 with rfl | ⟨b, o, rfl, hlt, hc⟩
  · simp at hk
  · have hm := h.1 _ (List.getElem_mem hk)
    refine ⟨b, o, l[k], rfl, hlt, ?_, hm.1, hm.2, List.getElem?_eq_getElem hk⟩
    rw [hc k hk, List.getD_eq_getElem?_getD, List.getElem?_eq_getElem hk]
    rfl
/-- a slice of ints that came in -/
theorem ints_of_row {w : World} {a : Option Addr} {len cap : Nat} {zs : List Int}
    (h : (a = none ∧ len = 0 ∧ cap = 0 ∧ zs = []) ∨ ∃ x, a = some x ∧ len ≤ cap ∧ cap ≤ maxLen ∧ zs.length = cap ∧ (∀ i, i < zs.length → w.cell? (x.add i) = some (.int .i64 (zs.getD i 0))) ∧ ∀ n ∈ zs, (Lit.int .i64 n).wf = true) :
    ∃ l : List Int, l.length = len ∧ Ints w a l ∧ (a = none → cap = 0) := by
  rcases h with ⟨rfl, rfl, rfl, rfl⟩ | ⟨x, rfl, hl, hm, hz, hcell, hwz⟩
  · exact ⟨[], rfl, Ints.nil _ _, fun _ => rfl⟩
  · refine ⟨zs.take len, by simp; omega, ⟨fun c hc => ?_, ?_⟩, fun e => by cases e⟩
    · have := hwz c (List.mem_of_mem_take hc)
      simp [Lit.wf, IntKind.min, IntKind.max, IntKind.signed, IntKind.bits] at this
      omega
    · by_cases h0 : len = 0
      · left; simp [h0]
      · right
        obtain ⟨b, o, spot⟩ := x
        have hc := hcell 0 (by omega)
        have hspot : spot = none := by simpa [Addr.add] using World.cell?_spot hc
        subst hspot
        refine ⟨b, o, rfl, ?_, fun i hi => ?_⟩
        · have := block_lt_of_cell hc
          simpa [Addr.add] using this
        · simp only [List.length_take] at hi
          have hc := hcell i (by omega)
          have hadd : (⟨b, o, none⟩ : Addr).add i = ⟨b, o + i, none⟩ := by unfold Addr.add; split <;> simp_all
          rw [hadd] at hc
          rw [hc]
          congr 2
          have hil : i < len := by omega
          simp [List.getD_eq_getElem?_getD, hil]
end Go.Rv
