/- Small laws: a slice of the law's items (two ints and bytes), as it came in. -/
import Derived.Test.YtihngpibccodfaaProg
import Derived.Test.YtihngpibccodfaaFit
namespace Go.Proofs.Ytihngpibccodfaa
open Go.RowKit Go.Rv
set_option linter.unusedVariables false
structure It where
  wd : Int
  v : Int
  a : Option Addr
  cap : Nat
  b : List Nat
/-- what is known of an item -/
def ItOk (w : World) (x : It) : Prop := (-9223372036854775808 ≤ x.wd ∧ x.wd ≤ 9223372036854775807) ∧ (-9223372036854775808 ≤ x.v ∧ x.v ≤ 9223372036854775807) ∧ Bytes w x.a x.b ∧ (x.a = none → x.cap = 0) ∧ x.b.length ≤ x.cap ∧ x.cap ≤ 9223372036854775807
def Items (w : World) (a : Option Addr) (xs : List It) : Prop :=
  (∀ x ∈ xs, ItOk w x) ∧ (xs = [] ∨ ∃ b o, a = some ⟨b, o, none⟩ ∧ b < w.heap.size ∧ ∀ i x, xs[i]? = some x → w.cell? ⟨b, o + i * 3, none⟩ = some (.int .i64 x.wd) ∧ w.cell? ⟨b, o + i * 3 + 1, none⟩ = some (.int .i64 x.v) ∧ w.cell? ⟨b, o + i * 3 + 2, none⟩ = some (.slice x.a x.b.length x.cap))
theorem Items.below {w w' : World} {a : Option Addr} {xs : List It} (h : Items w a xs) (hb : Below w.heap.size w w') : Items w' a xs := by
  refine ⟨fun x hx => ?_, ?_⟩
  · obtain ⟨h1, h2, h3, h4⟩ := h.1 x hx
    exact ⟨h1, h2, h3.below hb, h4⟩
  · rcases h.2 with rfl | ⟨b, o, rfl, hlt, hc⟩
    · exact .inl rfl
    · refine .inr ⟨b, o, rfl, Nat.lt_of_lt_of_le hlt hb.size, fun i x hi => ?_⟩
      rw [hb.cell (by exact hlt), hb.cell (by exact hlt), hb.cell (by exact hlt)]
      exact hc i x hi
theorem cells48 : Try.prog.cellsOf 48 = 3 := by kernel_rfl
theorem cells3 : Try.prog.cellsOf 3 = 1 := by kernel_rfl
theorem cells5 : Try.prog.cellsOf 5 = 1 := by kernel_rfl
theorem cells26 : Try.prog.cellsOf 26 = 1 := by kernel_rfl
theorem wf_i64 {n : Int} (h : (Lit.int .i64 n).wf = true) : -9223372036854775808 ≤ n ∧ n ≤ 9223372036854775807 := by
  simp [Lit.wf, IntKind.min, IntKind.max, IntKind.signed, IntKind.bits] at h
  omega
theorem items_of_fits {w : World} {a : Option Addr} {len cap : Nat} (h : Fits Try.prog w 6 45 [.slice a len cap]) : ∃ xs : List It, xs.length = len ∧ Items w a xs ∧ len ≤ cap ∧ cap ≤ 9223372036854775807 := by
  obtain ⟨hl, hm, hn, hr⟩ := row_of_fits Try.underlying45 (by rw [cells48]; omega) h
  rcases hr with h0 | ⟨b, o, rfl, hlt, hi⟩
  · exact ⟨[], by simp [h0], ⟨by simp, .inl rfl⟩, hl, hm⟩
  · rw [cells48] at hi
    obtain ⟨xs, hx1, hx2⟩ := list_of_forall (Q := fun i (x : It) => ItOk w x ∧ w.cell? ⟨b, o + i * 3, none⟩ = some (.int .i64 x.wd) ∧ w.cell? ⟨b, o + i * 3 + 1, none⟩ = some (.int .i64 x.v) ∧ w.cell? ⟨b, o + i * 3 + 2, none⟩ = some (.slice x.a x.b.length x.cap)) len fun i hil => by
      obtain ⟨cs, h1, h2, h3⟩ := hi i hil
      obtain ⟨_, h3⟩ := fits_struct Try.underlying48 h3
      match cs, h1 with
      | [c0, c1, c2], _ =>
        obtain ⟨n0, e0, w0⟩ := fits_int Try.underlying3 (h3 _ (List.mem_cons_self ..))
        obtain ⟨n1, e1, w1⟩ := fits_int Try.underlying3 (h3 _ (List.mem_cons_of_mem _ (List.mem_cons_self ..)))
        have h4 := h3 _ (List.mem_cons_of_mem _ (List.mem_cons_of_mem _ (List.mem_cons_self ..)))
        simp [cells3, cells26] at e0 e1 h4
        subst e0 e1
        obtain ⟨ab, lb, cb, rfl⟩ := slice_of_fits Try.underlying26 h4
        obtain ⟨lb', rfl, hb, hbn, hbl, hbm⟩ := bytes_of_fits Try.underlying26 Try.underlying5 cells5 h4
        exact ⟨⟨n0, n1, ab, cb, lb'⟩, ⟨wf_i64 w0, wf_i64 w1, hb, hbn, hbl, hbm⟩, h2 0 (by omega), h2 1 (by omega), h2 2 (by omega)⟩
    refine ⟨xs, hx1, ⟨fun x hx => ?_, .inr ⟨b, o, rfl, hlt, fun i x hi => (hx2 i x hi).2⟩⟩, hl, hm⟩
    obtain ⟨i, hi, rfl⟩ := List.getElem_of_mem hx
    exact (hx2 i _ (List.getElem?_eq_getElem hi)).1
end Go.Proofs.Ytihngpibccodfaa
