/- Small laws, over any program: what an argument's cells look like, by its type: arrays, structs and slices of whatever make. -/
import Derived.OpenShut
import Derived.DataReads
import Derived.ChangeArms
import Derived.Deep.Slices
import Derived.WideShapes
import Derived.Test.YtogijlpclceanaaKitI
namespace Go.Rv
open Go.RowKit
/-- cells that read as a value of a type: numbers, bools, texts, arrays, structs and slices of them; of other types nothing is said -/
def Fits (P : Program) (w : World) : Nat → TypeId → List Value → Prop
  | 0, _, _ => True
  | f + 1, t, cs =>
    match P.underlying t with
    | some .bool => ∃ b, cs = [.bool b]
    | some (.int k) => ∃ n, cs = [.int k n] ∧ (Lit.int k n).wf = true
    | some .string => ∃ s, cs = [.string s] ∧ s.size ≤ maxLen
    | some (.slice e) => cs = [.slice none 0 0] ∨ ∃ a len cap, cs = [.slice (some a) len cap] ∧ len ≤ cap ∧ cap ≤ maxLen ∧ ∀ i, i < len → ∃ cs', cs'.length = P.cellsOf e ∧ (∀ j, j < P.cellsOf e → w.cell? ((a.add (i * P.cellsOf e)).add j) = cs'[j]?) ∧ Fits P w f e cs'
    | some (.struct fs) => cs.length = P.cellsOf t ∧ ∀ x ∈ fs.toList, Fits P w f x.type ((cs.drop x.offset).take (P.cellsOf x.type))
    | some (.array n e) => cs.length = P.cellsOf t ∧ ∀ i, i < n → Fits P w f e ((cs.drop (i * P.cellsOf e)).take (P.cellsOf e))
    | some (.pointer e) => cs = [.pointer none] ∨ ∃ a cs', cs = [.pointer (some a)] ∧ cs'.length = P.cellsOf e ∧ (∀ j, j < P.cellsOf e → w.cell? (a.add j) = cs'[j]?) ∧ Fits P w f e cs'
    | _ => True
theorem fits_of_trod {H : Type} {enc : TypeId × Value → H} {P : Program} {w : World} {base : Nat} {spare : Nat → Bool} {held : Bool} : ∀ (d : Nat) {fuel : Nat} {t : TypeId} {cs : List Value} {x : DataW H × List MemPlace}, DataW.trod enc P w base spare held fuel t cs = some x → Fits P w d t cs
  | 0, _, _, _, _, _ => trivial
  | d + 1, fuel, t, cs, x, h => by
    unfold Fits
    cases hu : P.underlying t with
    | none => trivial
    | some td =>
      cases td
      case bool => obtain ⟨b, hb, _⟩ := DataW.trod_bool hu h; exact ⟨b, hb⟩
      case int k => obtain ⟨n, hn, _, hw⟩ := DataW.trod_int hu h; exact ⟨n, hn, hw⟩
      case string => obtain ⟨n, hn, _, hw⟩ := DataW.trod_string hu h; exact ⟨n, hn, hw⟩
      case slice e =>
        rcases Go.Deep.open_slice hu h with ⟨h0, _⟩ | ⟨a, len, cap, m, n, D, Pl, hcs, _, h1, h2, hm, _, hi⟩
        · exact .inl h0
        · refine .inr ⟨a, len, cap, hcs, h1, h2, fun i hil => ?_⟩
          obtain ⟨cs', hc, ht⟩ := hi i (by rw [hm]; split <;> omega)
          obtain ⟨_, h5, h6⟩ := World.cells?_some hc
          exact ⟨cs', h5, h6, fits_of_trod d ht⟩
      case struct fs =>
        obtain ⟨xs, n, _, _, hl, hx, hf⟩ := DataW.trod_struct hu h
        refine ⟨hl, fun f hfm => ?_⟩
        obtain ⟨i, hi, rfl⟩ := List.getElem_of_mem hfm
        have hil : i < xs.length := by rw [hx]; simpa using hi
        have h2 := hf i (fs.toList[i]) (by simp)
        rw [List.getElem?_eq_getElem hil] at h2
        exact fits_of_trod d h2
      case array n e =>
        obtain ⟨xs, m, _, _, hl, hx, hf⟩ := DataW.trod_array hu h
        refine ⟨hl, fun i hi => ?_⟩
        have h2 := hf i hi
        rw [List.getElem?_eq_getElem (by omega)] at h2
        exact fits_of_trod d h2
      case pointer e =>
        rcases DataW.trod_pointer hu h with ⟨h0, _⟩ | ⟨a, cs', y, m, _, hcs, _, hc, ht⟩
        · exact .inl h0
        · obtain ⟨_, h5, h6⟩ := World.cells?_some hc
          exact .inr ⟨a, cs', hcs, h5, h6, fits_of_trod d ht⟩
      all_goals trivial
theorem fits_of_Trod {H : Type} {enc : TypeId × Value → H} {P : Program} {w : World} {base : Nat} {spare : Nat → Bool} {held : Bool} {t : TypeId} {v : Value} {x : DataW H} {p : List MemPlace} (d : Nat) (h : DataW.Trod enc P w base spare held t v x p) : Fits P w d t v.cells.toList :=
  let ⟨_, hf⟩ := h
  fits_of_trod d hf
section
variable {P : Program} {w : World} {d : Nat} {t e : TypeId} {cs : List Value}
theorem fits_bool (hu : P.underlying t = some .bool) (h : Fits P w (d + 1) t cs) : ∃ b, cs = [.bool b] := by
  unfold Fits at h; rw [hu] at h; exact h
theorem fits_int {k : IntKind} (hu : P.underlying t = some (.int k)) (h : Fits P w (d + 1) t cs) : ∃ n, cs = [.int k n] ∧ (Lit.int k n).wf = true := by
  unfold Fits at h; rw [hu] at h; exact h
theorem fits_string (hu : P.underlying t = some .string) (h : Fits P w (d + 1) t cs) : ∃ s, cs = [.string s] ∧ s.size ≤ maxLen := by
  unfold Fits at h; rw [hu] at h; exact h
theorem fits_slice (hu : P.underlying t = some (.slice e)) (h : Fits P w (d + 1) t cs) : cs = [.slice none 0 0] ∨ ∃ a len cap, cs = [.slice (some a) len cap] ∧ len ≤ cap ∧ cap ≤ maxLen ∧ ∀ i, i < len → ∃ cs', cs'.length = P.cellsOf e ∧ (∀ j, j < P.cellsOf e → w.cell? ((a.add (i * P.cellsOf e)).add j) = cs'[j]?) ∧ Fits P w d e cs' := by
  unfold Fits at h; rw [hu] at h; exact h
theorem fits_struct {fs : Array Field} (hu : P.underlying t = some (.struct fs)) (h : Fits P w (d + 1) t cs) : cs.length = P.cellsOf t ∧ ∀ x ∈ fs.toList, Fits P w d x.type ((cs.drop x.offset).take (P.cellsOf x.type)) := by
  unfold Fits at h; rw [hu] at h; exact h
theorem fits_array {n : Nat} (hu : P.underlying t = some (.array n e)) (h : Fits P w (d + 1) t cs) : cs.length = P.cellsOf t ∧ ∀ i, i < n → Fits P w d e ((cs.drop (i * P.cellsOf e)).take (P.cellsOf e)) := by
  unfold Fits at h; rw [hu] at h; exact h
theorem fits_pointer (hu : P.underlying t = some (.pointer e)) (h : Fits P w (d + 1) t cs) : cs = [.pointer none] ∨ ∃ a cs', cs = [.pointer (some a)] ∧ cs'.length = P.cellsOf e ∧ (∀ j, j < P.cellsOf e → w.cell? (a.add j) = cs'[j]?) ∧ Fits P w d e cs' := by
  unfold Fits at h; rw [hu] at h; exact h
end
theorem add_lit (b o i : Nat) : (⟨b, o, none⟩ : Addr).add i = ⟨b, o + i, none⟩ := by unfold Addr.add; split <;> simp_all
theorem list_of_forall {α : Type} {Q : Nat → α → Prop} : ∀ (n : Nat), (∀ i, i < n → ∃ x, Q i x) → ∃ xs : List α, xs.length = n ∧ ∀ i x, xs[i]? = some x → Q i x
  | 0, _ => ⟨[], rfl, fun i x h => by simp at h⟩
  | n + 1, h => by
    obtain ⟨xs, hl, hx⟩ := list_of_forall n fun i hi => h i (by omega)
    obtain ⟨y, hy⟩ := h n (by omega)
    refine ⟨xs ++ [y], by simp [hl], fun i x hi => ?_⟩
    rw [List.getElem?_append] at hi
    split at hi
    · exact hx i x hi
    · have : i = n := by
        have := (List.getElem?_eq_some_iff.1 hi).1
        simp at this
        omega
      subst this
      rw [hl, Nat.sub_self] at hi
      cases hi
      exact hy
/-- a slice that came in: its cells, element by element, at a plain address -/
theorem row_of_fits {P : Program} {w : World} {d : Nat} {t e : TypeId} {a : Option Addr} {len cap : Nat} (hu : P.underlying t = some (.slice e)) (hs : 0 < P.cellsOf e) (h : Fits P w (d + 1) t [.slice a len cap]) :
    len ≤ cap ∧ cap ≤ 9223372036854775807 ∧ (a = none → cap = 0) ∧ (len = 0 ∨ ∃ b o, a = some ⟨b, o, none⟩ ∧ b < w.heap.size ∧ ∀ i, i < len → ∃ cs : List Value, cs.length = P.cellsOf e ∧ (∀ j, j < P.cellsOf e → w.cell? ⟨b, o + i * P.cellsOf e + j, none⟩ = cs[j]?) ∧ Fits P w d e cs) := by
  rcases fits_slice hu h with h | ⟨ad, l, c, he, hl, hm, hi⟩
  · simp at h
    obtain ⟨rfl, rfl, rfl⟩ := h
    exact ⟨by omega, by omega, fun _ => rfl, .inl rfl⟩
  · simp at he
    obtain ⟨rfl, rfl, rfl⟩ := he
    unfold maxLen at hm
    refine ⟨hl, by omega, (fun e => by cases e), ?_⟩
    by_cases h0 : len = 0
    · exact .inl h0
    · right
      obtain ⟨b, o, spot⟩ := ad
      obtain ⟨cs0, h1, h2, _⟩ := hi 0 (by omega)
      have h2 := h2 0 hs
      rw [List.getElem?_eq_getElem (by omega)] at h2
      have hspot : spot = none := by simpa [Addr.add] using World.cell?_spot h2
      subst hspot
      refine ⟨b, o, rfl, by simpa [Addr.add] using block_lt_of_cell h2, fun i hil => ?_⟩
      obtain ⟨cs', h3, h4, h5⟩ := hi i hil
      refine ⟨cs', h3, fun j hj => ?_, h5⟩
      have := h4 j hj
      rw [add_lit, add_lit] at this
      exact this
theorem slice_of_fits {P : Program} {w : World} {d : Nat} {t e : TypeId} {v : Value} (hu : P.underlying t = some (.slice e)) (h : Fits P w (d + 1) t [v]) : ∃ a len cap, v = .slice a len cap := by
  rcases fits_slice hu h with h | ⟨ad, l, c, he, _⟩
  · simp at h; exact ⟨_, _, _, h⟩
  · simp at he; exact ⟨_, _, _, he⟩
theorem bytes_of_fits {P : Program} {w : World} {d : Nat} {t e : TypeId} {a : Option Addr} {len cap : Nat} (hu : P.underlying t = some (.slice e)) (he : P.underlying e = some (.int .u8)) (hs : P.cellsOf e = 1) (h : Fits P w (d + 2) t [.slice a len cap]) :
    ∃ l : List Nat, l.length = len ∧ Bytes w a l ∧ (a = none → cap = 0) ∧ len ≤ cap ∧ cap ≤ 9223372036854775807 := by
  obtain ⟨hl, hm, hn, hr⟩ := row_of_fits hu (by omega) h
  rcases hr with h0 | ⟨b, o, rfl, hlt, hi⟩
  · exact ⟨[], by simp [h0], Bytes.nil _ _, hn, hl, hm⟩
  · obtain ⟨l, hx1, hx2⟩ := list_of_forall (Q := fun i (x : Nat) => x < 256 ∧ w.cell? ⟨b, o + i, none⟩ = some (.int .u8 (x : Nat))) len fun i hil => by
      obtain ⟨cs, h1, h2, h3⟩ := hi i hil
      obtain ⟨n, rfl, hw⟩ := fits_int he h3
      simp [Lit.wf, IntKind.min, IntKind.max, IntKind.signed, IntKind.bits] at hw
      have := h2 0 (by omega)
      rw [hs] at this
      obtain ⟨m, rfl⟩ := Int.eq_ofNat_of_zero_le hw.1
      exact ⟨m, by omega, by simpa using this⟩
    refine ⟨l, hx1, ⟨fun c hc => ?_, .inr ⟨b, o, rfl, hlt, fun i hi => ?_⟩⟩, hn, hl, hm⟩
    · obtain ⟨i, hi, rfl⟩ := List.getElem_of_mem hc
      exact (hx2 i _ (List.getElem?_eq_getElem hi)).1
    · rw [(hx2 i _ (List.getElem?_eq_getElem hi)).2, List.getD_eq_getElem?_getD, List.getElem?_eq_getElem hi]
      rfl
end Go.Rv
