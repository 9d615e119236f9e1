/- Comparisons of arrays of bytes (and structs of numbers and such arrays): what they answer. -/
import Derived.Test.YtfcadbeamojdpaaFrm
import Derived.Test.YtfcadbeamojdpaaEq0
import Derived.DeepKeys
import Derived.Laws.StructEq
import Derived.WalkArith
namespace Go.Proofs.Ytfcadbeamojdpaa
open Go.RowKit Go.Rv Frm
theorem eq_sec (l m : List Nat) (hl : l.length = 64) (hm : m.length = 64) (h1 : ∀ c ∈ l, c < 256) (h2 : ∀ c ∈ m, c < 256) (b : Bool) (hb : b = true ↔ l = m) (w : World) :
    (Op.equalIn 10000 31 (.agg (byteCells l)) (.agg (byteCells m))).run Try.prog w = .ok b w := by
  have hf : ∀ l : List Nat, l.length = 64 → (Value.agg (byteCells l)).formed Try.prog 31 = true := by
    intro l hl
    simp only [Value.formed, Try.underlying31, size_byteCells, hl]
    kernel_rfl
  refine eq_deep (by kernel_rfl) (hf l hl) (hf m hm) (lits_bytes Try.underlying31 Try.underlying5 (by kernel_rfl) (by kernel_rfl) l hl h1 0) (lits_bytes Try.underlying31 Try.underlying5 (by kernel_rfl) (by kernel_rfl) m hm h2 0) b (hb.trans ⟨fun h => by rw [h], lb_inj⟩) w
/-- a frame whose numbers are ints -/
def Num64 (f : Fr) : Prop := (Lit.int .i64 f.kind).wf = true ∧ (Lit.int .i64 f.zone).wf = true ∧ (Lit.int .i64 f.off).wf = true ∧ (Lit.int .i64 f.epoch).wf = true ∧ (Lit.int .i64 f.seq).wf = true
def frLits (f : Fr) : List Lit := [.int .i64 f.kind, .int .i64 f.zone, .int .i64 f.off, .int .i64 f.epoch, .int .i64 f.seq] ++ f.body.map lb
theorem frLits_inj {f g : Fr} (h : frLits f = frLits g) : f = g := by
  obtain ⟨k, z, o, e, s, b⟩ := f
  obtain ⟨k', z', o', e', s', b'⟩ := g
  simp only [frLits, List.cons_append, List.nil_append, List.cons.injEq, Lit.int.injEq, true_and] at h
  obtain ⟨rfl, rfl, rfl, rfl, rfl, h⟩ := h
  rw [lb_inj h]
theorem lits_frame (f : Fr) (hb : Body f.body) (hn : Num64 f) : Try.prog.keyLits 3 24 (FC f).toList = some (frLits f) := by
  obtain ⟨n0, n1, n2, n3, n4⟩ := hn
  have k1 : Try.prog.cellsOf 3 = 1 := by kernel_rfl
  have k44 : Try.prog.cellsOf 22 = 44 := by kernel_rfl
  have k49 : Try.prog.cellsOf 24 = 49 := by kernel_rfl
  have hlen : (FC f).toList.length = 49 := by rw [Array.length_toList, FC_size, hb.1]
  have c0 : ((FC f).toList.drop 0).take 1 = [.int .i64 f.kind] := by simp [FC]
  have c1 : ((FC f).toList.drop 1).take 1 = [.int .i64 f.zone] := by simp [FC]
  have c2 : ((FC f).toList.drop 2).take 1 = [.int .i64 f.off] := by simp [FC]
  have c3 : ((FC f).toList.drop 3).take 1 = [.int .i64 f.epoch] := by simp [FC]
  have c4 : ((FC f).toList.drop 4).take 1 = [.int .i64 f.seq] := by simp [FC]
  have c5 : ((FC f).toList.drop 5).take 44 = (byteCells f.body).toList := by
    simp [FC]
    rw [List.take_of_length_le (by rw [Array.length_toList, size_byteCells, hb.1]; omega)]
  have i : ∀ n : Int, (Lit.int .i64 n).wf = true → Try.prog.keyLits 2 3 [.int .i64 n] = some [.int .i64 n] := by
    intro n hn
    simp only [Program.keyLits, Try.underlying3, hn, and_self, if_true]
  have hB := lits_bytes Try.underlying22 Try.underlying5 (by kernel_rfl) k44 f.body hb.1 hb.2 0
  unfold Program.keyLits
  simp only [Try.underlying24, k49, hlen]
  rw [if_pos ⟨trivial, by decide +kernel⟩]
  simp only [List.mapM_cons, List.mapM_nil, k1, k44, c0, c1, c2, c3, c4, c5, i _ n0, i _ n1, i _ n2, i _ n3, i _ n4, hB]
  simp [frLits]
theorem eq_frame (f g : Fr) (hf : Body f.body) (hg : Body g.body) (nf : Num64 f) (ng : Num64 g) (b : Bool) (hb : b = true ↔ f = g) (w : World) :
    (Op.equalIn 10000 24 (.agg (FC f)) (.agg (FC g))).run Try.prog w = .ok b w := by
  have hF : ∀ f : Fr, Body f.body → (Value.agg (FC f)).formed Try.prog 24 = true := by
    intro l hl
    simp only [Value.formed, Try.underlying24, FC_size, hl.1]
    kernel_rfl
  exact eq_deep (by kernel_rfl) (hF f hf) (hF g hg) (lits_frame f hf nf) (lits_frame g hg ng) b (hb.trans ⟨fun h => by rw [h], frLits_inj⟩) w
end Go.Proofs.Ytfcadbeamojdpaa
