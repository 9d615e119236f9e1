/- Entries, as cells; contracts of the entry's within, counts and Right. -/
import Derived.Test.YtfcadbeamojdpaaFrRight
import Derived.Test.YtfcadbeamojdpaaEq
import Derived.Deep.MidRow
import Derived.Laws.Cover3
namespace En
/-- an entry -/
structure E where
  kind : Int
  first : Int
  count : Int
  block : Int
  many : Int
  mate : Int
  bytes : List Nat
def E.zero : E := ⟨0, 0, 0, 0, 0, 0, List.replicate 32 0⟩
def inB (n a b : Int) : Bool := decide (a ≤ n) && decide (n ≤ b)
theorem inB_iff {n a b : Int} : inB n a b = true ↔ a ≤ n ∧ n ≤ b := by simp [inB]
def counts (e : E) : Bool :=
  if (e.kind == 1) = true then inB e.count 1 4 && e.many == 0
  else if (e.kind == 2) = true then e.count == 1 && (inB e.many 1 (256 - e.block) && decide (e.bytes = List.replicate 32 0))
  else (e.kind == 3) && (e.count == 1 && e.many == 0)
def right (e : E) : Bool := inB e.first 0 281474976710655 && (inB e.block 0 255 && (inB e.mate 0 65535 && counts e))
end En
namespace Go.Rv
open Go.RowKit
theorem wpList_load_mid_asked {P : Program} {ops : Array Oper} {rest : List Oper} {op : Oper} {a : Act} {w : World} {Q : Exit → Act → World → Prop} (hgd : Region.wanted op (yielded ops a.tmps) = true) (ty : TypeId) (x : Operand) (ho : op.op = .load ty x)
    (b o : Nat) (hx : a.eval x = .pointer (some ⟨b, o, none⟩)) (cs : List Value) (d : TypeDesc) (hc : w.rangeAt b o cs)
    (hu : P.underlying ty = some d) (hd : d.isRow = true) (hi : (P.info? ty).map (·.size) = some cs.length)
    (h : wpList P ops Q rest (a.put op.dst (.agg cs.toArray)) w) : wpList P ops Q (op :: rest) a w := by
  unfold wpList
  rw [if_pos hgd]
  exact .inl (wp_load_mid ty x ho b o hx cs d hc hu hd hi h)
end Go.Rv
namespace Go.Proofs.Ytfcadbeamojdpaa
open Go.RowKit Go.Rv
set_option linter.unusedVariables false
/-- an entry's cells -/
def EC (e : En.E) : Array Value := #[.int .i64 e.kind, .int .i64 e.first, .int .i64 e.count, .int .i64 e.block, .int .i64 e.many, .int .i64 e.mate] ++ byteCells e.bytes
theorem EC_size (e : En.E) : (EC e).size = 6 + e.bytes.length := by simp [EC, byteCells]; omega
theorem EC_one (e : En.E) : (EC e).all (·.oneCell') = true := by
  have h := one_byteCells e.bytes
  simp [EC, Value.oneCell'] at h ⊢
  exact h
theorem EC_num (e : En.E) : (EC e)[0]? = some (.int .i64 e.kind) ∧ (EC e)[1]? = some (.int .i64 e.first) ∧ (EC e)[2]? = some (.int .i64 e.count) ∧ (EC e)[3]? = some (.int .i64 e.block) ∧ (EC e)[4]? = some (.int .i64 e.many) ∧ (EC e)[5]? = some (.int .i64 e.mate) := by
  refine ⟨?_, ?_, ?_, ?_, ?_, ?_⟩ <;> (unfold EC; rw [Array.getElem?_append_left (by simp)]; rfl)
theorem EC_bytes (e : En.E) (i : Nat) (h : i < e.bytes.length) : (EC e)[6 + i]? = some (.int .u8 (e.bytes.getD i 0 : Nat)) := by
  unfold EC
  rw [Array.getElem?_append_right (by simp)]
  simp only [List.size_toArray, List.length_cons, List.length_nil]
  rw [show 6 + i - (0 + 1 + 1 + 1 + 1 + 1 + 1) = i by omega]
  exact byteCells_at _ _ h
def EBody (e : En.E) : Prop := e.bytes.length = 32 ∧ ∀ c ∈ e.bytes, c < 256
theorem Try.infoEntry : (Try.prog.info? 55).map (fun i => (i.zero, i.size)) = some (some (.agg (EC En.E.zero)), 38) := by kernel_rfl
theorem Try.infoBlock : (Try.prog.info? 53).map (fun i => (i.zero, i.size)) = some (some (.agg (byteCells (List.replicate 32 0))), 32) := by kernel_rfl
theorem Try.infoBody : (Try.prog.info? 22).map (fun i => (i.zero, i.size)) = some (some (.agg (byteCells (List.replicate 44 0))), 44) := by kernel_rfl
theorem size_ent {e : En.E} (h : e.bytes.length = 32) : (Try.prog.info? 55).map (·.size) = some (EC e).size := by rw [EC_size, h]; exact (zero_of_info Try.infoEntry).2
/-- an entry in memory: its cells -/
def EntAt (w : World) (g : Nat) (e : En.E) : Prop := w.cell? ⟨g, 0, none⟩ = some (.int .i64 e.kind) ∧ w.cell? ⟨g, 1, none⟩ = some (.int .i64 e.first) ∧ w.cell? ⟨g, 2, none⟩ = some (.int .i64 e.count) ∧ w.cell? ⟨g, 3, none⟩ = some (.int .i64 e.block) ∧ w.cell? ⟨g, 4, none⟩ = some (.int .i64 e.many) ∧ w.cell? ⟨g, 5, none⟩ = some (.int .i64 e.mate)
theorem ent_cells {w : World} {g : Nat} {e : En.E} {t : TypeId} (h : w.heap[g]? = some (.cells (EC e) t (0, 0))) : EntAt w g e := by
  obtain ⟨h0, h1, h2, h3, h4, h5⟩ := EC_num e
  exact ⟨(cell_of_row _ _ _ _ _ _ h).trans h0, (cell_of_row _ _ _ _ _ _ h).trans h1, (cell_of_row _ _ _ _ _ _ h).trans h2, (cell_of_row _ _ _ _ _ _ h).trans h3, (cell_of_row _ _ _ _ _ _ h).trans h4, (cell_of_row _ _ _ _ _ _ h).trans h5⟩
/-- its bytes read as a slice's -/
theorem ent_bytes {w : World} {g : Nat} {e : En.E} {t : TypeId} (h : w.heap[g]? = some (.cells (EC e) t (0, 0))) (hf : ∀ c ∈ e.bytes, c < 256) : Bytes w (some ⟨g, 6, none⟩) e.bytes :=
  ⟨hf, .inr ⟨g, 6, rfl, (Array.getElem?_eq_some_iff.1 h).1, fun i hi => (cell_of_row _ _ _ _ _ _ h).trans (EC_bytes e i hi)⟩⟩
theorem ent_range {w : World} {g : Nat} {e : En.E} {t : TypeId} (h : w.heap[g]? = some (.cells (EC e) t (0, 0))) : w.rangeAt g 6 (byteCells e.bytes).toList := fun j v hv => by
  have hj : j < e.bytes.length := by
    have := (List.getElem?_eq_some_iff.1 hv).1
    rwa [Array.length_toList, size_byteCells] at this
  rw [cell_of_row _ _ _ _ _ _ h, EC_bytes e j hj, ← hv, Array.getElem?_toList, byteCells_at _ _ hj]
theorem eq_block (l m : List Nat) (hl : l.length = 32) (hm : m.length = 32) (h1 : ∀ c ∈ l, c < 256) (h2 : ∀ c ∈ m, c < 256) (b : Bool) (hb : b = true ↔ l = m) (w : World) :
    (Op.equalIn 10000 53 (.agg (byteCells l)) (.agg (byteCells m))).run Try.prog w = .ok b w := by
  have hf : ∀ l : List Nat, l.length = 32 → (Value.agg (byteCells l)).formed Try.prog 53 = true := by
    intro l hl
    simp only [Value.formed, Try.underlying53, size_byteCells, hl]
    kernel_rfl
  refine eq_deep (by kernel_rfl) (hf l hl) (hf m hm) (lits_bytes Try.underlying53 Try.underlying5 (by kernel_rfl) (by kernel_rfl) l hl h1 0) (lits_bytes Try.underlying53 Try.underlying5 (by kernel_rfl) (by kernel_rfl) m hm h2 0) b (hb.trans ⟨fun h => by rw [h], lb_inj⟩) w
theorem eq_arr32 (l m : List Nat) (hl : l.length = 32) (hm : m.length = 32) (h1 : ∀ c ∈ l, c < 256) (h2 : ∀ c ∈ m, c < 256) (b : Bool) (hb : b = true ↔ l = m) (w : World) :
    (Op.equalIn 10000 52 (.agg (byteCells l)) (.agg (byteCells m))).run Try.prog w = .ok b w := by
  have hf : ∀ l : List Nat, l.length = 32 → (Value.agg (byteCells l)).formed Try.prog 52 = true := by
    intro l hl
    simp only [Value.formed, Try.underlying52, size_byteCells, hl]
    kernel_rfl
  refine eq_deep (by kernel_rfl) (hf l hl) (hf m hm) (lits_bytes Try.underlying52 Try.underlying5 (by kernel_rfl) (by kernel_rfl) l hl h1 0) (lits_bytes Try.underlying52 Try.underlying5 (by kernel_rfl) (by kernel_rfl) m hm h2 0) b (hb.trans ⟨fun h => by rw [h], lb_inj⟩) w
theorem eq_body (l m : List Nat) (hl : l.length = 44) (hm : m.length = 44) (h1 : ∀ c ∈ l, c < 256) (h2 : ∀ c ∈ m, c < 256) (b : Bool) (hb : b = true ↔ l = m) (w : World) :
    (Op.equalIn 10000 22 (.agg (byteCells l)) (.agg (byteCells m))).run Try.prog w = .ok b w := by
  have hf : ∀ l : List Nat, l.length = 44 → (Value.agg (byteCells l)).formed Try.prog 22 = true := by
    intro l hl
    simp only [Value.formed, Try.underlying22, size_byteCells, hl]
    kernel_rfl
  refine eq_deep (by kernel_rfl) (hf l hl) (hf m hm) (lits_bytes Try.underlying22 Try.underlying5 (by kernel_rfl) (by kernel_rfl) l hl h1 0) (lits_bytes Try.underlying22 Try.underlying5 (by kernel_rfl) (by kernel_rfl) m hm h2 0) b (hb.trans ⟨fun h => by rw [h], lb_inj⟩) w
/-- an entry whose numbers are ints -/
def Num38 (e : En.E) : Prop := (Lit.int .i64 e.kind).wf = true ∧ (Lit.int .i64 e.first).wf = true ∧ (Lit.int .i64 e.count).wf = true ∧ (Lit.int .i64 e.block).wf = true ∧ (Lit.int .i64 e.many).wf = true ∧ (Lit.int .i64 e.mate).wf = true
def enLits (e : En.E) : List Lit := [.int .i64 e.kind, .int .i64 e.first, .int .i64 e.count, .int .i64 e.block, .int .i64 e.many, .int .i64 e.mate] ++ e.bytes.map lb
theorem enLits_inj {f g : En.E} (h : enLits f = enLits g) : f = g := by
  obtain ⟨k, z, o, e, s, t, b⟩ := f
  obtain ⟨k', z', o', e', s', t', b'⟩ := g
  simp only [enLits, List.cons_append, List.nil_append, List.cons.injEq, Lit.int.injEq, true_and] at h
  obtain ⟨rfl, rfl, rfl, rfl, rfl, rfl, h⟩ := h
  rw [lb_inj h]
theorem lits_ent (f : En.E) (hb : EBody f) (hn : Num38 f) : Try.prog.keyLits 3 55 (EC f).toList = some (enLits f) := by
  obtain ⟨n0, n1, n2, n3, n4, n5⟩ := hn
  have k1 : Try.prog.cellsOf 3 = 1 := by kernel_rfl
  have k32 : Try.prog.cellsOf 53 = 32 := by kernel_rfl
  have k38 : Try.prog.cellsOf 55 = 38 := by kernel_rfl
  have hlen : (EC f).toList.length = 38 := by rw [Array.length_toList, EC_size, hb.1]
  have c0 : ((EC f).toList.drop 0).take 1 = [.int .i64 f.kind] := by simp [EC]
  have c1 : ((EC f).toList.drop 1).take 1 = [.int .i64 f.first] := by simp [EC]
  have c2 : ((EC f).toList.drop 2).take 1 = [.int .i64 f.count] := by simp [EC]
  have c3 : ((EC f).toList.drop 3).take 1 = [.int .i64 f.block] := by simp [EC]
  have c4 : ((EC f).toList.drop 4).take 1 = [.int .i64 f.many] := by simp [EC]
  have c5 : ((EC f).toList.drop 5).take 1 = [.int .i64 f.mate] := by simp [EC]
  have c6 : ((EC f).toList.drop 6).take 32 = (byteCells f.bytes).toList := by
    simp [EC]
    rw [List.take_of_length_le (by rw [Array.length_toList, size_byteCells, hb.1]; omega)]
  have i : ∀ n : Int, (Lit.int .i64 n).wf = true → Try.prog.keyLits 2 3 [.int .i64 n] = some [.int .i64 n] := by
    intro n hn
    simp only [Program.keyLits, Try.underlying3, hn, and_self, if_true]
  have hB := lits_bytes Try.underlying53 Try.underlying5 (by kernel_rfl) k32 f.bytes hb.1 hb.2 0
  unfold Program.keyLits
  simp only [Try.underlying55, k38, hlen]
  rw [if_pos ⟨trivial, by decide +kernel⟩]
  simp only [List.mapM_cons, List.mapM_nil, k1, k32, c0, c1, c2, c3, c4, c5, c6, i _ n0, i _ n1, i _ n2, i _ n3, i _ n4, i _ n5, hB]
  simp [enLits]
theorem eq_ent (f g : En.E) (hf : EBody f) (hg : EBody g) (nf : Num38 f) (ng : Num38 g) (b : Bool) (hb : b = true ↔ f = g) (w : World) :
    (Op.equalIn 10000 55 (.agg (EC f)) (.agg (EC g))).run Try.prog w = .ok b w := by
  have hF : ∀ f : En.E, EBody f → (Value.agg (EC f)).formed Try.prog 55 = true := by
    intro l hl
    simp only [Value.formed, Try.underlying55, EC_size, hl.1]
    kernel_rfl
  exact eq_deep (by kernel_rfl) (hF f hf) (hF g hg) (lits_ent f hf nf) (lits_ent g hg ng) b (hb.trans ⟨fun h => by rw [h], enLits_inj⟩) w
set_option maxRecDepth 100000 in
set_option maxHeartbeats 400000 in
theorem ewithin_any (n a b : Int) (w : World) :
    Calls Try.prog 52 #[.int .i64 n, .int .i64 a, .int .i64 b] w fun e w' => e = .returned (.bool (En.inB n a b)) ∧ w = w' := by
  unfold En.inB
  cases h1 : decide (a ≤ n)
  · go_enter Try.func52, Try.ntmps52
    go_wp2
    go_ret
    exact ⟨rfl, rfl⟩
  · go_enter Try.func52, Try.ntmps52
    go_wp2
    go_ret
    exact ⟨rfl, rfl⟩
end Go.Proofs.Ytfcadbeamojdpaa
