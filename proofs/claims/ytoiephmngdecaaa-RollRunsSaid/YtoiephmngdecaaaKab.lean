/- Proved here: Small laws for the frame's seat: a frame and a sector as cells; whole rows loaded, stored, handed back; contracts of the frame's within and Right, and of the document's Right; Comparisons of arrays of bytes (and structs of numbers and such arrays): what they answer; Comparisons of arrays of bytes (and structs of numbers and such arrays): what they answer; Entries, as cells; contracts of the entry's within, counts and Right; contracts of the codec's Pen: Bytes, Num, Out; the contract of New: the table; the contract of Step: what it answers of any word and byte; the contracts of the table's sums: over, Sum: what each answers of any bytes, and that it writes nothing that was there. -/
import Derived.Test.YtoiephmngdecaaaProg
import Derived.WalkLawsBesides
import Derived.Deep.WholeRow
import Derived.Laws.Rows
import Derived.Laws.CopyOwn
import Derived.DeepKeys
import Derived.Laws.StructEq
import Derived.WalkArith
import Derived.Deep.MidRow
import Derived.Laws.Cover3
import Derived.Deep.DeepMust
import Derived.Test.YtoiephmngdecaaaRows
import Derived.WalkKit
import Derived.WalkSpells
import Derived.Outline
import Derived.Lib.Hide
import Derived.Test.YtoiephmngdecaaaKaa
namespace Go.Rv
open Go.RowKit
theorem results_row_tmp {P : Program} {fn : Func} {p q : Tmp} {ty : TypeId} (h : fn.results = #[.cell p ty, .tmp q]) (tmps : Array Value) (w : World) (g : Nat) (t : TypeId) (cs : Array Value) (fr : Nat × Nat) (d : TypeDesc)
    (hp : tmps.getD p undef = .pointer (some ⟨g, 0, none⟩)) (hg : w.heap[g]? = some (.cells cs t fr))
    (hu : P.underlying ty = some d) (hd : (match d with | .struct _ | .array _ _ => true | _ => false) = true) (hi : (P.info? ty).map (·.size) = some cs.size) :
    (results fn tmps).run P w = .ok (.tuple #[.agg cs, tmps.getD q undef]) w := by
  have hp' : tmps[p]?.getD undef = .pointer (some ⟨g, 0, none⟩) := by simpa using hp
  simp [results, h, hp', asAddr, run_loadVar_row w g t ty cs fr d hg hu hd hi]
end Go.Rv
namespace Go.Proofs.Ytoiephmngdecaaa
open Go.RowKit Go.Rv Frm
set_option linter.unusedVariables false
/-- a frame's cells -/
def FC (f : Fr) : Array Value := #[.int .i64 f.kind, .int .i64 f.zone, .int .i64 f.off, .int .i64 f.epoch, .int .i64 f.seq] ++ byteCells f.body
theorem FC_size (f : Fr) : (FC f).size = 5 + f.body.length := by simp [FC, byteCells]; omega
theorem FC_num (f : Fr) : (FC f)[0]? = some (.int .i64 f.kind) ∧ (FC f)[1]? = some (.int .i64 f.zone) ∧ (FC f)[2]? = some (.int .i64 f.off) ∧ (FC f)[3]? = some (.int .i64 f.epoch) ∧ (FC f)[4]? = some (.int .i64 f.seq) := by
  refine ⟨?_, ?_, ?_, ?_, ?_⟩ <;> (unfold FC; rw [Array.getElem?_append_left (by simp)]; rfl)
theorem FC_body (f : Fr) (i : Nat) (h : i < f.body.length) : (FC f)[5 + i]? = some (.int .u8 (f.body.getD i 0 : Nat)) := by
  unfold FC; rw [Array.getElem?_append_right (by simp)]; simp only [List.size_toArray, List.length_cons, List.length_nil]; rw [show 5 + i - (0 + 1 + 1 + 1 + 1 + 1) = i by omega]; exact byteCells_at _ _ h
theorem FC_one (f : Fr) : (FC f).all (·.oneCell') = true := by
  have h := one_byteCells f.body; simp [FC, Value.oneCell'] at h ⊢; exact h
theorem Try.infoFrame : (Try.prog.info? 68).map (fun i => (i.zero, i.size)) = some (some (.agg (FC Fr.zero)), 49) := by kernel_rfl
/-- a frame in memory: its cells, one by one -/
theorem frame_cells {w : World} {g : Nat} {f : Fr} {t : TypeId} (h : w.heap[g]? = some (.cells (FC f) t (0, 0))) : w.cell? ⟨g, 0, none⟩ = some (.int .i64 f.kind) ∧ w.cell? ⟨g, 1, none⟩ = some (.int .i64 f.zone) ∧ w.cell? ⟨g, 2, none⟩ = some (.int .i64 f.off) ∧ w.cell? ⟨g, 3, none⟩ = some (.int .i64 f.epoch) ∧ w.cell? ⟨g, 4, none⟩ = some (.int .i64 f.seq) := by
  obtain ⟨h0, h1, h2, h3, h4⟩ := FC_num f; exact ⟨(cell_of_row _ _ _ _ _ _ h).trans h0, (cell_of_row _ _ _ _ _ _ h).trans h1, (cell_of_row _ _ _ _ _ _ h).trans h2, (cell_of_row _ _ _ _ _ _ h).trans h3, (cell_of_row _ _ _ _ _ _ h).trans h4⟩
end Go.Proofs.Ytoiephmngdecaaa
namespace Go.Proofs.Ytoiephmngdecaaa
open Go.RowKit Go.Rv Frm
set_option linter.unusedVariables false
/-- is it one from a to b? -/
def inB (n a b : Int) : Bool := decide (a ≤ n) && decide (n ≤ b)
set_option maxRecDepth 100000 in
set_option maxHeartbeats 400000 in
theorem fwithin_any (n a b : Int) (w : World) :
    Calls Try.prog 79 #[.int .i64 n, .int .i64 a, .int .i64 b] w fun e w' => e = .returned (.bool (inB n a b)) ∧ w = w' := by
  unfold inB; cases h1 : decide (a ≤ n)
  · go_enter Try.func79, Try.ntmps79; go_wp2; go_ret; exact ⟨rfl, rfl⟩
  · go_enter Try.func79, Try.ntmps79; go_wp2; go_ret; exact ⟨rfl, rfl⟩
theorem right_eq (f : Fr) : rightF f = (inB f.kind 1 5 && inB f.zone 0 65535 && inB f.off 0 65535 && inB f.epoch 1 4294967295 && inB f.seq 0 281474976710655) := by
  rw [Bool.eq_iff_iff]; simp only [rightF, inB, Bool.and_eq_true, decide_eq_true_eq]; constructor
  · rintro ⟨h1, h2, h3, h4, h5, h6, h7, h8, h9, h10⟩; exact ⟨⟨⟨⟨⟨h1, h2⟩, ⟨h3, h4⟩⟩, ⟨h5, h6⟩⟩, ⟨h7, h8⟩⟩, ⟨h9, h10⟩⟩
  · rintro ⟨⟨⟨⟨⟨h1, h2⟩, ⟨h3, h4⟩⟩, ⟨h5, h6⟩⟩, ⟨h7, h8⟩⟩, ⟨h9, h10⟩⟩; exact ⟨h1, h2, h3, h4, h5, h6, h7, h8, h9, h10⟩
set_option maxRecDepth 100000 in
set_option maxHeartbeats 1000000 in
theorem fright_any (f : Fr) (w : World) :
    Calls Try.prog 66 #[.agg (FC f)] w fun e w' => e = .returned (.bool (rightF f)) ∧ Below w.heap.size w w' := by
  have hg := heap_alloc_new w (.cells (FC f) 68); obtain ⟨c0, c1, c2, c3, c4⟩ := frame_cells hg; have hB : Below w.heap.size w (w.alloc (.cells (FC f) 68)) := (Below.refl _ _).alloc (Nat.le_refl _) _; have HR := Lib.hid (right_eq f); have H0 := Lib.hid (fun W => fwithin_any f.kind 1 5 W); have H1 := Lib.hid (fun W => fwithin_any f.zone 0 65535 W); have H2 := Lib.hid (fun W => fwithin_any f.off 0 65535 W); have H3 := Lib.hid (fun W => fwithin_any f.epoch 1 4294967295 W); have H4 := Lib.hid (fun W => fwithin_any f.seq 0 281474976710655 W); generalize inB f.kind 1 5 = b0 at *; generalize inB f.zone 0 65535 = b1 at *; generalize inB f.off 0 65535 = b2 at *; generalize inB f.epoch 1 4294967295 = b3 at *; generalize inB f.seq 0 281474976710655 = b4 at *; generalize FC f = C at *; clear hg; go_enter Try.func66, Try.ntmps66; go_wp2_with fail; refine (H0.out _).mono ?_; rintro e w' ⟨rfl, rfl⟩; cases b0
  · go_wp2; go_ret; exact ⟨by rw [HR.out]; rfl, hB⟩
  · go_wp2_with fail; refine (H1.out _).mono ?_; rintro e w' ⟨rfl, rfl⟩; cases b1
    · go_wp2; go_ret; exact ⟨by rw [HR.out]; rfl, hB⟩
    · go_wp2_with fail; refine (H2.out _).mono ?_; rintro e w' ⟨rfl, rfl⟩; cases b2
      · go_wp2; go_ret; exact ⟨by rw [HR.out]; rfl, hB⟩
      · go_wp2_with fail; refine (H3.out _).mono ?_; rintro e w' ⟨rfl, rfl⟩; cases b3
        · go_wp2; go_ret; exact ⟨by rw [HR.out]; rfl, hB⟩
        · go_wp2_with fail; refine (H4.out _).mono ?_; rintro e w' ⟨rfl, rfl⟩; go_wp2; go_ret; exact ⟨by rw [HR.out]; rfl, hB⟩
end Go.Proofs.Ytoiephmngdecaaa
namespace Go.Rv
open Go.RowKit
set_option linter.unusedVariables false
def lb (c : Nat) : Lit := .int .u8 (c : Nat)
theorem lb_inj {l m : List Nat} (h : l.map lb = m.map lb) : l = m := by
  induction l generalizing m with
  | nil => cases m <;> simp_all
  | cons x l ih =>
    cases m with
    | nil => simp at h
    | cons y m =>
      simp only [List.map_cons, List.cons.injEq] at h; rw [ih h.2]; have := h.1; unfold lb at this; injection this with h1 h2; rw [show x = y by omega]
theorem mapM_some {α β : Type} (f : α → Option β) (g : α → β) : ∀ (l : List α), (∀ x ∈ l, f x = some (g x)) → l.mapM f = some (l.map g)
  | [], _ => rfl
  | x :: l, h => by
    rw [List.mapM_cons, h x (by simp), mapM_some f g l (fun y hy => h y (by simp [hy]))]; rfl
theorem flat_one {α β : Type} (g : α → β) (L : List α) : (L.map fun i => [g i]).flatten = L.map g := by
  induction L with
  | nil => rfl
  | cons x L ih => simp [ih]
theorem flat_lits (l : List Nat) : ((List.range l.length).map fun i => [lb (l.getD i 0)]).flatten = l.map lb := by
  rw [flat_one]; apply List.ext_getElem?; intro i; by_cases h : i < l.length
  · simp [h]
  · simp [h]
theorem lits_bytes {P : Program} {t e : TypeId} {n : Nat} (hu : P.underlying t = some (.array n e)) (he : P.underlying e = some (.int .u8)) (hc : P.cellsOf e = 1) (ht : P.cellsOf t = n) (l : List Nat) (hl : l.length = n) (hb : ∀ c ∈ l, c < 256) (d : Nat) :
    P.keyLits (d + 2) t (byteCells l).toList = some (l.map lb) := by
  have hlen : (byteCells l).toList.length = P.cellsOf t := by rw [Array.length_toList, size_byteCells, ht, hl]
  simp only [Program.keyLits, hu, hlen, if_true]; rw [mapM_some _ (fun i => [lb (l.getD i 0)])]
  · rw [Option.map_some, ← hl, flat_lits]
  · intro i hi; have hi' : i < l.length := by rw [hl]; simpa using hi
    have hg := byteCells_at l i hi'
    have hch : ((byteCells l).toList.drop (i * P.cellsOf e)).take (P.cellsOf e) = [.int .u8 (l.getD i 0 : Nat)] := by
      rw [hc, Nat.mul_one]; have h2 : (byteCells l).toList[i]? = some (.int .u8 (l.getD i 0 : Nat)) := by simpa using hg
      obtain ⟨h3, h4⟩ := List.getElem?_eq_some_iff.1 h2; rw [List.drop_eq_getElem_cons h3, h4]; rfl
    have hlt : l.getD i 0 < 256 := by
      rw [List.getD_eq_getElem?_getD, List.getElem?_eq_getElem hi']; exact hb _ (List.getElem_mem hi')
    rw [hch]; have hw : (Lit.int .u8 ((l.getD i 0 : Nat) : Int)).wf = true := Go.WalkArith.wf_u8 (by omega); simp only [he, hw, and_self, if_true]; rfl
theorem eq_deep {P : Program} {t : TypeId} (hk : P.keyTypeAt 10 t = true) {xs ys : Array Value} {la lb : List Lit} {d d' : Nat} (fx : (Value.agg xs).formed P t = true) (fy : (Value.agg ys).formed P t = true)
    (hx : P.keyLits d t xs.toList = some la) (hy : P.keyLits d' t ys.toList = some lb) (b : Bool) (hb : b = true ↔ la = lb) (w : World) : (Op.equalIn 10000 t (.agg xs) (.agg ys)).run P w = .ok b w := by
  obtain ⟨r, hr, hi⟩ := run_equalIn_deep (9990) 10 t hk w d d' (.agg xs) (.agg ys) la lb fx fy (by simpa [Value.cells] using hx) (by simpa [Value.cells] using hy)
  have : r = b := by
    rw [Bool.eq_iff_iff, hi, hb]
  rw [← this]; exact hr
end Go.Rv
namespace Go.Proofs.Ytoiephmngdecaaa
open Go.RowKit Go.Rv Frm
/-- a frame whose numbers are ints -/
def Num64 (f : Fr) : Prop := (Lit.int .i64 f.kind).wf = true ∧ (Lit.int .i64 f.zone).wf = true ∧ (Lit.int .i64 f.off).wf = true ∧ (Lit.int .i64 f.epoch).wf = true ∧ (Lit.int .i64 f.seq).wf = true
end Go.Proofs.Ytoiephmngdecaaa
namespace En
/-- an entry -/
structure E where
  kind : Int
  first : Int
  count : Int
  block : Int
  many : Int
  mate : Int
  bytes : List Nat
def E.zero : E := ⟨0, 0, 0, 0, 0, 0, List.replicate 32 0⟩
def inB (n a b : Int) : Bool := decide (a ≤ n) && decide (n ≤ b)
theorem inB_iff {n a b : Int} : inB n a b = true ↔ a ≤ n ∧ n ≤ b := by simp [inB]
def counts (e : E) : Bool :=
  if (e.kind == 1) = true then inB e.count 1 4 && e.many == 0
  else if (e.kind == 2) = true then e.count == 1 && (inB e.many 1 (256 - e.block) && decide (e.bytes = List.replicate 32 0))
  else (e.kind == 3) && (e.count == 1 && e.many == 0)
def right (e : E) : Bool := inB e.first 0 281474976710655 && (inB e.block 0 255 && (inB e.mate 0 65535 && counts e))
end En
namespace Go.Rv
open Go.RowKit
theorem wpList_load_mid_asked {P : Program} {ops : Array Oper} {rest : List Oper} {op : Oper} {a : Act} {w : World} {Q : Exit → Act → World → Prop} (hgd : Region.wanted op (yielded ops a.tmps) = true) (ty : TypeId) (x : Operand) (ho : op.op = .load ty x)
    (b o : Nat) (hx : a.eval x = .pointer (some ⟨b, o, none⟩)) (cs : List Value) (d : TypeDesc) (hc : w.rangeAt b o cs)
    (hu : P.underlying ty = some d) (hd : d.isRow = true) (hi : (P.info? ty).map (·.size) = some cs.length)
    (h : wpList P ops Q rest (a.put op.dst (.agg cs.toArray)) w) : wpList P ops Q (op :: rest) a w := by
  unfold wpList; rw [if_pos hgd]; exact .inl (wp_load_mid ty x ho b o hx cs d hc hu hd hi h)
end Go.Rv
namespace Go.Proofs.Ytoiephmngdecaaa
open Go.RowKit Go.Rv
set_option linter.unusedVariables false
/-- an entry's cells -/
def EC (e : En.E) : Array Value := #[.int .i64 e.kind, .int .i64 e.first, .int .i64 e.count, .int .i64 e.block, .int .i64 e.many, .int .i64 e.mate] ++ byteCells e.bytes
theorem EC_size (e : En.E) : (EC e).size = 6 + e.bytes.length := by simp [EC, byteCells]; omega
theorem EC_one (e : En.E) : (EC e).all (·.oneCell') = true := by
  have h := one_byteCells e.bytes; simp [EC, Value.oneCell'] at h ⊢; exact h
theorem EC_num (e : En.E) : (EC e)[0]? = some (.int .i64 e.kind) ∧ (EC e)[1]? = some (.int .i64 e.first) ∧ (EC e)[2]? = some (.int .i64 e.count) ∧ (EC e)[3]? = some (.int .i64 e.block) ∧ (EC e)[4]? = some (.int .i64 e.many) ∧ (EC e)[5]? = some (.int .i64 e.mate) := by
  refine ⟨?_, ?_, ?_, ?_, ?_, ?_⟩ <;> (unfold EC; rw [Array.getElem?_append_left (by simp)]; rfl)
theorem EC_bytes (e : En.E) (i : Nat) (h : i < e.bytes.length) : (EC e)[6 + i]? = some (.int .u8 (e.bytes.getD i 0 : Nat)) := by
  unfold EC; rw [Array.getElem?_append_right (by simp)]; simp only [List.size_toArray, List.length_cons, List.length_nil]; rw [show 6 + i - (0 + 1 + 1 + 1 + 1 + 1 + 1) = i by omega]; exact byteCells_at _ _ h
def EBody (e : En.E) : Prop := e.bytes.length = 32 ∧ ∀ c ∈ e.bytes, c < 256
theorem Try.infoEntry : (Try.prog.info? 65).map (fun i => (i.zero, i.size)) = some (some (.agg (EC En.E.zero)), 38) := by kernel_rfl
theorem Try.infoBlock : (Try.prog.info? 63).map (fun i => (i.zero, i.size)) = some (some (.agg (byteCells (List.replicate 32 0))), 32) := by kernel_rfl
theorem Try.infoBody : (Try.prog.info? 57).map (fun i => (i.zero, i.size)) = some (some (.agg (byteCells (List.replicate 44 0))), 44) := by kernel_rfl
theorem size_ent {e : En.E} (h : e.bytes.length = 32) : (Try.prog.info? 65).map (·.size) = some (EC e).size := by rw [EC_size, h]; exact (zero_of_info Try.infoEntry).2
/-- an entry in memory: its cells -/
def EntAt (w : World) (g : Nat) (e : En.E) : Prop := w.cell? ⟨g, 0, none⟩ = some (.int .i64 e.kind) ∧ w.cell? ⟨g, 1, none⟩ = some (.int .i64 e.first) ∧ w.cell? ⟨g, 2, none⟩ = some (.int .i64 e.count) ∧ w.cell? ⟨g, 3, none⟩ = some (.int .i64 e.block) ∧ w.cell? ⟨g, 4, none⟩ = some (.int .i64 e.many) ∧ w.cell? ⟨g, 5, none⟩ = some (.int .i64 e.mate)
theorem ent_cells {w : World} {g : Nat} {e : En.E} {t : TypeId} (h : w.heap[g]? = some (.cells (EC e) t (0, 0))) : EntAt w g e := by
  obtain ⟨h0, h1, h2, h3, h4, h5⟩ := EC_num e; exact ⟨(cell_of_row _ _ _ _ _ _ h).trans h0, (cell_of_row _ _ _ _ _ _ h).trans h1, (cell_of_row _ _ _ _ _ _ h).trans h2, (cell_of_row _ _ _ _ _ _ h).trans h3, (cell_of_row _ _ _ _ _ _ h).trans h4, (cell_of_row _ _ _ _ _ _ h).trans h5⟩
/-- its bytes read as a slice's -/
theorem ent_bytes {w : World} {g : Nat} {e : En.E} {t : TypeId} (h : w.heap[g]? = some (.cells (EC e) t (0, 0))) (hf : ∀ c ∈ e.bytes, c < 256) : Bytes w (some ⟨g, 6, none⟩) e.bytes :=
  ⟨hf, .inr ⟨g, 6, rfl, (Array.getElem?_eq_some_iff.1 h).1, fun i hi => (cell_of_row _ _ _ _ _ _ h).trans (EC_bytes e i hi)⟩⟩
theorem ent_range {w : World} {g : Nat} {e : En.E} {t : TypeId} (h : w.heap[g]? = some (.cells (EC e) t (0, 0))) : w.rangeAt g 6 (byteCells e.bytes).toList := fun j v hv => by
  have hj : j < e.bytes.length := by
    have := (List.getElem?_eq_some_iff.1 hv).1
    rwa [Array.length_toList, size_byteCells] at this
  rw [cell_of_row _ _ _ _ _ _ h, EC_bytes e j hj, ← hv, Array.getElem?_toList, byteCells_at _ _ hj]
theorem eq_block (l m : List Nat) (hl : l.length = 32) (hm : m.length = 32) (h1 : ∀ c ∈ l, c < 256) (h2 : ∀ c ∈ m, c < 256) (b : Bool) (hb : b = true ↔ l = m) (w : World) :
    (Op.equalIn 10000 63 (.agg (byteCells l)) (.agg (byteCells m))).run Try.prog w = .ok b w := by
  have hf : ∀ l : List Nat, l.length = 32 → (Value.agg (byteCells l)).formed Try.prog 63 = true := by
    intro l hl; simp only [Value.formed, Try.underlying63, size_byteCells, hl]; kernel_rfl
  refine eq_deep (by kernel_rfl) (hf l hl) (hf m hm) (lits_bytes Try.underlying63 Try.underlying5 (by kernel_rfl) (by kernel_rfl) l hl h1 0) (lits_bytes Try.underlying63 Try.underlying5 (by kernel_rfl) (by kernel_rfl) m hm h2 0) b (hb.trans ⟨fun h => by rw [h], lb_inj⟩) w
theorem eq_arr32 (l m : List Nat) (hl : l.length = 32) (hm : m.length = 32) (h1 : ∀ c ∈ l, c < 256) (h2 : ∀ c ∈ m, c < 256) (b : Bool) (hb : b = true ↔ l = m) (w : World) :
    (Op.equalIn 10000 62 (.agg (byteCells l)) (.agg (byteCells m))).run Try.prog w = .ok b w := by
  have hf : ∀ l : List Nat, l.length = 32 → (Value.agg (byteCells l)).formed Try.prog 62 = true := by
    intro l hl; simp only [Value.formed, Try.underlying62, size_byteCells, hl]; kernel_rfl
  refine eq_deep (by kernel_rfl) (hf l hl) (hf m hm) (lits_bytes Try.underlying62 Try.underlying5 (by kernel_rfl) (by kernel_rfl) l hl h1 0) (lits_bytes Try.underlying62 Try.underlying5 (by kernel_rfl) (by kernel_rfl) m hm h2 0) b (hb.trans ⟨fun h => by rw [h], lb_inj⟩) w
theorem eq_body (l m : List Nat) (hl : l.length = 44) (hm : m.length = 44) (h1 : ∀ c ∈ l, c < 256) (h2 : ∀ c ∈ m, c < 256) (b : Bool) (hb : b = true ↔ l = m) (w : World) :
    (Op.equalIn 10000 57 (.agg (byteCells l)) (.agg (byteCells m))).run Try.prog w = .ok b w := by
  have hf : ∀ l : List Nat, l.length = 44 → (Value.agg (byteCells l)).formed Try.prog 57 = true := by
    intro l hl; simp only [Value.formed, Try.underlying57, size_byteCells, hl]; kernel_rfl
  refine eq_deep (by kernel_rfl) (hf l hl) (hf m hm) (lits_bytes Try.underlying57 Try.underlying5 (by kernel_rfl) (by kernel_rfl) l hl h1 0) (lits_bytes Try.underlying57 Try.underlying5 (by kernel_rfl) (by kernel_rfl) m hm h2 0) b (hb.trans ⟨fun h => by rw [h], lb_inj⟩) w
set_option maxRecDepth 100000 in
set_option maxHeartbeats 400000 in
theorem ewithin_any (n a b : Int) (w : World) :
    Calls Try.prog 95 #[.int .i64 n, .int .i64 a, .int .i64 b] w fun e w' => e = .returned (.bool (En.inB n a b)) ∧ w = w' := by
  unfold En.inB; cases h1 : decide (a ≤ n)
  · go_enter Try.func95, Try.ntmps95; go_wp2; go_ret; exact ⟨rfl, rfl⟩
  · go_enter Try.func95, Try.ntmps95; go_wp2; go_ret; exact ⟨rfl, rfl⟩
end Go.Proofs.Ytoiephmngdecaaa
namespace Go.Proofs.Ytoiephmngdecaaa
open Go.RowKit Go.Rv
set_option linter.unusedVariables false
/-- block g is a pen that has written these bytes (its row is block f); bad or not -/
def PenAt (w : World) (g : Nat) (f : Option Nat) (l : List Nat) (bad : Bool) : Prop :=
  ∃ v, w.heap[g]? = some (.cells #[v, .bool bad] 148 (0, 0)) ∧ OwnB w 5 0 v l ∧ v.ownBlock = f
theorem PenAt.lt {w : World} {g : Nat} {f : Option Nat} {l : List Nat} {bad : Bool} (h : PenAt w g f l bad) : g < w.heap.size := by
  obtain ⟨v, hg, _⟩ := h; exact (Array.getElem?_eq_some_iff.1 hg).1
theorem PenAt.ne {w : World} {g : Nat} {f : Option Nat} {l : List Nat} {bad : Bool} (h : PenAt w g f l bad) : f ≠ some g := by
  obtain ⟨v, hg, ho, hf⟩ := h; rw [← hf]; exact ho.ne_block hg (by decide)
theorem PenAt.only {S : List Nat} {w w' : World} {g : Nat} {f : Option Nat} {l : List Nat} {bad : Bool} (h : PenAt w g f l bad) (hO : Only S w w') (hg : g ∉ S) (hf : ∀ k, f = some k → k ∉ S) : PenAt w' g f l bad := by
  have hlt := h.lt; obtain ⟨v, h1, ho, hv⟩ := h; exact ⟨v, (hO.block g hlt hg).trans h1, ho.only hO (fun k hk => hf k (by rw [← hv]; exact hk)), hv⟩
theorem PenAt.below {w w' : World} {g : Nat} {f : Option Nat} {l : List Nat} {bad : Bool} (h : PenAt w g f l bad) (hB : Below w.heap.size w w') : PenAt w' g f l bad :=
  h.only (S := []) (Only.of_below hB) (by simp) (by simp)
theorem PenAt.new (w : World) : PenAt (w.alloc (.cells #[.slice none 0 0, .bool false] 148)) w.heap.size none [] false :=
  ⟨_, heap_alloc_new w _, OwnB.nil _ _ _, rfl⟩
/-- a pen has written on: of what was there its own two blocks alone have turned; its row is as it was, or new -/
def PenPost (w : World) (g : Nat) (f : Option Nat) (l : List Nat) (bad : Bool) (e : Ending) (w' : World) : Prop :=
  e = .returned (.tuple #[]) ∧ ∃ f', PenAt w' g f' l bad ∧ Only (g :: f.toList) w w' ∧ (f' = f ∨ ∃ k, f' = some k ∧ w.heap.size ≤ k)
theorem PenAt.cells {w : World} {g : Nat} {v : Value} {bad : Bool} {t : TypeId} (h : w.heap[g]? = some (.cells #[v, .bool bad] t (0, 0))) : w.cell? ⟨g, 0, none⟩ = some v ∧ w.cell? ⟨g, 1, none⟩ = some (.bool bad) ∧ w.frozen? ⟨g, 0, none⟩ = false ∧ w.frozen? ⟨g, 1, none⟩ = false :=
  ⟨by rw [cell_of_row _ _ _ _ _ _ h]; rfl, by rw [cell_of_row _ _ _ _ _ _ h]; rfl, frozen_of_row _ _ _ _ _ h, frozen_of_row _ _ _ _ _ h⟩
theorem PenAt.setRow {w : World} {g : Nat} {v v' : Value} {l : List Nat} {bad : Bool} (hg : w.heap[g]? = some (.cells #[v, .bool bad] 148 (0, 0))) (ho : OwnB w 5 0 v' l) : PenAt (w.setCell ⟨g, 0, none⟩ v') g v'.ownBlock l bad := by
  refine ⟨v', ?_, ?_, rfl⟩
  · rw [heap_setCell_same _ _ _ _ _ _ hg]; rfl
  · refine ho.only (S := [g]) ((Only.refl _ _).setCell (by simp) _) ?_; intro k hk; simp; rintro rfl; exact ho.ne_block hg (by decide) hk
theorem fresh_trans {f f1 f2 : Option Nat} {H H' : Nat} (h1 : f1 = f ∨ ∃ k, f1 = some k ∧ H ≤ k) (h2 : f2 = f1 ∨ ∃ k, f2 = some k ∧ H' ≤ k) (hH : H ≤ H') : f2 = f ∨ ∃ k, f2 = some k ∧ H ≤ k := by
  rcases h2 with rfl | ⟨k, rfl, hk⟩
  · exact h1
  · exact .inr ⟨k, rfl, by omega⟩
/-- one append through the pen -/
theorem PenAt.step {w w1 : World} {g : Nat} {f : Option Nat} {v v' : Value} {l q : List Nat} {bad : Bool} (hg : w.heap[g]? = some (.cells #[v, .bool bad] 148 (0, 0))) (ho : OwnB w 5 0 v l) (hf : v.ownBlock = f)
    (hown : OwnB w1 5 0 v' q) (hgr : w.grownBy w1 v.ownBlock) (hat : v'.ownBlock = v.ownBlock ∨ v'.ownBlock = some w.heap.size) :
    w1.heap[g]? = some (.cells #[v, .bool bad] 148 (0, 0)) ∧ PenAt (w1.setCell ⟨g, 0, none⟩ v') g v'.ownBlock q bad ∧ Only (g :: f.toList) w (w1.setCell ⟨g, 0, none⟩ v') ∧ (v'.ownBlock = f ∨ ∃ k, v'.ownBlock = some k ∧ w.heap.size ≤ k) := by
  have hne := ho.ne_block hg (by decide); have hlt : g < w.heap.size := (Array.getElem?_eq_some_iff.1 hg).1; have hg1 := (hgr.block g hlt (fun e => hne e.symm)).trans hg; subst hf; refine ⟨hg1, PenAt.setRow hg1 hown, ?_, ?_⟩
  · refine ((Only.refl _ _).grown hgr ?_).setCell (by simp) _; intro k hk; rw [hk]; simp
  · rcases hat with h | h
    · exact .inl h
    · exact .inr ⟨_, h, Nat.le_refl _⟩
set_option maxRecDepth 100000 in
set_option maxHeartbeats 400000 in
theorem pen_bytes (g : Nat) (f : Option Nat) (l : List Nat) (bad : Bool) (a : Option Addr) (m : List Nat) (cap : Nat) (w : World) (hP : PenAt w g f l bad) (hb : Bytes w a m) (hcap : a = none → cap = 0) (hl : l.length ≤ 1000000) (hm : m.length ≤ 1000000) :
    Calls Try.prog 77 #[.pointer (some ⟨g, 0, none⟩), .slice a m.length cap] w (PenPost w g f (l ++ m) bad) := by
  obtain ⟨v, hg, ho, hf⟩ := hP; obtain ⟨c0, c1, f0, f1⟩ := PenAt.cells hg; have HF := Lib.hid hf; clear hf; obtain ⟨q, hq⟩ : ∃ q, q = l ++ m := ⟨_, rfl⟩; rw [← hq]; have HQ := Lib.hid hq; clear hq; go_enter Try.func77, Try.ntmps77; go_wp2_with (at_builtin; refine wpList_append_bytes_at rfl (.tmp 8) (.tmp 9) 134 rfl 5 Try.underlying134 Try.infoU8 0 v l rfl ho a cap m rfl hb hcap (by omega) (by omega) ?_; intro v' w1 hown hgr hat; rw [← HQ.out] at hown; obtain ⟨k1, k2, k3, k4⟩ := PenAt.step hg ho HF.out hown hgr hat; obtain ⟨d0, d1, e0, e1⟩ := PenAt.cells k1; obtain ⟨a', c', rfl, _, _, _⟩ := hown.bytes; have K := Lib.hid (And.intro k2 (And.intro k3 k4)); clear k2 k3 k4)
  go_end0
  exact ⟨rfl, _, K.out.1, K.out.2.1, K.out.2.2⟩
set_option maxRecDepth 100000 in
set_option maxHeartbeats 400000 in
theorem pen_num_yes (g : Nat) (f : Option Nat) (l : List Nat) (bad : Bool) (k n : Nat) (w : World) (hP : PenAt w g f l bad) (h1 : 1 ≤ k) (h7 : k ≤ 7) (hn : n < 256 ^ k) (hl : l.length ≤ 1000000) :
    Calls Try.prog 76 #[.pointer (some ⟨g, 0, none⟩), .int .i64 k, .int .i64 n] w (PenPost w g f (l ++ Cod.leN k n) bad) := by
  have hn63 : n < 9223372036854775808 := by have := (Cod.pow_le k h7).1; omega
  have hle : Cod.wid (n : Int) ≤ (k : Int) := by
    unfold Cod.wid; rw [if_neg (by omega), Int.toNat_natCast]; have := (Cod.widN_le n k h1 h7).2 hn; omega
  have HY := Lib.hid (fun W => within_yes k W (by omega) (by omega)); have HW := Lib.hid (fun W => width_any n W (by omega) (by omega)); generalize Cod.wid (n : Int) = z at *; clear hn; go_enter Try.func76, Try.ntmps76; go_wp2_with (first | (go_at_call 93; refine (HY.out _).mono ?_; rintro e w' ⟨rfl, rfl⟩) | (go_at_call 97; refine (HW.out _).mono ?_; rintro e w' ⟨rfl, rfl⟩)); go_loopw [2, 19] (fun x i wr => ∃ j : Nat, j ≤ k ∧ i = .int .i64 j ∧ x = .int .i64 (n / 256 ^ j : Nat) ∧ ∃ f', PenAt wr g f' (l ++ Cod.leN j n) bad ∧ Only (g :: f.toList) w wr ∧ (f' = f ∨ ∃ k, f' = some k ∧ w.heap.size ≤ k)) (fun _ i _ => k - (intOf i).toNat)
  case atStart => exact ⟨0, by omega, rfl, by simp, f, by simpa [Cod.leN] using hP, Only.refl _ _, .inl rfl⟩
  case round =>
    obtain ⟨j, hj, rfl, rfl, f', hP', hO, hfr⟩ := hrel; by_cases hlt : j < k
    · have hs := Lib.hid (div_succ n j); have hle' := div_le n j; obtain ⟨q, hq⟩ : ∃ q, q = l ++ Cod.leN (j + 1) n := ⟨_, rfl⟩; have hsn : q = (l ++ Cod.leN j n) ++ [n / 256 ^ j % 256] := by rw [hq, Cod.leN_snoc, List.append_assoc]
      have HQ := Lib.hid hq; clear hq; have hjl : (l ++ Cod.leN j n).length ≤ 1000007 := by rw [List.length_append, Cod.leN_length]; omega
      generalize l ++ Cod.leN j n = l0 at *; generalize n / 256 ^ j = x at *; have hx8 : x % 256 < 256 := Nat.mod_lt _ (by omega); have HSN := Lib.hid hsn; obtain ⟨v, hg, ho, hf⟩ := hP'; have hbb : Below wr.heap.size wr (wr.alloc (.cells #[.int .u8 ((x % 256 : Nat) : Int)] 5)) := (Below.refl _ _).alloc (Nat.le_refl _) _; have hga := (hbb.block g (Array.getElem?_eq_some_iff.1 hg).1).trans hg; have hoa := ho.below hbb; obtain ⟨c0, c1, f0, f1⟩ := PenAt.cells hg; have HF := Lib.hid hf; have HO := Lib.hid hO; have HFR := Lib.hid hfr; clear hf hsn hO hfr; go_wp2_with (at_builtin; refine wpList_append_bytes_at rfl (.tmp 25) (.tmp 28) 134 rfl 5 Try.underlying134 Try.infoU8 0 v l0 rfl hoa (some ⟨wr.heap.size, 0, none⟩) 1 [x % 256] rfl (one_byte_row wr _ _ hx8) (fun e => by cases e) (by simp; omega) (by omega) ?_; intro v' w1 hown hgr hat; rw [← HSN.out] at hown; obtain ⟨k1, k2, k3, k4⟩ := PenAt.step hga hoa HF.out hown hgr hat; obtain ⟨d0, d1, e0, e1⟩ := PenAt.cells k1; obtain ⟨a', c', rfl, _, _, _⟩ := hown.bytes; have K := Lib.hid (And.intro k2 (And.intro k3 k4)); clear k1 k2 k3 k4); go_roundw
      case rel =>
        refine ⟨j + 1, by omega, by go_num, by rw [← hs.out]; go_num, _, by rw [← HQ.out]; exact K.out.1, ?_, ?_⟩
        · refine HO.out.trans' ((Only.of_below hbb).trans K.out.2.1) ?_; intro y hy; simp only [List.mem_cons, Option.mem_toList] at hy ⊢; rcases hy with rfl | hy
          · exact .inl (.inl rfl)
          · rcases HFR.out with h | ⟨k', h, hk'⟩
            · exact .inl (.inr (by rw [← h]; exact hy))
            · rw [h] at hy; cases hy; exact .inr hk'
        · exact fresh_trans HFR.out K.out.2.2 (by have := HO.out.size; simp; omega)
      case measure => simp [intOf]; omega
    · obtain rfl : j = k := by omega
      go_wp2; refine bodyPost_ret (results_none rfl _ _ _) rfl ?_; exact ⟨rfl, f', hP', hO, hfr⟩
/-- what Out tells -/
def OutPost (l : List Nat) (bad : Bool) (w : World) (e : Ending) (w' : World) : Prop :=
  (∃ v, e = .returned (.tuple #[v, .int .i64 (if bad then 13 else 0)]) ∧ OwnB w' 5 w.heap.size v (if bad then [] else l) ∧ (bad = true → v = .slice none 0 0)) ∧ Below w.heap.size w w'
set_option maxRecDepth 100000 in
set_option maxHeartbeats 400000 in
theorem pen_out (g : Nat) (f : Option Nat) (l : List Nat) (bad : Bool) (w : World) (hP : PenAt w g f l bad) (hl : l.length ≤ 2000000) :
    Calls Try.prog 78 #[.pointer (some ⟨g, 0, none⟩)] w (OutPost l bad w) := by
  obtain ⟨v, hg, ho, hf⟩ := hP; obtain ⟨c0, c1, f0, f1⟩ := PenAt.cells hg; clear hf; cases bad
  · obtain ⟨a, cap, rfl, hb, hn, _⟩ := ho.bytes; have hbel : Below w.heap.size w (w.alloc (.cells #[] 5)) := (Below.refl _ _).alloc (Nat.le_refl _) _; have d0 := (hbel.cell (p := ⟨g, 0, none⟩) (Array.getElem?_eq_some_iff.1 hg).1).trans c0; go_enter Try.func78, Try.ntmps78; go_wp2_with (at_builtin; refine wpList_append_bytes_at rfl (.tmp 8) (.tmp 12) 134 rfl 5 Try.underlying134 Try.infoU8 w.heap.size _ [] rfl (OwnB.made (g := w.heap.size) (Nat.le_refl _) (heap_alloc_new w _) rfl (by unfold maxLen; omega)) a cap l rfl (hb.below hbel) hn (by simp; omega) (by simp) ?_; intro v' w1 hown hgr hat)
    go_ret2
    refine ⟨⟨v', rfl, hown, fun h => by cases h⟩, hbel.trans (Below.of_grown hgr (by simp) ?_)⟩; intro k hk; simp [Act.eval, Value.ownBlock] at hk; omega
  · go_enter Try.func78, Try.ntmps78; go_wp2
    go_ret2
    exact ⟨⟨_, rfl, OwnB.nil _ _ _, fun _ => rfl⟩, Below.refl _ _⟩
/-- a pen of the caller's own writes on: what lies below it stays -/
def PenNext (w : World) (g : Nat) (l : List Nat) (bad : Bool) (e : Ending) (w' : World) : Prop :=
  e = .returned (.tuple #[]) ∧ ∃ f, PenAt w' g f l bad ∧ (∀ j, f = some j → g < j) ∧ Below g w w'
theorem PenPost.next {w w' : World} {g : Nat} {f : Option Nat} {l : List Nat} {bad : Bool} {e : Ending} (h : PenPost w g f l bad e w') (hf : ∀ j, f = some j → g < j) (hg : g < w.heap.size) : PenNext w g l bad e w' := by
  obtain ⟨he, f', hP, hO, hfr⟩ := h; refine ⟨he, f', hP, ?_, hO.below ?_ (by omega)⟩
  · intro j hj; rcases hfr with h | ⟨k, h, hk⟩
    · exact hf j (h ▸ hj)
    · rw [h] at hj; cases hj; omega
  · intro x hx; simp only [List.mem_cons, Option.mem_toList] at hx; rcases hx with rfl | hx
    · exact Nat.le_refl _
    · exact Nat.le_of_lt (hf x hx)
theorem pen_to (g : Nat) (f : Option Nat) (l q : List Nat) (bad : Bool) (W V : Int) (k n : Nat) (w : World) (hP : PenAt w g f l bad) (hf : ∀ j, f = some j → g < j) (hW : W = k) (hV : V = n) (h1 : 1 ≤ k) (h7 : k ≤ 7) (hn : n < 256 ^ k) (hl : l.length ≤ 1000000) (hq : q = l ++ Cod.leN k n) :
    Calls Try.prog 76 #[.pointer (some ⟨g, 0, none⟩), .int .i64 W, .int .i64 V] w (PenNext w g q bad) := by
  subst hW hV hq; exact (pen_num_yes g f l bad k n w hP h1 h7 hn hl).mono fun e w' h => h.next hf hP.lt
theorem pen_bytes_to (g : Nat) (f : Option Nat) (l q : List Nat) (bad : Bool) (a : Option Addr) (m : List Nat) (cap len : Nat) (w : World) (hP : PenAt w g f l bad) (hf : ∀ j, f = some j → g < j) (hb : Bytes w a m) (hcap : a = none → cap = 0) (hl : l.length ≤ 1000000) (hm : m.length ≤ 1000000) (hlen : m.length = len) (hq : q = l ++ m) :
    Calls Try.prog 77 #[.pointer (some ⟨g, 0, none⟩), .slice a len cap] w (PenNext w g q bad) := by
  subst hq hlen; exact (pen_bytes g f l bad a m cap w hP hb hcap hl hm).mono fun e w' h => h.next hf hP.lt
end Go.Proofs.Ytoiephmngdecaaa
namespace Go.Proofs.Ytoiephmngdecaaa
open Go.RowKit
set_option linter.unusedVariables false
namespace Tb
def zero : Array Value := Array.replicate 256 (.int .u32 0)
def part (k : Nat) : Array Value := ((List.range 256).map fun i => if i < k then Value.int .u32 (Crc.tab i) else .int .u32 0).toArray
def tabV : Array Value := ((List.range 256).map fun i => Value.int .u32 (Crc.tab i)).toArray
end Tb
theorem Try.infoTab : (Try.prog.info? 41).map (fun i => (i.zero, i.size)) = some (some (.agg Tb.zero), 256) := by kernel_rfl
namespace Tb
theorem size_zero : zero.size = 256 := by simp [zero]
theorem size_part (k : Nat) : (part k).size = 256 := by simp [part]
theorem size_tabV : tabV.size = 256 := by simp [tabV]
theorem part_zero : part 0 = zero := by
  apply Array.ext_getElem?; intro i; simp [part, zero, Array.getElem?_replicate]; by_cases h : i < 256 <;> simp [h]
theorem part_full : part 256 = tabV := by
  apply Array.ext_getElem?; intro i; simp [part, tabV]; by_cases h : i < 256 <;> simp [h]
theorem part_succ (k : Nat) (hk : k < 256) : part (k + 1) = (part k).setIfInBounds k (.int .u32 (Crc.tab k)) := by
  apply Array.ext_getElem?; intro i; rw [Array.getElem?_setIfInBounds]; simp [part]; by_cases hi : k = i
  · subst hi; simp [hk]
  · by_cases h : i < 256
    · simp [h, hi]; by_cases h2 : i < k
      · simp [h2, show i < k + 1 by omega]
      · simp [h2, show ¬ i < k + 1 by omega]
    · simp [h, hi]
theorem part_at (k j : Nat) (hj : j < 256) : ∃ v, (part k)[j]? = some v := by
  exact ⟨_, Array.getElem?_eq_getElem (by rw [size_part]; exact hj)⟩
theorem tabV_at (j : Nat) (hj : j < 256) : tabV[j]? = some (.int .u32 (Crc.tab j)) := by
  simp [tabV, hj]
theorem one_tabV : tabV.all (·.oneCell') = true := by
  rw [Array.all_eq_true_iff_forall_mem]; intro v hv; simp only [tabV, List.mem_toArray, List.mem_map] at hv; obtain ⟨i, _, rfl⟩ := hv; rfl
end Tb
theorem and1 (a : Nat) (ha : a < 2 ^ 32) : bits .and .u32 (a : Int) 1 = ((a % 2 : Nat) : Int) := by
  have := u32_and_nat a 1 (by simpa using ha) (by omega); rw [Nat.and_one_is_mod] at this; exact this
theorem xorG (a : Nat) (ha : a < 2 ^ 32) : bits .xor .u32 ((a : Int) / 2) 2197175160 = (((a / 2) ^^^ Crc.G : Nat) : Int) := by
  have := u32_xor_nat (a / 2) 2197175160 (by omega) (by omega); simpa [Crc.G] using this
set_option maxRecDepth 100000 in
set_option maxHeartbeats 400000 in
theorem new_any (w : World) : Calls Try.prog 12 #[] w fun e w' => e = .returned (.agg Tb.tabV) ∧ Below w.heap.size w w' := by
  have hz := (zero_of_info Try.infoTab).1; go_enter Try.func12, Try.ntmps12; go_wp2; go_loopw [5] (fun i wr => ∃ k : Nat, k ≤ 256 ∧ i = .int .i64 k ∧ wr.heap[w.heap.size + 1]? = some (.cells (Tb.part k) 41 (0, 0)) ∧ wr.heap[w.heap.size]? = some (.cells Tb.zero 41 (0, 0)) ∧ Below w.heap.size w wr)
    (fun i _ => 256 - (intOf i).toNat)
  case atStart =>
    exact ⟨0, by omega, rfl, by rw [Tb.part_zero]; exact heap_alloc2_new _ _ _, heap_alloc2_old _ _ _, ((Below.refl _ _).alloc (Nat.le_refl _) _).alloc (by simp) _⟩
  case round =>
    obtain ⟨k, hk, rfl, hT, hR, hB⟩ := hrel; by_cases hlt : k < 256
    · have hk32 : k < 2 ^ 32 := by omega
      go_wp2
      go_loop [3, 10] (fun r j => ∃ m : Nat, m ≤ 8 ∧ j = .int .i64 m ∧ r = .int .u32 (Crc.hn m k : Nat)) (fun _ j => 8 - (intOf j).toNat)
      case atStart => exact ⟨0, by omega, rfl, rfl⟩
      case round =>
        obtain ⟨m, hm, rfl, rfl⟩ := hrel; have hl := Crc.hn_lt m hk32; by_cases hm8 : m < 8
        · have hs : Hid (Crc.hn (m + 1) k = if Crc.hn m k % 2 = 1 then (Crc.hn m k / 2) ^^^ Crc.G else Crc.hn m k / 2) := by
            show Crc.hn (m + 1) k = _; rw [Crc.hn_add]; rfl
          by_cases h1 : Crc.hn m k % 2 = 1
          · have e1 : (bits BinOp.and IntKind.u32 (↑(Crc.hn m k)) 1 == 1) = true := by rw [and1 _ hl, h1]; rfl
            have e2 := xorG _ hl; have h1' := Lib.hid h1; clear h1; go_wp2; go_round
            case rel => exact ⟨m + 1, by omega, by go_num, by rw [hs.out, if_pos h1'.out]⟩
            case measure => simp [intOf]; omega
          · have e1 : (bits BinOp.and IntKind.u32 (↑(Crc.hn m k)) 1 == 1) = false := by
              rw [and1 _ hl, show Crc.hn m k % 2 = 0 by omega]; rfl
            go_wp2; go_round
            case rel => exact ⟨m + 1, by omega, by go_num, by rw [hs.out, if_neg h1]; rfl⟩
            case measure => simp [intOf]; omega
        · obtain rfl : m = 8 := by omega
          obtain ⟨v, hv⟩ := Tb.part_at k k hlt; have hc : wr.cell? ⟨w.heap.size + 1, k, none⟩ = some v := (cell_of_row _ _ _ _ _ _ hT).trans hv; have hf : wr.frozen? ⟨w.heap.size + 1, k, none⟩ = false := frozen_of_row _ _ _ _ _ hT; clear hm8; go_wp2; go_roundw
          case rel =>
            exact ⟨k + 1, by omega, by go_num, by rw [heap_setCell_same _ _ _ _ _ _ hT, Tb.part_succ k hlt]; rfl, by rw [heap_setCell_other _ _ _ _ (by simp)]; exact hR, hB.setCell (p := ⟨w.heap.size + 1, k, none⟩) (by simp) _⟩
          case measure => simp [intOf]; omega
    · obtain rfl : k = 256 := by omega
      rw [Tb.part_full] at hT; clear hlt; have hi : (Try.prog.info? 41).map (·.size) = some Tb.tabV.size := by rw [Tb.size_tabV]; exact (zero_of_info Try.infoTab).2
      have hI := Lib.hid hi; clear hi; go_wp2_with (first | (refine wpList_load_row rfl 41 _ rfl (w.heap.size + 1) rfl 41 _ _ _ hT Try.underlying41 rfl hI.out ?_) | (refine wpList_store_row rfl 41 _ _ rfl w.heap.size Tb.tabV rfl rfl 41 Tb.zero hR hI.out (by rw [Tb.size_zero, Tb.size_tabV]) Tb.one_tabV ?_)); refine bodyPost_ret (results_cell_row rfl _ _ w.heap.size 41 Tb.tabV _ _ rfl (setRow_heap _ _ _ _ _ _ hR) Try.underlying41 rfl hI.out) rfl ?_; exact ⟨rfl, below_setRow hB (Nat.le_refl _) _⟩
end Go.Proofs.Ytoiephmngdecaaa
namespace Go.Proofs.Ytoiephmngdecaaa
open Go.RowKit
set_option linter.unusedVariables false
theorem byte_xor (r c : Nat) (hc : c < 256) : bits .xor .u8 ((r : Int) % 256) (c : Int) = ((r % 256 ^^^ c : Nat) : Int) := by
  have := u8_xor_nat (r % 256) c (by omega) hc; simpa using this
theorem word_xor (r t : Nat) (hr : r < 2 ^ 32) (ht : t < 2 ^ 32) : bits .xor .u32 ((r : Int) / 256) (t : Int) = ((r / 256 ^^^ t : Nat) : Int) := by
  have := u32_xor_nat (r / 256) t (by omega) (by simpa using ht); simpa using this
set_option maxRecDepth 100000 in
set_option maxHeartbeats 400000 in
theorem step_any (r c : Nat) (hr : r < 2 ^ 32) (hc : c < 256) (w : World) :
    Calls Try.prog 104 #[.agg Tb.tabV, .int .u32 r, .int .u8 c] w fun e w' => e = .returned (.int .u32 (Crc.step r c : Nat)) ∧ Below w.heap.size w w' := by
  obtain ⟨x, hx⟩ : ∃ x, x = r % 256 ^^^ c := ⟨_, rfl⟩; have hx8 : x < 256 := by rw [hx]; exact Nat.xor_lt_two_pow (n := 8) (by omega) hc
  have e1 := byte_xor r c hc; rw [← hx] at e1; have HX := Lib.hid hx; clear hx; have ht := Tb.tabV_at x hx8; obtain ⟨t, hT⟩ : ∃ t, t = Crc.tab x := ⟨_, rfl⟩; rw [← hT] at ht; have ht32 : t < 2 ^ 32 := by rw [hT]; exact Crc.tab_lt (by omega)
  have HT := Lib.hid hT; clear hT; have e2 := word_xor r t hr ht32; go_enter Try.func104, Try.ntmps104; go_wp2; go_ret; refine ⟨?_, (Below.refl _ _).alloc (Nat.le_refl _) _⟩; rw [Crc.step_tab, ← HX.out, ← HT.out]; rfl
end Go.Proofs.Ytoiephmngdecaaa
namespace Go.Proofs.Ytoiephmngdecaaa
open Go.RowKit Go.Rv
set_option linter.unusedVariables false
theorem over_take_succ (r : Nat) (l : List Nat) (k c : Nat) (h : l[k]? = some c) : Crc.over r (l.take (k + 1)) = Crc.step (Crc.over r (l.take k)) c := by
  obtain ⟨hk, rfl⟩ := List.getElem?_eq_some_iff.1 h; rw [List.take_succ_eq_append_getElem hk, Crc.over_snoc]
theorem over_take_lt {r : Nat} {l : List Nat} (hr : r < 2 ^ 32) (hl : ∀ c ∈ l, c < 256) (k : Nat) : Crc.over r (l.take k) < 2 ^ 32 :=
  Crc.over_lt hr fun c hc => hl c (List.mem_of_mem_take hc)
set_option maxRecDepth 100000 in
set_option maxHeartbeats 400000 in
theorem over_any (g r : Nat) (a : Option Addr) (l : List Nat) (cap : Nat) (hr : r < 2 ^ 32) (w : World) (hg : w.heap[g]? = some (.cells Tb.tabV 41 (0, 0))) (hb : Bytes w a l) (hlen : l.length ≤ 9223372036854775807) :
    Calls Try.prog 91 #[.pointer (some ⟨g, 0, none⟩), .int .u32 r, .slice a l.length cap] w fun e w' => e = .returned (.int .u32 (Crc.over r l : Nat)) ∧ Below w.heap.size w w' := by
  have hi : (Try.prog.info? 41).map (·.size) = some Tb.tabV.size := by rw [Tb.size_tabV]; exact (zero_of_info Try.infoTab).2
  have hI := Lib.hid hi; clear hi; have hgl : g < w.heap.size := (Array.getElem?_eq_some_iff.1 hg).1; go_enter Try.func91, Try.ntmps91; go_wp2; go_loopw [1, 11] (fun q i wr => ∃ k : Nat, k ≤ l.length ∧ i = .int .i64 k ∧ q = .int .u32 (Crc.over r (l.take k) : Nat) ∧ Below w.heap.size w wr) (fun _ i _ => l.length - (intOf i).toNat)
  case atStart => exact ⟨0, by omega, rfl, rfl, Below.refl _ _⟩
  case round =>
    obtain ⟨k, hk, rfl, rfl, hB⟩ := hrel; by_cases hlt : k < l.length
    · obtain ⟨b, o, c, rfl, hbl, hc, hc8, hlk⟩ := hb.at hlt; have hc' : wr.cell? ⟨b, o + k, none⟩ = some (.int .u8 (c : Nat)) := by rw [hB.cell (by exact hbl)]; exact hc
      have hg' : wr.heap[g]? = some (.cells Tb.tabV 41 (0, 0)) := by rw [hB.block g hgl]; exact hg
      have hs := Lib.hid (over_take_succ r l k c hlk); have hl32 := over_take_lt hr hb.1 k; have HL := Lib.hid hlk; clear hlk hc; generalize Crc.over r (l.take k) = q at *; go_wp2_with (first | (refine wpList_load_row rfl 41 _ rfl g rfl 41 _ _ _ hg' Try.underlying41 rfl hI.out ?_) | (go_at_call 104; refine (step_any _ _ hl32 hc8 _).mono ?_; rintro e w1 ⟨rfl, hB1⟩)); go_roundw
      case rel => exact ⟨k + 1, by omega, by go_num, by rw [hs.out], hB.trans (hB1.mono hB.size)⟩
      case measure => simp [intOf]; omega
    · obtain rfl : k = l.length := by omega
      go_wp2; go_ret; exact ⟨by rw [List.take_length]; rfl, hB⟩
theorem xor_ones (x : Nat) (hx : x < 2 ^ 32) : bits .xor .u32 (x : Int) 4294967295 = ((x ^^^ Crc.ones : Nat) : Int) :=
  u32_xor_nat x 4294967295 (by simpa using hx) (by omega)
set_option maxRecDepth 100000 in
set_option maxHeartbeats 400000 in
theorem sum_any (a : Option Addr) (l : List Nat) (cap : Nat) (w : World) (hb : Bytes w a l) (hlen : l.length ≤ 9223372036854775807) :
    Calls Try.prog 69 #[.agg Tb.tabV, .slice a l.length cap] w fun e w' => e = .returned (.int .u32 (Crc.sum l : Nat)) ∧ Below w.heap.size w w' := by
  have hB0 : Below w.heap.size w (w.alloc (.cells Tb.tabV 41)) := (Below.refl _ _).alloc (Nat.le_refl _) _; have hb' := hb.below hB0; have hx := xor_ones (Crc.over Crc.ones l) (Crc.over_lt Crc.ones_lt hb.1); have hs : Crc.sum l = Crc.over Crc.ones l ^^^ Crc.ones := rfl; rw [← hs] at hx; have HS := Lib.hid hs; clear hs; have hc := fun w0 h0 h1 => over_any w.heap.size 4294967295 a l cap (by omega) w0 h0 h1 hlen; rw [show Crc.over 4294967295 l = Crc.over Crc.ones l from rfl] at hc; generalize Crc.over Crc.ones l = q at *; have HC := Lib.hid hc; clear hc; go_enter Try.func69, Try.ntmps69; go_wp2_with (go_at_call 91; refine (HC.out _ (heap_alloc_new w _) hb').mono ?_; rintro e w1 ⟨rfl, hB1⟩); go_ret; exact ⟨rfl, hB0.trans (hB1.mono (by simp))⟩
end Go.Proofs.Ytoiephmngdecaaa
