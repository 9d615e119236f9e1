/- Small laws, over any program: slices of bytes that are read; rows of bytes that the call itself made, read, written and appended to. -/
import Derived.WalkKit
import Derived.WalkLawsBesides
import Derived.WalkSpells
import Derived.Lib.Hide
import Derived.Laws.CopyOwn
import Derived.Laws.AppendOwnNone
import Derived.Deep.WholeRow
import Derived.Deep.OwnRows
namespace Go.Rv
open Go.RowKit
/-- a byte, as a value -/
def bv (c : Nat) : Value := .int .u8 (c : Nat)
/-- a slice whose elements are these bytes -/
def Bytes (w : World) (a : Option Addr) (l : List Nat) : Prop :=
  (∀ c ∈ l, c < 256) ∧ (l = [] ∨ ∃ b o, a = some ⟨b, o, none⟩ ∧ b < w.heap.size ∧ ∀ i, i < l.length → w.cell? ⟨b, o + i, none⟩ = some (.int .u8 (l.getD i 0 : Nat)))
theorem Bytes.nil (w : World) (a : Option Addr) : Bytes w a [] := ⟨by simp, .inl rfl⟩
theorem Bytes.below {w w' : World} {a : Option Addr} {l : List Nat} (h : Bytes w a l) (hb : Below w.heap.size w w') : Bytes w' a l := by
  refine ⟨h.1, ?_⟩
  rcases h.2 with rfl | ⟨b, o, rfl, hlt, hc⟩
  · exact .inl rfl
  · exact .inr ⟨b, o, rfl, Nat.lt_of_lt_of_le hlt hb.size, fun i hi => by rw [hb.cell (by exact hlt)]; exact hc i hi⟩
/-- the slice lies below a number of blocks -/
def Under (a : Option Addr) (B : Nat) : Prop := ∀ x, a = some x → x.block < B
theorem Bytes.at {w : World} {a : Option Addr} {l : List Nat} (h : Bytes w a l) {k : Nat} (hk : k < l.length) : ∃ b o c, a = some ⟨b, o, none⟩ ∧ b < w.heap.size ∧ w.cell? ⟨b, o + k, none⟩ = some (.int .u8 (c : Nat)) ∧ c < 256 ∧ l[k]? = some c := by
  rcases h.2 with rfl | ⟨b, o, rfl, hlt, hc⟩
  · simp at hk
  · refine ⟨b, o, l[k], rfl, hlt, ?_, h.1 _ (List.getElem_mem hk), List.getElem?_eq_getElem hk⟩
    rw [hc k hk, List.getD_eq_getElem?_getD, List.getElem?_eq_getElem hk]
    rfl
theorem Bytes.take {w : World} {a : Option Addr} {l : List Nat} (h : Bytes w a l) (n : Nat) : Bytes w a (l.take n) := by
  refine ⟨fun c hc => h.1 c (List.mem_of_mem_take hc), ?_⟩
  rcases h.2 with rfl | ⟨b, o, rfl, hlt, hc⟩
  · exact .inl (by simp)
  · refine .inr ⟨b, o, rfl, hlt, fun i hi => ?_⟩
    simp only [List.length_take] at hi
    rw [hc i (by omega), List.getD_eq_getElem?_getD, List.getD_eq_getElem?_getD, List.getElem?_take, if_pos (by omega)]
theorem Bytes.drop {w : World} {b o : Nat} {l : List Nat} (h : Bytes w (some ⟨b, o, none⟩) l) (n : Nat) : Bytes w (some ⟨b, o + n, none⟩) (l.drop n) := by
  refine ⟨fun c hc => h.1 c (List.mem_of_mem_drop hc), ?_⟩
  rcases h.2 with rfl | ⟨b', o', e, hlt, hc⟩
  · exact .inl (by simp)
  · simp only [Option.some.injEq, Addr.mk.injEq, and_true] at e
    obtain ⟨rfl, rfl⟩ := e
    refine .inr ⟨b, o + n, rfl, hlt, fun i hi => ?_⟩
    simp only [List.length_drop] at hi
    rw [Nat.add_assoc, hc (n + i) (by omega), List.getD_eq_getElem?_getD, List.getD_eq_getElem?_getD, List.getElem?_drop]
/-- a row of bytes, as cells -/
def byteCells (l : List Nat) : Array Value := (l.map fun c => Value.int .u8 (c : Nat)).toArray
theorem size_byteCells (l : List Nat) : (byteCells l).size = l.length := by simp [byteCells]
theorem byteCells_at (l : List Nat) (i : Nat) (h : i < l.length) : (byteCells l)[i]? = some (.int .u8 (l.getD i 0 : Nat)) := by
  simp [byteCells, h]
theorem byteCells_set (l : List Nat) (i v : Nat) : (byteCells l).setIfInBounds i (.int .u8 (v : Nat)) = byteCells (l.set i v) := by
  simp [byteCells, List.map_set]
theorem made_bytes (n : Nat) : madeCells #[.int .u8 0] n = byteCells (List.replicate n 0) := by
  apply Array.ext_getElem?
  intro i
  simp only [madeCells, byteCells]
  simp
  by_cases h : i < n <;> simp [h, Nat.mod_one]
theorem one_byteCells (l : List Nat) : (byteCells l).all (·.oneCell') = true := by
  rw [Array.all_eq_true_iff_forall_mem]
  intro v hv
  simp only [byteCells, List.mem_toArray, List.mem_map] at hv
  obtain ⟨i, _, rfl⟩ := hv
  rfl
theorem byteCells_row {w : World} {g : Nat} {l : List Nat} {t : TypeId} {fr : Nat × Nat} (hg : w.heap[g]? = some (.cells (byteCells l) t fr)) (hl : ∀ c ∈ l, c < 256) : Bytes w (some ⟨g, 0, none⟩) l :=
  ⟨hl, .inr ⟨g, 0, rfl, (Array.getElem?_eq_some_iff.1 hg).1, fun i hi => by rw [Nat.zero_add, cell_of_row _ _ _ _ _ _ hg, byteCells_at _ _ hi]⟩⟩
theorem run_make_bytes {P : Program} (t e : TypeId) (ht : P.underlying t = some (.slice e)) (hinfo : (P.info? e).map (fun i => (i.zero, i.size, i.bytes)) = some (some (.int .u8 0), 1, 1))
    (n : Nat) (h : n ≤ 100000) (w : World) : (Instr.makeSlice t (.int .i64 (n : Int)) (.int .i64 (n : Int))).run P w = .ok (.slice (some ⟨w.heap.size, 0, none⟩) n n) (w.alloc (.cells (byteCells (List.replicate n 0)) e)) := by
  rw [run_make_row' t e (.int .u8 0) 1 ht hinfo rfl .i64 .i64 n (by omega) (by omega) w, made_bytes]
/-- a row of bytes of the call's own -/
def OwnB (w : World) (e : TypeId) (base : Nat) (v : Value) (l : List Nat) : Prop :=
  w.ownsRow base e 1 v l.length (l.map fun c => Value.int .u8 (c : Nat)) ∧ (∀ c ∈ l, c < 256)
theorem OwnB.nil (w : World) (e : TypeId) (base : Nat) : OwnB w e base (.slice none 0 0) [] := ⟨World.ownsRow_nil _ _ _ _, by simp⟩
theorem OwnB.made {w : World} {e : TypeId} {base g cap : Nat} {cur : Array Value} (hb : base ≤ g) (hg : w.heap[g]? = some (.cells cur e (0, 0))) (hc : cur.size = cap) (hm : cap ≤ maxLen) : OwnB w e base (.slice (some ⟨g, 0, none⟩) 0 cap) [] :=
  ⟨⟨by simp, .inr ⟨g, cap, cur, rfl, hb, hg, Nat.zero_le _, hm, by simpa using hc, by simp⟩⟩, by simp⟩
theorem OwnB.row {w : World} {e : TypeId} {base g : Nat} {l : List Nat} (hb : base ≤ g) (hg : w.heap[g]? = some (.cells (byteCells l) e (0, 0))) (hl : ∀ c ∈ l, c < 256) (hm : l.length ≤ maxLen) : OwnB w e base (.slice (some ⟨g, 0, none⟩) l.length l.length) l :=
  ⟨⟨by simp, .inr ⟨g, l.length, _, rfl, hb, hg, Nat.le_refl _, hm, by simp [byteCells], by simp [byteCells, List.take_of_length_le]⟩⟩, hl⟩
/-- what is known of such a row: its value, and its cells -/
theorem OwnB.open {w : World} {e : TypeId} {base : Nat} {v : Value} {l : List Nat} (h : OwnB w e base v l) (h0 : 0 < l.length) :
    ∃ g cap, v = .slice (some ⟨g, 0, none⟩) l.length cap ∧ base ≤ g ∧ g < w.heap.size ∧ l.length ≤ cap ∧ cap ≤ maxLen ∧ (∀ i, i < l.length → w.cell? ⟨g, i, none⟩ = some (.int .u8 (l.getD i 0 : Nat))) ∧ (∀ i, w.frozen? ⟨g, i, none⟩ = false) := by
  obtain ⟨⟨_, hr⟩, hl⟩ := h
  rcases hr with ⟨_, hn⟩ | ⟨g, cap, cur, rfl, hb, hg, hnc, hcm, hcs, htake⟩
  · omega
  · refine ⟨g, cap, rfl, hb, (Array.getElem?_eq_some_iff.1 hg).1, hnc, hcm, fun i hi => ?_, fun i => frozen_of_row _ _ _ _ _ hg⟩
    rw [cell_of_row _ _ _ _ _ _ hg]
    have h1 : (cur.toList.take (l.length * 1))[i]? = (l.map fun c => Value.int .u8 (c : Nat))[i]? := by rw [htake]
    rw [List.getElem?_take, if_pos (by omega)] at h1
    rw [← Array.getElem?_toList, h1]
    simp [hi]
theorem OwnB.bytes {w : World} {e : TypeId} {base : Nat} {v : Value} {l : List Nat} (h : OwnB w e base v l) : ∃ a cap, v = .slice a l.length cap ∧ Bytes w a l ∧ (a = none → cap = 0) ∧ (∀ x, a = some x → base ≤ x.block ∧ x.block < w.heap.size ∧ v.ownBlock = some x.block) := by
  by_cases h0 : 0 < l.length
  · obtain ⟨g, cap, rfl, hb, hlt, _, _, hc, _⟩ := h.open h0
    exact ⟨_, _, rfl, ⟨h.2, .inr ⟨g, 0, rfl, hlt, fun i hi => by rw [Nat.zero_add]; exact hc i hi⟩⟩, fun e => (by cases e), fun x hx => (by cases hx; exact ⟨hb, hlt, rfl⟩)⟩
  · have hl : l = [] := List.eq_nil_of_length_eq_zero (by omega)
    subst hl
    rcases h.1.2 with ⟨rfl, _⟩ | ⟨g, cap, cur, rfl, hb, hg, _⟩
    · exact ⟨none, 0, rfl, Bytes.nil _ _, fun _ => rfl, fun x hx => (by cases hx)⟩
    · exact ⟨some ⟨g, 0, none⟩, cap, rfl, Bytes.nil _ _, fun e => (by cases e), fun x hx => (by cases hx; exact ⟨hb, (Array.getElem?_eq_some_iff.1 hg).1, rfl⟩)⟩
theorem OwnB.set {w : World} {e : TypeId} {base g cap : Nat} {l : List Nat} (h : OwnB w e base (.slice (some ⟨g, 0, none⟩) l.length cap) l) (i c : Nat) (hc : c < 256) :
    OwnB (w.setCell ⟨g, i, none⟩ (.int .u8 (c : Nat))) e base (.slice (some ⟨g, 0, none⟩) l.length cap) (l.set i c) := by
  have h1 := (World.ownsRow.stored h.1 i (.int .u8 (c : Nat))).1
  refine ⟨by rw [List.map_set, List.length_set]; exact h1, fun d hd => ?_⟩
  rcases List.mem_or_eq_of_mem_set hd with h' | h'
  · exact h.2 d h'
  · rw [h']; exact hc
theorem OwnB.kept {w w' : World} {e : TypeId} {base : Nat} {v : Value} {l : List Nat} (h : OwnB w e base v l) {row : Option Nat} (hg : w.grownBy w' row) (hne : v.ownBlock = none ∨ v.ownBlock ≠ row) : OwnB w' e base v l := ⟨h.1.kept hg hne, h.2⟩
theorem grownBy_of_below {w w' : World} (h : Below w.heap.size w w') (row : Option Nat) : w.grownBy w' row := ⟨h.os, h.tape, h.output, h.size, fun i hi _ => h.block i hi⟩
theorem OwnB.below {w w' : World} {e : TypeId} {base : Nat} {v : Value} {l : List Nat} (h : OwnB w e base v l) (hb : Below w.heap.size w w') : OwnB w' e base v l :=
  h.kept (grownBy_of_below hb none) (by cases v.ownBlock <;> simp)
theorem OwnB.mono {w : World} {e : TypeId} {base base' : Nat} {v : Value} {l : List Nat} (h : OwnB w e base v l) (hb : base' ≤ base) : OwnB w e base' v l := by
  obtain ⟨⟨h1, hr⟩, hl⟩ := h
  refine ⟨⟨h1, ?_⟩, hl⟩
  rcases hr with hr | ⟨g, cap, cur, hv, hg, r⟩
  · exact .inl hr
  · exact .inr ⟨g, cap, cur, hv, by omega, r⟩
theorem Below.of_grown {w w' : World} {row : Option Nat} {B : Nat} (hg : w.grownBy w' row) (hB : B ≤ w.heap.size) (hr : ∀ k, row = some k → B ≤ k) : Below B w w' := (Below.refl B w).grown hg hB hr
/-- behind an append to such a row: below its base nothing has turned -/
theorem OwnB.grown {w w' : World} {e : TypeId} {base : Nat} {v : Value} {l : List Nat} (h : OwnB w e base v l) (hg : w.grownBy w' v.ownBlock) (hb : base ≤ w.heap.size) : Below base w w' := by
  refine Below.of_grown hg hb fun k hk => ?_
  obtain ⟨a, c, rfl, _, _, hx⟩ := h.bytes
  cases a with
  | none => simp [Value.ownBlock] at hk
  | some x =>
    simp [Value.ownBlock] at hk
    have := (hx x rfl).1
    omega
/-- a row of the call's own is appended to: by bytes that lie anywhere -/
theorem wpList_append_bytes {P : Program} {w : World} {ops : Array Oper} {rest : List Oper} {o : Oper} {a : Act} {Q : Exit → Act → World → Prop} (hgd : o.guard = none) (s x : Operand) (t : TypeId)
    (ho : o.op = .call { callee := .builtin .append, args := #[s, x], argTypes := #[t, t] })
    (e : TypeId) (ht : P.underlying t = some (.slice e)) (hinfo : (P.info? e).map (fun i => (i.zero, i.size, i.bytes)) = some (some (.int .u8 0), 1, 1))
    (base : Nat) (v : Value) (l : List Nat) (hs : a.eval s = v) (hown : OwnB w e base v l) (ad : Option Addr) (cap : Nat) (m : List Nat) (hx : a.eval x = .slice ad m.length cap) (hb : Bytes w ad m) (hcap : ad = none → cap = 0)
    (hlen : l.length + m.length ≤ 140737488355328) (hbase : base ≤ w.heap.size)
    (h : ∀ v' w', OwnB w' e base v' (l ++ m) → w.grownBy w' v.ownBlock → wpList P ops Q rest (a.put o.dst v') w') : wpList P ops Q (o :: rest) a w := by
  obtain ⟨i0, hi, hz0, hz1, hz2⟩ := info_parts hinfo
  cases ad with
  | none =>
    have hm : m = [] := by
      rcases hb.2 with h | ⟨b, o, e, _⟩
      · exact h
      · cases e
    subst hm
    have hc := hcap rfl
    subst hc
    refine wpList_append_own_none hgd s x t ho base e i0 1 ht hi v l.length _ hs hown.1 hx ?_
    exact h v w (by simpa using hown) ⟨rfl, rfl, rfl, Nat.le_refl _, fun _ _ _ => rfl⟩
  | some ad =>
    refine wpList_append_own w hgd s x t ho base e i0 (.int .u8 0) 1 1 ht hi hz0 hz1 hz2 rfl (by decide) v l.length _ hs hown.1 ad m.length cap (m.map fun c => Value.int .u8 (c : Nat)) hx (by simp) ?_ ?_ (by unfold maxLen; omega) (by omega) hbase ?_
    · intro j u hu
      rcases hb.2 with rfl | ⟨b, o, e, _, hc⟩
      · simp at hu
      · cases e
        simp only [List.getElem?_map, Option.map_eq_some_iff] at hu
        obtain ⟨y, hy, rfl⟩ := hu
        obtain ⟨hj, rfl⟩ := List.getElem?_eq_some_iff.1 hy
        have hadd : (⟨b, o, none⟩ : Addr).add j = ⟨b, o + j, none⟩ := by unfold Addr.add; split <;> simp_all
        rw [hadd, hc j hj, List.getD_eq_getElem?_getD, List.getElem?_eq_getElem hj]
        rfl
    · intro u hu
      simp only [List.mem_map] at hu
      obtain ⟨y, _, rfl⟩ := hu
      rfl
    · intro v' w' h1 h2 _
      refine h v' w' ⟨by simpa using h1, fun c hc => ?_⟩ h2
      rcases List.mem_append.1 hc with hc | hc
      · exact hown.2 c hc
      · exact hb.1 c hc
end Go.Rv
namespace Go.Rv
open Go.RowKit
/-- a slice of bytes that came in, as the bytes that it reads as -/
theorem bytes_of_row {w : World} {a : Option Addr} {len cap : Nat} {zs : List Int}
    (h : (a = none ∧ len = 0 ∧ cap = 0 ∧ zs = []) ∨ ∃ x, a = some x ∧ len ≤ cap ∧ cap ≤ maxLen ∧ zs.length = cap ∧ (∀ i, i < zs.length → w.cell? (x.add i) = some (.int .u8 (zs.getD i 0))) ∧ ∀ n ∈ zs, (Lit.int .u8 n).wf = true) :
    ∃ l : List Nat, l.length = len ∧ Bytes w a l ∧ (a = none → cap = 0) := by
  rcases h with ⟨rfl, rfl, rfl, rfl⟩ | ⟨x, rfl, hl, hm, hz, hcell, hwz⟩
  · exact ⟨[], rfl, Bytes.nil _ _, fun _ => rfl⟩
  · have hb : ∀ n ∈ zs, 0 ≤ n ∧ n < 256 := fun n hn => by
      have := hwz n hn
      simp [Lit.wf, IntKind.min, IntKind.max, IntKind.signed, IntKind.bits] at this
      omega
    refine ⟨(zs.take len).map Int.toNat, by simp; omega, ⟨fun c hc => ?_, ?_⟩, fun e => by cases e⟩
    · obtain ⟨n, hn, rfl⟩ := List.mem_map.1 hc
      have := hb n (List.mem_of_mem_take hn)
      omega
    · by_cases h0 : len = 0
      · left; simp [h0]
      · right
        obtain ⟨b, o, spot⟩ := x
        have hc := hcell 0 (by omega)
        have hspot : spot = none := by simpa [Addr.add] using World.cell?_spot hc
        subst hspot
        refine ⟨b, o, rfl, ?_, fun i hi => ?_⟩
        · have := block_lt_of_cell hc
          simpa [Addr.add] using this
        · simp only [List.length_map, List.length_take] at hi
          have hc := hcell i (by omega)
          have hadd : (⟨b, o, none⟩ : Addr).add i = ⟨b, o + i, none⟩ := by unfold Addr.add; split <;> simp_all
          rw [hadd] at hc
          rw [hc]
          congr 2
          have hzi : i < zs.length := by omega
          have := hb zs[i] (List.getElem_mem hzi)
          have hil : i < len := by omega
          simp [hzi, hil]
          omega
end Go.Rv
