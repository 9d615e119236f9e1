/- Small laws, over any program: of the blocks that were there none has turned but those of a list; blocks that are known whole; appends that tell where the new row lies. -/
import Derived.Test.YtogijlpclceanaaKitV
import Derived.Maps.AppendAt
import Derived.StillTailTactics
namespace Go.Rv
open Go.RowKit
/-- of the blocks that were there none has turned but those of a list -/
structure Only (S : List Nat) (w w' : World) : Prop where
  os : w'.os = w.os
  tape : w'.tape = w.tape
  output : w'.output = w.output
  size : w.heap.size ≤ w'.heap.size
  block : ∀ b, b < w.heap.size → b ∉ S → w'.heap[b]? = w.heap[b]?
theorem Only.refl (S : List Nat) (w : World) : Only S w w := ⟨rfl, rfl, rfl, Nat.le_refl _, fun _ _ _ => rfl⟩
theorem Only.trans {S : List Nat} {a b c : World} (h : Only S a b) (k : Only S b c) : Only S a c :=
  ⟨k.os.trans h.os, k.tape.trans h.tape, k.output.trans h.output, Nat.le_trans h.size k.size, fun i hi hn => (k.block i (Nat.lt_of_lt_of_le hi h.size) hn).trans (h.block i hi hn)⟩
/-- the second one's list may hold blocks that are new since the first one's beginning -/
theorem Only.trans' {S T : List Nat} {a b c : World} (h : Only S a b) (k : Only T b c) (hT : ∀ x ∈ T, x ∈ S ∨ a.heap.size ≤ x) : Only S a c :=
  ⟨k.os.trans h.os, k.tape.trans h.tape, k.output.trans h.output, Nat.le_trans h.size k.size, fun i hi hn => (k.block i (Nat.lt_of_lt_of_le hi h.size) (fun hm => by rcases hT i hm with h1 | h1; exact hn h1; omega)).trans (h.block i hi hn)⟩
theorem Only.mono {S T : List Nat} {w w' : World} (h : Only S w w') (hT : ∀ x ∈ S, x ∈ T ∨ w.heap.size ≤ x) : Only T w w' := (Only.refl T w).trans' h hT
theorem Only.of_below {S : List Nat} {w w' : World} (h : Below w.heap.size w w') : Only S w w' := ⟨h.os, h.tape, h.output, h.size, fun i hi _ => h.block i hi⟩
theorem Only.drew {S : List Nat} {a w : World} (h : Only S a w) : Only S a w.drew := ⟨h.os, h.tape, h.output, h.size, h.block⟩
theorem Only.alloc {S : List Nat} {a w : World} (h : Only S a w) (o : Obj) : Only S a (w.alloc o) := h.trans (Only.of_below ((Below.refl _ _).alloc (Nat.le_refl _) o))
theorem Only.setCell {S : List Nat} {a w : World} (h : Only S a w) {p : Addr} (hp : p.block ∈ S ∨ a.heap.size ≤ p.block) (u : Value) : Only S a (w.setCell p u) :=
  ⟨h.os, h.tape, h.output, by simpa [World.setCell] using h.size, fun i hi hn => (Below.heap_setCell w p u i (fun e => by subst e; rcases hp with h1 | h1; exact hn h1; omega)).trans (h.block i hi hn)⟩
theorem Only.grown {S : List Nat} {a w w' : World} (h : Only S a w) {row : Option Nat} (hg : w.grownBy w' row) (hr : ∀ k, row = some k → k ∈ S ∨ a.heap.size ≤ k) : Only S a w' :=
  ⟨hg.os.trans h.os, hg.tape.trans h.tape, hg.output.trans h.output, Nat.le_trans h.size hg.size, fun i hi hn => (hg.block i (Nat.lt_of_lt_of_le hi h.size) (fun e => by rcases hr i e.symm with h1 | h1; exact hn h1; omega)).trans (h.block i hi hn)⟩
theorem Only.below {S : List Nat} {w w' : World} (h : Only S w w') {B : Nat} (hS : ∀ x ∈ S, B ≤ x) (hB : B ≤ w.heap.size) : Below B w w' :=
  ⟨h.os, h.tape, h.output, h.size, fun i hi => h.block i (by omega) (fun hm => by have := hS i hm; omega)⟩
theorem Bytes.only {S : List Nat} {w w' : World} {a : Option Addr} {l : List Nat} (h : Bytes w a l) (hb : Only S w w') (hS : ∀ x, a = some x → x.block ∉ S) : Bytes w' a l := by
  refine ⟨h.1, ?_⟩
  rcases h.2 with rfl | ⟨b, o, rfl, hlt, hc⟩
  · exact .inl rfl
  · refine .inr ⟨b, o, rfl, Nat.lt_of_lt_of_le hlt hb.size, fun i hi => ?_⟩
    rw [← hc i hi]
    exact World.cell?_of_block (hb.block b hlt (hS _ rfl))
theorem OwnB.lt {w : World} {e : TypeId} {base : Nat} {v : Value} {l : List Nat} (h : OwnB w e base v l) {k : Nat} (hk : v.ownBlock = some k) : base ≤ k ∧ k < w.heap.size := by
  obtain ⟨a, c, rfl, _, _, hx⟩ := h.bytes
  cases a with
  | none => simp [Value.ownBlock] at hk
  | some x =>
    have h1 := hx x rfl
    rw [h1.2.2] at hk
    simp at hk
    subst hk
    exact ⟨h1.1, h1.2.1⟩
theorem OwnB.only {S : List Nat} {w w' : World} {e : TypeId} {base : Nat} {v : Value} {l : List Nat} (h : OwnB w e base v l) (hb : Only S w w') (hS : ∀ k, v.ownBlock = some k → k ∉ S) : OwnB w' e base v l := by
  obtain ⟨⟨h1, hr⟩, hl⟩ := h
  refine ⟨⟨h1, ?_⟩, hl⟩
  rcases hr with hr | ⟨g, cap, cur, rfl, hg, hh, r⟩
  · exact .inl hr
  · exact .inr ⟨g, cap, cur, rfl, hg, (hb.block g (Array.getElem?_eq_some_iff.1 hh).1 (hS g rfl)).trans hh, r⟩
/-- two rows of unlike elements are unlike -/
theorem OwnB.ne_block {w : World} {e t : TypeId} {base g : Nat} {v : Value} {l : List Nat} {C : Array Value} {fr : Nat × Nat} (h : OwnB w e base v l) (hg : w.heap[g]? = some (.cells C t fr)) (hne : e ≠ t) : v.ownBlock ≠ some g := by
  rcases h.1.2 with ⟨rfl, _⟩ | ⟨k, cap, cur, rfl, _, hh, _⟩
  · simp [Value.ownBlock]
  · intro he
    have : k = g := by simpa [Value.ownBlock] using he
    subst this
    rw [hh] at hg
    injection hg with hg
    injection hg with _ ht
    exact hne ht
/-- a row of the call's own is appended to, by bytes that lie anywhere: and where the new row lies -/
theorem wpList_append_bytes_at {P : Program} {w : World} {ops : Array Oper} {rest : List Oper} {o : Oper} {a : Act} {Q : Exit → Act → World → Prop} (hgd : o.guard = none) (s x : Operand) (t : TypeId)
    (ho : o.op = .call { callee := .builtin .append, args := #[s, x], argTypes := #[t, t] })
    (e : TypeId) (ht : P.underlying t = some (.slice e)) (hinfo : (P.info? e).map (fun i => (i.zero, i.size, i.bytes)) = some (some (.int .u8 0), 1, 1))
    (base : Nat) (v : Value) (l : List Nat) (hs : a.eval s = v) (hown : OwnB w e base v l) (ad : Option Addr) (cap : Nat) (m : List Nat) (hx : a.eval x = .slice ad m.length cap) (hb : Bytes w ad m) (hcap : ad = none → cap = 0)
    (hlen : l.length + m.length ≤ 140737488355328) (hbase : base ≤ w.heap.size)
    (h : ∀ v' w', OwnB w' e base v' (l ++ m) → w.grownBy w' v.ownBlock → (v'.ownBlock = v.ownBlock ∨ v'.ownBlock = some w.heap.size) → wpList P ops Q rest (a.put o.dst v') w') : wpList P ops Q (o :: rest) a w := by
  obtain ⟨i0, hi, hz0, hz1, hz2⟩ := info_parts hinfo
  cases ad with
  | none =>
    have hm : m = [] := by
      rcases hb.2 with h | ⟨b, o, e, _⟩
      · exact h
      · cases e
    subst hm
    have hc := hcap rfl
    subst hc
    refine wpList_append_own_none hgd s x t ho base e i0 1 ht hi v l.length _ hs hown.1 hx ?_
    exact h v w (by simpa using hown) ⟨rfl, rfl, rfl, Nat.le_refl _, fun _ _ _ => rfl⟩ (.inl rfl)
  | some ad =>
    refine wpList_append_own_at w hgd s x t ho base e i0 (.int .u8 0) 1 1 ht hi hz0 hz1 hz2 rfl (by decide) v l.length _ hs hown.1 ad m.length cap (m.map fun c => Value.int .u8 (c : Nat)) hx (by simp) ?_ ?_ (by unfold maxLen; omega) (by omega) hbase ?_
    · intro j u hu
      rcases hb.2 with rfl | ⟨b, o, e, _, hc⟩
      · simp at hu
      · cases e
        simp only [List.getElem?_map, Option.map_eq_some_iff] at hu
        obtain ⟨y, hy, rfl⟩ := hu
        obtain ⟨hj, rfl⟩ := List.getElem?_eq_some_iff.1 hy
        have hadd : (⟨b, o, none⟩ : Addr).add j = ⟨b, o + j, none⟩ := by unfold Addr.add; split <;> simp_all
        rw [hadd, hc j hj, List.getD_eq_getElem?_getD, List.getElem?_eq_getElem hj]
        rfl
    · intro u hu
      simp only [List.mem_map] at hu
      obtain ⟨y, _, rfl⟩ := hu
      rfl
    · intro v' w' h1 h2 _ h4
      refine h v' w' ⟨by simpa using h1, fun c hc => ?_⟩ h2 h4
      rcases List.mem_append.1 hc with hc | hc
      · exact hown.2 c hc
      · exact hb.1 c hc
/-- a row of one byte -/
theorem one_byte_row (W : World) (e : TypeId) (c : Nat) (hc : c < 256) : Bytes (W.alloc (.cells #[.int .u8 (c : Nat)] e)) (some ⟨W.heap.size, 0, none⟩) [c] :=
  byteCells_row (l := [c]) (heap_alloc_new W (.cells #[.int .u8 (c : Nat)] e)) (by simpa using hc)
theorem OwnB.read {w : World} {e : TypeId} {base g c n : Nat} {l : List Nat} (h : OwnB w e base (.slice (some ⟨g, 0, none⟩) n c) l) : Bytes w (some ⟨g, 0, none⟩) l := by
  obtain ⟨a', c', e', hb', _⟩ := h.bytes
  cases e'
  exact hb'
theorem same_pref {a b : List Nat} {k : Nat} (h : a.take k = b.take k) {x y : Nat} (ha : a[k]? = some x) (hb : b[k]? = some y) (e : x = y) : a.take (k + 1) = b.take (k + 1) := by
  obtain ⟨h1, rfl⟩ := List.getElem?_eq_some_iff.1 ha
  obtain ⟨h2, rfl⟩ := List.getElem?_eq_some_iff.1 hb
  rw [List.take_succ_eq_append_getElem h1, List.take_succ_eq_append_getElem h2, h, e]
theorem same_no {a b : List Nat} {k : Nat} {x y : Nat} (ha : a[k]? = some x) (hb : b[k]? = some y) (e : ¬ x = y) : a ≠ b := by
  rintro rfl
  rw [ha] at hb
  exact e (by injection hb)
/-- three blocks, one behind the other -/
theorem alloc3_at (w : World) (A B C : Obj) : (((w.alloc A).alloc B).alloc C).heap[w.heap.size]? = some A ∧ (((w.alloc A).alloc B).alloc C).heap[w.heap.size + 1]? = some B ∧ (((w.alloc A).alloc B).alloc C).heap[w.heap.size + 1 + 1]? = some C := by
  refine ⟨?_, ?_, ?_⟩
  · rw [Below.heap_alloc _ _ _ (by simp; omega)]; exact heap_alloc2_old _ _ _
  · rw [Below.heap_alloc _ _ _ (by simp)]; exact heap_alloc2_new _ _ _
  · have h := heap_alloc_new ((w.alloc A).alloc B) C
    rw [World.size_alloc, World.size_alloc] at h
    exact h
theorem below3 (w : World) (A B C : Obj) : Below w.heap.size w (((w.alloc A).alloc B).alloc C) := (((Below.refl _ _).alloc (Nat.le_refl _) _).alloc (by simp) _).alloc (by simp; omega) _
end Go.Rv
