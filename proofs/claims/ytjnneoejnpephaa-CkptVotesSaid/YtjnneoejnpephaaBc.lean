/- Proved here, one behind the other: Laws over any program: a range over a function whose iterator may turn channels (their counters alone) and whatever else of its own that is no cells; the round's word is which blocks it may turn; Laws over any program: ranges over functions (Turn), where a round's frame is known but for one block that its assignment has laid; Laws over any program: a range over a function whose iterator reads some blocks and keeps no cells of its own from round to round; a round may write cells wherever it likes but in those blocks; Plain laws: a list's things, each with its place; The law on drawn regions (Conf), inside a fence: in a round of a range over a function too; Laws over any program: whole rows stored, and compared, inside a round; A law over any program: a region that draws its order, its operations looked at once each, under one assertion of the slots, of what is over and of the world; A law over any program: a region that draws its order and in which a few operations, each behind the one before it, turn the world stage by stage; each operation is looked at once; A law over any program: a region that draws its order, in which a few operations, each behind the one before it, turn some blocks stage by stage, and others make blocks; each operation is looked at once, each slot has a fact; A law over any program: a region that draws its order, in which a few operations, each behind the one before it, turn some blocks stage by stage, one makes a block, and one stores a row into it, in an open order. -/
import Derived.RangeFuncNested
import Derived.RangeFuncBound
import Derived.RangeFuncCalls
import Derived.RangeFuncLeaves
import Derived.Shelf.Abstract
import Derived.Shelf.RegionOpen
import Derived.OwnWalkIn
import Derived.TacticsInMore
import Derived.LoopNIn
import Derived.LoopIn
import Derived.OrdersIn
import Derived.TacticsIn
import Derived.Laws.Tables
import Derived.Test.YtjnneoejnpephaaBa
namespace Go.Rv
open Go.RowKit
set_option linter.unusedVariables false
/-- new blocks; of those that lay from B on whatever is no cells may have turned; the channels of a list keep what lies in them; all else is as it was -/
structure Turn (B : Nat) (C : List Nat) (A W : World) : Prop where
  os : W.os = A.os
  tape : W.tape = A.tape
  output : W.output = A.output
  size : A.heap.size ≤ W.heap.size
  block : ∀ (k : Nat) (o : Obj), A.heap[k]? = some o → k ∉ C → (k < B ∨ o.isCells = true) → W.heap[k]? = some o
  chan : ∀ k ∈ C, ∀ cap buf s r, A.heap[k]? = some (.chan cap buf false s r false) → ∃ s' r', W.heap[k]? = some (.chan cap buf false s' r' false)
theorem Turn.refl (B : Nat) (C : List Nat) (w : World) : Turn B C w w := ⟨rfl, rfl, rfl, Nat.le_refl _, fun _ _ h _ _ => h, fun _ _ _ _ s r h => ⟨s, r, h⟩⟩
theorem Turn.trans {B : Nat} {C : List Nat} {a b c : World} (h : Turn B C a b) (k : Turn B C b c) : Turn B C a c :=
  ⟨k.os.trans h.os, k.tape.trans h.tape, k.output.trans h.output, Nat.le_trans h.size k.size, fun i o hi hn hc => k.block i o (h.block i o hi hn hc) hn hc,
    fun i hi cap buf s r hh => by obtain ⟨s', r', h'⟩ := h.chan i hi cap buf s r hh; exact k.chan i hi cap buf s' r' h'⟩
theorem Turn.of_only {B : Nat} {C : List Nat} {a w : World} (h : Only [] a w) : Turn B C a w :=
  ⟨h.os, h.tape, h.output, h.size, fun k o hk _ _ => (h.block k (Array.getElem?_eq_some_iff.1 hk).1 (by simp)).trans hk,
    fun k _ cap buf s r hk => ⟨s, r, (h.block k (Array.getElem?_eq_some_iff.1 hk).1 (by simp)).trans hk⟩⟩
theorem Turn.of_below {B : Nat} {C : List Nat} {a w : World} (h : Below a.heap.size a w) : Turn B C a w := Turn.of_only (Only.of_below h)
theorem Turn.alloc {B : Nat} {C : List Nat} {a w : World} (h : Turn B C a w) (o : Obj) : Turn B C a (w.alloc o) := h.trans (Turn.of_only ((Only.refl [] w).alloc o))
theorem Turn.drew {B : Nat} {C : List Nat} {a w : World} (h : Turn B C a w) : Turn B C a w.drew := h.trans (Turn.of_only (Only.refl [] w).drew)
theorem Turn.putObj {B : Nat} {C : List Nat} {a w : World} (h : Turn B C a w) {l : Nat} {o : Obj} (hB : B ≤ l) (hl : w.heap[l]? = some o) (ho : o.isCells = false) (hC : l ∉ C) (o' : Obj) : Turn B C a (w.putObj l o') := by
  refine h.trans ⟨rfl, rfl, rfl, by simp, fun k x hk hn hc => ?_, fun k hk cap buf s r hh => ⟨s, r, ?_⟩⟩
  · rw [World.putObj_heap_other]
    · exact hk
    · intro e
      subst e
      rw [hl] at hk
      cases hk
      rcases hc with hc | hc
      · omega
      · rw [ho] at hc; cases hc
  · rw [World.putObj_heap_other]
    · exact hh
    · intro e
      subst e
      exact hC hk
theorem Turn.mono {B B' : Nat} {C C' : List Nat} {a w : World} (h : Turn B' C' a w) (hB : B ≤ B') (hC : ∀ k ∈ C', k ∈ C) (hCB : ∀ k ∈ C, k < B') : Turn B C a w := by
  refine ⟨h.os, h.tape, h.output, h.size, fun k o hk hn hc => h.block k o hk (fun e => hn (hC k e)) (hc.imp (fun e => Nat.lt_of_lt_of_le e hB) id), fun k hk cap buf s r hh => ?_⟩
  by_cases hm : k ∈ C'
  · exact h.chan k hm cap buf s r hh
  · exact ⟨s, r, h.block k _ hh hm (.inl (hCB k hk))⟩
theorem Only.putObj {S : List Nat} {a w : World} (h : Only S a w) {l : Nat} (hl : l ∈ S ∨ a.heap.size ≤ l) (o : Obj) : Only S a (w.putObj l o) :=
  ⟨h.os, h.tape, h.output, by simpa using h.size, fun i hi hn => by
    rw [World.putObj_heap_other]
    · exact h.block i hi hn
    · intro e; subst e; rcases hl with h1 | h1
      · exact hn h1
      · omega⟩
theorem Only.get {S : List Nat} {a w : World} (h : Only S a w) {k : Nat} {o : Obj} (hk : a.heap[k]? = some o) (hn : k ∉ S) : w.heap[k]? = some o := (h.block k (Array.getElem?_eq_some_iff.1 hk).1 hn).trans hk
theorem alloc_get (w : World) (o : Obj) (k : Nat) : (w.alloc o).heap[k]? = if k = w.heap.size then some o else w.heap[k]? := by
  show (w.heap.push o)[k]? = _
  rw [Array.getElem?_push]
theorem alloc_new (w : World) (o : Obj) {k : Nat} (h : k = w.heap.size) : (w.alloc o).heap[k]? = some o := by rw [alloc_get, if_pos h]
theorem alloc_old (w : World) (o : Obj) {k : Nat} (h : k < w.heap.size) : (w.alloc o).heap[k]? = w.heap[k]? := by rw [alloc_get, if_neg (by omega)]
/-- an assertion that abides such turns -/
def AbT {β : Type} (B : Nat) (C : List Nat) (J : β → World → Prop) : Prop := ∀ s A W, J s A → Turn B C A W → J s W
theorem AbT.and {β : Type} {B : Nat} {C : List Nat} {I J : β → World → Prop} (h : AbT B C I) (k : AbT B C J) : AbT B C (fun s W => I s W ∧ J s W) := fun s A W hs ht => ⟨h s A W hs.1 ht, k s A W hs.2 ht⟩
theorem AbT.pure {β : Type} (B : Nat) (C : List Nat) (p : β → Prop) : AbT B C (fun s (_ : World) => p s) := fun _ _ _ hs _ => hs
theorem AbT.mono {β : Type} {B B' : Nat} {C C' : List Nat} {J : β → World → Prop} (h : AbT B C J) (hB : B ≤ B') (hC : ∀ k ∈ C', k ∈ C) (hCB : ∀ k ∈ C, k < B') : AbT B' C' J := fun s A W hs ht => h s A W hs (ht.mono hB hC hCB)
theorem AbT.heap {β : Type} {B : Nat} {C : List Nat} {b : Nat} (X : β → Obj) (hb : b ∉ C) (hX : ∀ s, b < B ∨ (X s).isCells = true) : AbT B C (fun s W => W.heap[b]? = some (X s)) := fun s A W hs ht => ht.block b _ hs hb (hX s)
theorem AbT.row {β : Type} {B : Nat} {C : List Nat} {b : Nat} {t : TypeId} {fr : Nat × Nat} (X : β → Array Value) (hb : b ∉ C) : AbT B C (fun s W => W.heap[b]? = some (.cells (X s) t fr)) := AbT.heap (fun s => .cells (X s) t fr) hb (fun _ => .inr rfl)
theorem AbT.only {β : Type} {B : Nat} {C S : List Nat} {w₀ : World} (hB : w₀.heap.size ≤ B) (hS : ∀ k ∈ C, k ∈ S) : AbT B C (fun (_ : β) W => Only S w₀ W) :=
  fun s A W h t => ⟨t.os.trans h.os, t.tape.trans h.tape, t.output.trans h.output, Nat.le_trans h.size t.size, fun b hb hn => by
    obtain ⟨o, ho⟩ : ∃ o, w₀.heap[b]? = some o := ⟨_, Array.getElem?_eq_getElem hb⟩
    rw [ho]
    exact t.block b o (h.get ho hn) (fun e => hn (hS b e)) (.inl (by omega))⟩
/-- AN ITERATOR's WORD: R: the blocks that it reads; C: the channels that it turns -/
def SeqT {α : Type} (F : Fence) (n : Nat) (P : Program) (g : Nat) (lb : Array Value) (encs : α → Array Value) (R C : List Nat) (S Sp : List α → Prop) (N : Nat) (w : World) : Prop :=
  ∀ (l : Nat) (T : List Nat) (J Jx : List α → World → Prop) (W : World), Below w.heap.size w W → w.heap.size ≤ l → l < W.heap.size → (∀ k ∈ T, k < W.heap.size ∧ k ∉ R) → AbT W.heap.size C J → AbT W.heap.size C Jx →
    (∀ pre x W1, J pre W1 → pre.length < N → Sp (pre ++ [x]) → YieldAt F (n - 1) P l (encs x) W1 fun e W' =>
      Only (l :: T) W1 W' ∧ ((e = .returned (.bool true) ∧ J (pre ++ [x]) W') ∨ (e = .returned (.bool false) ∧ Jx (pre ++ [x]) W'))) →
    J [] W →
    CallsIn F n P g (#[.func (.yield l) #[] #[]] ++ lb) W fun e W' => (∃ v, e = .returned v) ∧ ((∃ xs, S xs ∧ J xs W') ∨ (∃ pre, Sp pre ∧ Jx pre W'))
theorem SeqT.inRound {α : Type} {F : Fence} {n : Nat} {P : Program} {g : Nat} {lb : Array Value} {encs : α → Array Value} {R C : List Nat} {S Sp : List α → Prop} {N : Nat} {w : World} (l : Nat) (h : SeqT F n P g lb encs R C S Sp N w) : SeqT (F.inRound l) n P g lb encs R C S Sp N w := h
/-- how a round's body may be left -/
def postT {α : Type} (T : List Nat) (I : List α → World → Prop) (Ix : Code → List α → World → Prop) (xs : List α) (W : World) : Exit → Act → World → Prop
  | .normal, _, W' => Only T W W' ∧ I xs W'
  | .ret, _, W' => Only T W W' ∧ Ix .ret xs W'
  | .exit id, _, W' => Only T W W' ∧ Ix (.exit id) xs W'
  | .goto t, _, W' => Only T W W' ∧ Ix (.goto t) xs W'
  | .panic _, _, _ => False
  | .outgrown, _, _ => False
theorem postT_mono {α : Type} {T T' : List Nat} {I I' : List α → World → Prop} {Ix Ix' : Code → List α → World → Prop} {xs ys : List α} {W W0 : World} (hI : ∀ W', Only T W W' → I xs W' → Only T' W0 W' ∧ I' ys W') (hIx : ∀ c W', Only T W W' → Ix c xs W' → Only T' W0 W' ∧ Ix' c ys W') :
    ∀ e a W', postT T I Ix xs W e a W' → postT T' I' Ix' ys W0 e a W' := by
  intro e a W' h
  cases e with
  | normal => exact hI W' h.1 h.2
  | ret => exact hIx _ W' h.1 h.2
  | exit id => exact hIx _ W' h.1 h.2
  | goto t => exact hIx _ W' h.1 h.2
  | panic _ => exact h.elim
  | outgrown => exact h.elim
variable {F : Fence} {n : Nat} {P : Program}
/-- the iterator's word, for the loop's record l -/
theorem rangeT_core {α : Type} {ps : Array Tmp} {assign body : Code} {fn : FuncId} {tmps : Array Value} {l : Nat} {W1 w0 : World} (hF : F.fn fn) {gf : Nat} {lb : Array Value} {encs : α → Array Value} {R C : List Nat} {S Sp : List α → Prop} {N : Nat}
    (rec : LoopState → Option Code → Loop) (hrec : ∃ dfr, rec = fun st pe => { state := st, pending := pe, fn, tmps, params := ps, assign, body, defers := dfr })
    (hseq : SeqT F n P gf lb encs R C S Sp N w0) (hb : Below w0.heap.size w0 W1) (hps : ∀ x, (encs x).size = ps.size) (hw0 : w0.heap.size ≤ l) (hl1 : W1.heap[l]? = some (.loop (rec .ready none)))
    (T : List Nat) (hT : ∀ k ∈ T, k < l ∧ k ∉ R) (hC : ∀ k ∈ C, k < l)
    (I : List α → World → Prop) (Ix : Code → List α → World → Prop) (hI : AbT l C I) (hIx : ∀ c, AbT l C (Ix c)) (h0 : I [] W1) (Ax : α → Act → World → Prop) (hAx : ∀ x a', AbT l C (fun (_ : Unit) W => Ax x a' W))
    (hassign : ∀ (pre : List α) (x : α) (W : World) (K : Act → World → Prop), I pre W → (∀ a' W', Only [] W W' → Ax x a' W' → K a' W') →
      assign.wpIn (F.inRound l) (n - 1) P (Exit.then K (fun _ _ _ => False)) { tmps := (ps.zip (encs x)).foldl (fun t (p, v) => t.setIfInBounds p v) tmps, defers := [] } W)
    (hbody : ∀ (pre : List α) (x : α) (a' : Act) (W : World), (∃ r, W.heap[l]? = some (.loop r)) → I pre W → Ax x a' W → pre.length < N → Sp (pre ++ [x]) → body.wpIn (F.inRound l) (n - 1) P (postT T I Ix (pre ++ [x]) W) a' W) :
    CallsIn F n P gf (#[.func (.yield l) #[] #[]] ++ lb) W1 fun e W2 => (∃ v, e = .returned v) ∧ ((∃ xs, S xs ∧ I xs W2 ∧ W2.heap[l]? = some (.loop (rec .ready none))) ∨ (∃ pre, Sp pre ∧ ∃ c, Ix c pre W2 ∧ W2.heap[l]? = some (.loop (rec .done (some c))))) := by
  obtain ⟨dfr, hrec⟩ := hrec
  have hlt : l < W1.heap.size := (Array.getElem?_eq_some_iff.1 hl1).1
  have hlC : l ∉ C := fun e => by have := hC l e; omega
  have hlT : l ∉ T := fun e => by have := (hT l e).1; omega
  have hmono : ∀ {A W : World}, Turn W1.heap.size C A W → Turn l C A W := fun ht => ht.mono (by omega) (fun _ h => h) (fun k hk => by have := hC k hk; omega)
  refine (hseq l T (fun pre W => I pre W ∧ W.heap[l]? = some (.loop (rec .ready none))) (fun pre W => ∃ c, Ix c pre W ∧ W.heap[l]? = some (.loop (rec .done (some c)))) W1 hb hw0 hlt (fun k hk => ⟨by have := (hT k hk).1; omega, (hT k hk).2⟩)
    (fun s A W hs ht => ⟨hI s A W hs.1 (hmono ht), ht.block l _ hs.2 hlC (.inl hlt)⟩) (fun s A W hs ht => by
      obtain ⟨c, hc, hl⟩ := hs
      exact ⟨c, hIx c s A W hc (hmono ht), ht.block l _ hl hlC (.inl hlt)⟩) ?_ ⟨h0, hl1⟩)
  rintro pre x W ⟨hi, hl⟩ hlen hsp
  have hy := run_yield (P := P) (args := encs x) hl (by rw [hrec]; exact hps x)
  rw [hrec] at hy
  refine ⟨fn, _, assign, body, hy, roundIn_of_wpIn hF (hassign pre x W _ hi ?_)⟩
  clear hy
  intro a' Wa hOa hax
  have hla := hOa.get hl (by simp)
  have hia := hI pre W Wa hi (Turn.of_only hOa)
  refine ⟨_, run_beginRound hla (by rw [hrec]), ?_⟩
  have hlt2 : l < Wa.heap.size := (Array.getElem?_eq_some_iff.1 hla).1
  have hl2 : (Wa.putObj l (.loop { rec .ready none with state := .busy })).heap[l]? = some (.loop { rec .ready none with state := .busy }) := World.putObj_heap_same hlt2
  have ht2 : Turn l C Wa (Wa.putObj l (.loop { rec .ready none with state := .busy })) := (Turn.refl l C Wa).putObj (Nat.le_refl _) hla rfl hlC _
  refine wpIn_mono (hbody pre x a' _ ⟨_, hl2⟩ (hI pre _ _ hia ht2) (hAx x a' () _ _ hax ht2) hlen hsp) ?_
  have fin : ∀ (jump : Option Code) (W3 : World), Only T (Wa.putObj l (.loop { rec .ready none with state := .busy })) W3 →
      (Instr.endRound l jump).run P W3 = .ok (.bool jump.isNone) (W3.putObj l (.loop (rec (if jump.isNone then .ready else .done) jump))) ∧
      (W3.putObj l (.loop (rec (if jump.isNone then .ready else .done) jump))).heap[l]? = some (.loop (rec (if jump.isNone then .ready else .done) jump)) ∧
      Turn l C W3 (W3.putObj l (.loop (rec (if jump.isNone then .ready else .done) jump))) ∧ Only (l :: T) W (W3.putObj l (.loop (rec (if jump.isNone then .ready else .done) jump))) := fun jump W3 hO3 => by
    have hl3 := hO3.get hl2 hlT
    have h4 := run_endRound (P := P) jump hl3
    have h5 := (Turn.refl l C W3).putObj (o' := .loop (rec (if jump.isNone then .ready else .done) jump)) (Nat.le_refl _) hl3 rfl hlC
    have h6 : Only (l :: T) W W3 := ((hOa.mono (T := l :: T) (by simp)).putObj (.inl (by simp)) _).trans (hO3.mono (fun k hk => .inl (by simp [hk])))
    rw [hrec] at h4 h5 ⊢
    exact ⟨h4, World.putObj_heap_same (Array.getElem?_eq_some_iff.1 hl3).1, h5, h6.putObj (.inl (by simp)) _⟩
  rintro e a3 W3 hp
  cases e with
  | normal =>
    obtain ⟨hk3, hi3⟩ := hp
    obtain ⟨hr, hl4, ht4, hO4⟩ := fin none W3 hk3
    exact ⟨_, _, hr, hO4, .inl ⟨rfl, hI _ _ _ hi3 ht4, hl4⟩⟩
  | ret =>
    obtain ⟨hk3, hi3⟩ := hp
    obtain ⟨hr, hl4, ht4, hO4⟩ := fin (some .ret) W3 hk3
    exact ⟨_, _, hr, hO4, .inr ⟨rfl, .ret, hIx _ _ _ _ hi3 ht4, hl4⟩⟩
  | exit id =>
    obtain ⟨hk3, hi3⟩ := hp
    obtain ⟨hr, hl4, ht4, hO4⟩ := fin (some (.exit id)) W3 hk3
    exact ⟨_, _, hr, hO4, .inr ⟨rfl, .exit id, hIx _ _ _ _ hi3 ht4, hl4⟩⟩
  | goto t =>
    obtain ⟨hk3, hi3⟩ := hp
    obtain ⟨hr, hl4, ht4, hO4⟩ := fin (some (.goto t)) W3 hk3
    exact ⟨_, _, hr, hO4, .inr ⟨rfl, .goto t, hIx _ _ _ _ hi3 ht4, hl4⟩⟩
  | panic ch => exact hp.elim
  | outgrown => exact hp.elim
/-- THE LAW, at an outermost loop -/
theorem wpIn_rangeT {α : Type} {g : Operand} {ps : Array Tmp} {assign body : Code} {Q : Exit → Act → World → Prop} {a : Act} {w : World}
    (hro : F.round = none) (h1 : 1 ≤ n) {gf : Nat} {lb : Array Value} (hg : a.eval g = .func (.func gf) #[] lb) (hFg : F.fn gf) (eg : ∀ args w, (callFunc gf args).run P w = .ok (.enter gf args) w)
    {encs : α → Array Value} {R C : List Nat} {S Sp : List α → Prop} {N : Nat} {w0 : World} (hseq : SeqT F (n - 1) P gf lb encs R C S Sp N w0) (hb0 : Below w0.heap.size w0 w) (hps : ∀ x, (encs x).size = ps.size)
    (T : List Nat) (hT : ∀ k ∈ T, k < w.heap.size ∧ k ∉ R) (hC : ∀ k ∈ C, k < w.heap.size)
    (I : List α → World → Prop) (Ix : Code → List α → World → Prop) (hI : AbT w.heap.size C I) (hIx : ∀ c, AbT w.heap.size C (Ix c)) (h0 : I [] w) (Ax : α → Act → World → Prop) (hAx : ∀ x a', AbT w.heap.size C (fun (_ : Unit) W => Ax x a' W))
    (hassign : ∀ (l : Nat) (pre : List α) (x : α) (W : World) (K : Act → World → Prop), w.heap.size ≤ l → I pre W → (∀ a' W', Only [] W W' → Ax x a' W' → K a' W') →
      assign.wpIn (F.inRound l) (n - 1 - 1) P (Exit.then K (fun _ _ _ => False)) { tmps := (ps.zip (encs x)).foldl (fun t (p, v) => t.setIfInBounds p v) a.tmps, defers := [] } W)
    (hbody : ∀ (l : Nat) (pre : List α) (x : α) (a' : Act) (W : World), w.heap.size ≤ l → (∃ r, W.heap[l]? = some (.loop r)) → I pre W → Ax x a' W → pre.length < N → Sp (pre ++ [x]) → body.wpIn (F.inRound l) (n - 1 - 1) P (postT T I Ix (pre ++ [x]) W) a' W)
    (hdone : ∀ (D : Nat) (xs : List α) (W : World), w.heap.size ≤ D → S xs → I xs W → W.heap[D]? = some (.deferred (some [])) → Q .normal { a with defers := { target := .collected D, args := #[] } :: a.defers } W)
    (hstop : ∀ (D : Nat) (c : Code) (pre : List α) (W : World), w.heap.size ≤ D → Sp pre → Ix c pre W → W.heap[D]? = some (.deferred (some [])) → c.wpIn F n P Q { a with defers := { target := .collected D, args := #[] } :: a.defers } W) :
    (Code.rangeFunc g ps assign body).wpIn F n P Q a w := by
  refine wpIn_rangeFunc ?_
  intro fn hfn
  rw [hro]
  obtain ⟨rec, hrec⟩ : ∃ rec : LoopState → Option Code → Loop, rec = fun st pe => { state := st, pending := pe, fn, tmps := a.tmps, params := ps, assign, body, defers := w.heap.size } := ⟨_, rfl⟩
  obtain ⟨W1, hW1⟩ : ∃ W1, (w.alloc (.deferred (some []))).alloc (.loop (rec .ready none)) = W1 := ⟨_, rfl⟩
  have hL1 : W1.heap[w.heap.size + 1]? = some (.loop (rec .ready none)) := by
    rw [← hW1]; have := World.alloc_heap_new (w.alloc (.deferred (some []))) (.loop (rec .ready none)); rwa [World.size_alloc] at this
  have hK1 : W1.heap[w.heap.size]? = some (.deferred (some [])) := by
    rw [← hW1]; exact (Below.heap_alloc _ _ _ (by simp)).trans (World.alloc_heap_new w _)
  have hO1 : Only [] w W1 := by rw [← hW1]; exact ((Only.refl [] w).alloc _).alloc _
  have hb1 : Below w0.heap.size w0 W1 := hb0.trans ((hO1.below (B := w.heap.size) (by simp) (Nat.le_refl _)).mono hb0.size)
  have hmono : ∀ {β : Type} {J : β → World → Prop}, AbT w.heap.size C J → AbT (w.heap.size + 1) C J := fun h => h.mono (by omega) (fun _ h => h) (fun k hk => by have := hC k hk; omega)
  have hDT : w.heap.size ∉ T := fun e => by have := (hT _ e).1; omega
  have hDC : w.heap.size ∉ C := fun e => by have := hC _ e; omega
  have hLC : w.heap.size + 1 ∉ C := fun e => by have := hC _ e; omega
  refine ⟨w.heap.size + 1, [{ target := .collected w.heap.size, args := #[] }], W1, { target := .fn (.func gf) lb, args := #[.func (.yield (w.heap.size + 1)) #[] #[]] }, W1, gf,
    #[.func (.yield (w.heap.size + 1)) #[] #[]] ++ lb, W1, ?_, ?_, ?_, ?_, fun _ => h1, ?_⟩
  · rw [← hW1, hrec]; exact run_enterLoop_outer _ _ _ _ _
  · simp only [resolve, hg]
    simp [go_sem]
  · intro f' hf'; simp [Target.leads] at hf'; subst hf'; exact hFg
  · simp [invoke, go_sem, eg]
  · refine (rangeT_core (l := w.heap.size + 1) hfn rec ⟨_, hrec⟩ hseq hb1 hps (by have := hb0.size; omega) hL1 T (fun k hk => ⟨by have := (hT k hk).1; omega, (hT k hk).2⟩) (fun k hk => by have := hC k hk; omega)
      (fun pre W => I pre W ∧ W.heap[w.heap.size]? = some (.deferred (some []))) (fun c pre W => Ix c pre W ∧ W.heap[w.heap.size]? = some (.deferred (some [])))
      ((hmono hI).and (AbT.heap (fun _ => .deferred (some [])) hDC (fun _ => .inl (by omega)))) (fun c => (hmono (hIx c)).and (AbT.heap (fun _ => .deferred (some [])) hDC (fun _ => .inl (by omega))))
      ⟨hI _ _ _ h0 (Turn.of_only hO1), hK1⟩ Ax (fun x a' => hmono (hAx x a')) (fun pre x W K hi hK => hassign _ pre x W K (by omega) hi.1 hK) ?_).mono ?_
    · rintro pre x a' W hr ⟨hi, hk⟩ hax hlen hsp
      exact wpIn_mono (hbody _ pre x a' W (by omega) hr hi hax hlen hsp) (postT_mono (fun W' hO h => ⟨hO, h, hO.get hk hDT⟩) (fun c W' hO h => ⟨hO, h, hO.get hk hDT⟩))
    · rintro e W2 ⟨⟨v, rfl⟩, (⟨xs, hS, ⟨hi, hk⟩, hl⟩ | ⟨pre, hSp, c, ⟨hi, hk⟩, hl⟩)⟩
      · exact ⟨none, _, by have := run_endLoop (P := P) hl (by rw [hrec]; simp); rw [hrec] at this; exact this, hdone _ xs _ (Nat.le_refl _) hS (hI _ _ _ hi ((Turn.refl _ C W2).putObj (by omega) hl rfl hLC _)) ((World.putObj_heap_other (by omega)).trans hk)⟩
      · exact ⟨some c, _, by have := run_endLoop (P := P) hl (by rw [hrec]; simp); rw [hrec] at this; exact this, hstop _ c pre _ (Nat.le_refl _) hSp (hIx c _ _ _ hi ((Turn.refl _ C W2).putObj (by omega) hl rfl hLC _)) ((World.putObj_heap_other (by omega)).trans hk)⟩
/-- THE LAW, at a loop within a round of loop l₀ -/
theorem wpIn_rangeTN {α : Type} {g : Operand} {ps : Array Tmp} {assign body : Code} {Q : Exit → Act → World → Prop} {a : Act} {w : World}
    {l₀ : Nat} {r₀ : Loop} (hro : F.round = some l₀) (hl₀ : w.heap[l₀]? = some (.loop r₀)) (h1 : 1 ≤ n) {gf : Nat} {lb : Array Value} (hg : a.eval g = .func (.func gf) #[] lb) (hFg : F.fn gf) (eg : ∀ args w, (callFunc gf args).run P w = .ok (.enter gf args) w)
    {encs : α → Array Value} {R C : List Nat} {S Sp : List α → Prop} {N : Nat} {w0 : World} (hseq : SeqT F (n - 1) P gf lb encs R C S Sp N w0) (hb0 : Below w0.heap.size w0 w) (hps : ∀ x, (encs x).size = ps.size)
    (T : List Nat) (hT : ∀ k ∈ T, k < w.heap.size ∧ k ∉ R) (hC : ∀ k ∈ C, k < w.heap.size)
    (I : List α → World → Prop) (Ix : Code → List α → World → Prop) (hI : AbT w.heap.size C I) (hIx : ∀ c, AbT w.heap.size C (Ix c)) (h0 : I [] w) (Ax : α → Act → World → Prop) (hAx : ∀ x a', AbT w.heap.size C (fun (_ : Unit) W => Ax x a' W))
    (hassign : ∀ (l : Nat) (pre : List α) (x : α) (W : World) (K : Act → World → Prop), w.heap.size ≤ l → I pre W → (∀ a' W', Only [] W W' → Ax x a' W' → K a' W') →
      assign.wpIn (F.inRound l) (n - 1 - 1) P (Exit.then K (fun _ _ _ => False)) { tmps := (ps.zip (encs x)).foldl (fun t (p, v) => t.setIfInBounds p v) a.tmps, defers := [] } W)
    (hbody : ∀ (l : Nat) (pre : List α) (x : α) (a' : Act) (W : World), w.heap.size ≤ l → (∃ r, W.heap[l]? = some (.loop r)) → I pre W → Ax x a' W → pre.length < N → Sp (pre ++ [x]) → body.wpIn (F.inRound l) (n - 1 - 1) P (postT T I Ix (pre ++ [x]) W) a' W)
    (hdone : ∀ (xs : List α) (W : World), S xs → I xs W → Q .normal a W)
    (hstop : ∀ (c : Code) (pre : List α) (W : World), Sp pre → Ix c pre W → c.wpIn F n P Q a W) :
    (Code.rangeFunc g ps assign body).wpIn F n P Q a w := by
  refine wpIn_rangeFunc ?_
  intro fn hfn
  rw [hro]
  obtain ⟨rec, hrec⟩ : ∃ rec : LoopState → Option Code → Loop, rec = fun st pe => { state := st, pending := pe, fn, tmps := a.tmps, params := ps, assign, body, defers := r₀.defers } := ⟨_, rfl⟩
  obtain ⟨W1, hW1⟩ : ∃ W1, w.alloc (.loop (rec .ready none)) = W1 := ⟨_, rfl⟩
  have hL1 : W1.heap[w.heap.size]? = some (.loop (rec .ready none)) := by rw [← hW1]; exact World.alloc_heap_new w _
  have hO1 : Only [] w W1 := by rw [← hW1]; exact (Only.refl [] w).alloc _
  have hb1 : Below w0.heap.size w0 W1 := hb0.trans ((hO1.below (B := w.heap.size) (by simp) (Nat.le_refl _)).mono hb0.size)
  have hLC : w.heap.size ∉ C := fun e => by have := hC _ e; omega
  refine ⟨w.heap.size, [], W1, { target := .fn (.func gf) lb, args := #[.func (.yield w.heap.size) #[] #[]] }, W1, gf,
    #[.func (.yield w.heap.size) #[] #[]] ++ lb, W1, ?_, ?_, ?_, ?_, fun _ => h1, ?_⟩
  · rw [← hW1, hrec]; exact run_enterLoop_inner hl₀ _ _ _ _ _
  · simp only [resolve, hg]
    simp [go_sem]
  · intro f' hf'; simp [Target.leads] at hf'; subst hf'; exact hFg
  · simp [invoke, go_sem, eg]
  · refine (rangeT_core (l := w.heap.size) hfn rec ⟨_, hrec⟩ hseq hb1 hps hb0.size hL1 T hT hC I Ix hI hIx (hI _ _ _ h0 (Turn.of_only hO1)) Ax hAx (fun pre x W K hi hK => hassign _ pre x W K (Nat.le_refl _) hi hK)
      (fun pre x a' W hr hi hax hlen hsp => hbody _ pre x a' W (Nat.le_refl _) hr hi hax hlen hsp)).mono ?_
    rintro e W2 ⟨⟨v, rfl⟩, (⟨xs, hS, hi, hl⟩ | ⟨pre, hSp, c, hi, hl⟩)⟩
    · exact ⟨none, _, by have := run_endLoop (P := P) hl (by rw [hrec]; simp); rw [hrec] at this; exact this, hdone xs _ hS (hI _ _ _ hi ((Turn.refl _ C W2).putObj (Nat.le_refl _) hl rfl hLC _))⟩
    · exact ⟨some c, _, by have := run_endLoop (P := P) hl (by rw [hrec]; simp); rw [hrec] at this; exact this, hstop c pre _ hSp (hIx c _ _ _ hi ((Turn.refl _ C W2).putObj (Nat.le_refl _) hl rfl hLC _))⟩
/-- the laws, where the frame of a round is known ahead -/
theorem wpIn_rangeT1 {α : Type} {g : Operand} {ps : Array Tmp} {assign body : Code} {Q : Exit → Act → World → Prop} {a : Act} {w : World}
    (hro : F.round = none) (h1 : 1 ≤ n) {gf : Nat} {lb : Array Value} (hg : a.eval g = .func (.func gf) #[] lb) (hFg : F.fn gf) (eg : ∀ args w, (callFunc gf args).run P w = .ok (.enter gf args) w)
    {encs : α → Array Value} {R C : List Nat} {S Sp : List α → Prop} {N : Nat} {w0 : World} (hseq : SeqT F (n - 1) P gf lb encs R C S Sp N w0) (hb0 : Below w0.heap.size w0 w) (hps : ∀ x, (encs x).size = ps.size)
    (T : List Nat) (hT : ∀ k ∈ T, k < w.heap.size ∧ k ∉ R) (hC : ∀ k ∈ C, k < w.heap.size)
    (I : List α → World → Prop) (Ix : Code → List α → World → Prop) (hI : AbT w.heap.size C I) (hIx : ∀ c, AbT w.heap.size C (Ix c)) (h0 : I [] w) (a₁ : α → Act)
    (hassign : ∀ (l : Nat) (pre : List α) (x : α) (W : World) (K : Act → World → Prop), w.heap.size ≤ l → I pre W → (∀ W', Only [] W W' → K (a₁ x) W') →
      assign.wpIn (F.inRound l) (n - 1 - 1) P (Exit.then K (fun _ _ _ => False)) { tmps := (ps.zip (encs x)).foldl (fun t (p, v) => t.setIfInBounds p v) a.tmps, defers := [] } W)
    (hbody : ∀ (l : Nat) (pre : List α) (x : α) (W : World), w.heap.size ≤ l → (∃ r, W.heap[l]? = some (.loop r)) → I pre W → pre.length < N → Sp (pre ++ [x]) → body.wpIn (F.inRound l) (n - 1 - 1) P (postT T I Ix (pre ++ [x]) W) (a₁ x) W)
    (hdone : ∀ (D : Nat) (xs : List α) (W : World), w.heap.size ≤ D → S xs → I xs W → W.heap[D]? = some (.deferred (some [])) → Q .normal { a with defers := { target := .collected D, args := #[] } :: a.defers } W)
    (hstop : ∀ (D : Nat) (c : Code) (pre : List α) (W : World), w.heap.size ≤ D → Sp pre → Ix c pre W → W.heap[D]? = some (.deferred (some [])) → c.wpIn F n P Q { a with defers := { target := .collected D, args := #[] } :: a.defers } W) :
    (Code.rangeFunc g ps assign body).wpIn F n P Q a w :=
  wpIn_rangeT hro h1 hg hFg eg hseq hb0 hps T hT hC I Ix hI hIx h0 (fun x a' _ => a' = a₁ x) (fun _ _ _ _ _ h _ => h) (fun l pre x W K hl hi hK => hassign l pre x W K hl hi (fun W' hO => hK _ W' hO rfl))
    (fun l pre x a' W hl hr hi e hlen hsp => by subst e; exact hbody l pre x W hl hr hi hlen hsp) hdone hstop
theorem wpIn_rangeTN1 {α : Type} {g : Operand} {ps : Array Tmp} {assign body : Code} {Q : Exit → Act → World → Prop} {a : Act} {w : World}
    {l₀ : Nat} {r₀ : Loop} (hro : F.round = some l₀) (hl₀ : w.heap[l₀]? = some (.loop r₀)) (h1 : 1 ≤ n) {gf : Nat} {lb : Array Value} (hg : a.eval g = .func (.func gf) #[] lb) (hFg : F.fn gf) (eg : ∀ args w, (callFunc gf args).run P w = .ok (.enter gf args) w)
    {encs : α → Array Value} {R C : List Nat} {S Sp : List α → Prop} {N : Nat} {w0 : World} (hseq : SeqT F (n - 1) P gf lb encs R C S Sp N w0) (hb0 : Below w0.heap.size w0 w) (hps : ∀ x, (encs x).size = ps.size)
    (T : List Nat) (hT : ∀ k ∈ T, k < w.heap.size ∧ k ∉ R) (hC : ∀ k ∈ C, k < w.heap.size)
    (I : List α → World → Prop) (Ix : Code → List α → World → Prop) (hI : AbT w.heap.size C I) (hIx : ∀ c, AbT w.heap.size C (Ix c)) (h0 : I [] w) (a₁ : α → Act)
    (hassign : ∀ (l : Nat) (pre : List α) (x : α) (W : World) (K : Act → World → Prop), w.heap.size ≤ l → I pre W → (∀ W', Only [] W W' → K (a₁ x) W') →
      assign.wpIn (F.inRound l) (n - 1 - 1) P (Exit.then K (fun _ _ _ => False)) { tmps := (ps.zip (encs x)).foldl (fun t (p, v) => t.setIfInBounds p v) a.tmps, defers := [] } W)
    (hbody : ∀ (l : Nat) (pre : List α) (x : α) (W : World), w.heap.size ≤ l → (∃ r, W.heap[l]? = some (.loop r)) → I pre W → pre.length < N → Sp (pre ++ [x]) → body.wpIn (F.inRound l) (n - 1 - 1) P (postT T I Ix (pre ++ [x]) W) (a₁ x) W)
    (hdone : ∀ (xs : List α) (W : World), S xs → I xs W → Q .normal a W)
    (hstop : ∀ (c : Code) (pre : List α) (W : World), Sp pre → Ix c pre W → c.wpIn F n P Q a W) :
    (Code.rangeFunc g ps assign body).wpIn F n P Q a w :=
  wpIn_rangeTN hro hl₀ h1 hg hFg eg hseq hb0 hps T hT hC I Ix hI hIx h0 (fun x a' _ => a' = a₁ x) (fun _ _ _ _ _ h _ => h) (fun l pre x W K hl hi hK => hassign l pre x W K hl hi (fun W' hO => hK _ W' hO rfl))
    (fun l pre x a' W hl hr hi e hlen hsp => by subst e; exact hbody l pre x W hl hr hi hlen hsp) hdone hstop
/-- a function whose body holds ranges over functions, walked as everywhere -/
theorem calls_of_marks {f : FuncId} {fn : Func} {c : Code} {args : Array Value} {w : World} {R : Ending → World → Prop} (hf : P.funcs[f]? = some fn) (hb : fn.body = some c)
    (h : c.wp P (bodyPostM Fence.wide 8 P fn R) { tmps := args ++ Array.replicate (fn.ntmps - args.size) undef, defers := [] } w) : Calls P f args w R :=
  (callsIn_wide (n := 8)).1 (callsIn_of_wp_marks hf hb trivial (wpIn_wide.2 h) rfl)
def marks (ds : List Nat) : List Deferred := ds.map fun D => { target := .collected D, args := #[] }
theorem leave_marks {fn : Func} {tmps : Array Value} {R : Ending → World → Prop} {v : Value} : ∀ (ds : List Nat) (W : World), ds.Nodup → (∀ D ∈ ds, W.heap[D]? = some (.deferred (some []))) →
    (∀ W', Only ds W W' → (results fn tmps).run P W' = .ok v W' ∧ R (.returned v) W') → LeavesInM F n P fn tmps R (marks ds) .returning W
  | [], W, _, _, h => ⟨v, h W (Only.refl _ _)⟩
  | D :: ds, W, hn, hk, h => by
    have hD := hk D (by simp)
    refine ⟨by simp, .inl ⟨D, _, rfl, run_takeDeferred hD, leave_marks ds _ (List.nodup_cons.1 hn).2 (fun E hE => ?_) (fun W' hO => h W' ?_)⟩⟩
    · rw [World.putObj_heap_other (fun e => (List.nodup_cons.1 hn).1 (by rw [← e]; exact hE))]
      exact hk E (by simp [hE])
    · exact ((Only.refl (D :: ds) W).putObj (.inl (by simp)) _).trans (hO.mono (fun k hk => .inl (by simp [hk])))
end Go.Rv
namespace Go.Rv
open Go.RowKit
set_option linter.unusedVariables false
variable {F : Fence} {n : Nat} {P : Program}
theorem wpIn_rangeT2 {α : Type} {g : Operand} {ps : Array Tmp} {assign body : Code} {Q : Exit → Act → World → Prop} {a : Act} {w : World}
    (hro : F.round = none) (h1 : 1 ≤ n) {gf : Nat} {lb : Array Value} (hg : a.eval g = .func (.func gf) #[] lb) (hFg : F.fn gf) (eg : ∀ args w, (callFunc gf args).run P w = .ok (.enter gf args) w)
    {encs : α → Array Value} {R C : List Nat} {S Sp : List α → Prop} {N : Nat} {w0 : World} (hseq : SeqT F (n - 1) P gf lb encs R C S Sp N w0) (hb0 : Below w0.heap.size w0 w) (hps : ∀ x, (encs x).size = ps.size)
    (T : List Nat) (hT : ∀ k ∈ T, k < w.heap.size ∧ k ∉ R) (hC : ∀ k ∈ C, k < w.heap.size)
    (I : List α → World → Prop) (Ix : Code → List α → World → Prop) (hI : AbT w.heap.size C I) (hIx : ∀ c, AbT w.heap.size C (Ix c)) (h0 : I [] w) (fr : α → Nat → Act) (Bx : α → Nat → World → Prop) (hBx : ∀ x b, AbT w.heap.size C (fun (_ : Unit) W => Bx x b W))
    (hassign : ∀ (l : Nat) (pre : List α) (x : α) (W : World) (K : Act → World → Prop), w.heap.size ≤ l → I pre W → (∀ b W', Only [] W W' → Bx x b W' → K (fr x b) W') →
      assign.wpIn (F.inRound l) (n - 1 - 1) P (Exit.then K (fun _ _ _ => False)) { tmps := (ps.zip (encs x)).foldl (fun t (p, v) => t.setIfInBounds p v) a.tmps, defers := [] } W)
    (hbody : ∀ (l : Nat) (pre : List α) (x : α) (b : Nat) (W : World), w.heap.size ≤ l → (∃ r, W.heap[l]? = some (.loop r)) → I pre W → Bx x b W → pre.length < N → Sp (pre ++ [x]) → body.wpIn (F.inRound l) (n - 1 - 1) P (postT T I Ix (pre ++ [x]) W) (fr x b) W)
    (hdone : ∀ (D : Nat) (xs : List α) (W : World), w.heap.size ≤ D → S xs → I xs W → W.heap[D]? = some (.deferred (some [])) → Q .normal { a with defers := { target := .collected D, args := #[] } :: a.defers } W)
    (hstop : ∀ (D : Nat) (c : Code) (pre : List α) (W : World), w.heap.size ≤ D → Sp pre → Ix c pre W → W.heap[D]? = some (.deferred (some [])) → c.wpIn F n P Q { a with defers := { target := .collected D, args := #[] } :: a.defers } W) :
    (Code.rangeFunc g ps assign body).wpIn F n P Q a w :=
  wpIn_rangeT hro h1 hg hFg eg hseq hb0 hps T hT hC I Ix hI hIx h0 (fun x a' W => ∃ b, a' = fr x b ∧ Bx x b W) (fun x a' s A W h ht => by obtain ⟨b, h1, h2⟩ := h; exact ⟨b, h1, hBx x b s A W h2 ht⟩) (fun l pre x W K hl hi hK => hassign l pre x W K hl hi (fun b W' hO hb => hK _ W' hO ⟨b, rfl, hb⟩))
    (fun l pre x a' W hl hr hi e hlen hsp => by obtain ⟨b, rfl, hb⟩ := e; exact hbody l pre x b W hl hr hi hb hlen hsp) hdone hstop
theorem wpIn_rangeTN2 {α : Type} {g : Operand} {ps : Array Tmp} {assign body : Code} {Q : Exit → Act → World → Prop} {a : Act} {w : World}
    {l₀ : Nat} {r₀ : Loop} (hro : F.round = some l₀) (hl₀ : w.heap[l₀]? = some (.loop r₀)) (h1 : 1 ≤ n) {gf : Nat} {lb : Array Value} (hg : a.eval g = .func (.func gf) #[] lb) (hFg : F.fn gf) (eg : ∀ args w, (callFunc gf args).run P w = .ok (.enter gf args) w)
    {encs : α → Array Value} {R C : List Nat} {S Sp : List α → Prop} {N : Nat} {w0 : World} (hseq : SeqT F (n - 1) P gf lb encs R C S Sp N w0) (hb0 : Below w0.heap.size w0 w) (hps : ∀ x, (encs x).size = ps.size)
    (T : List Nat) (hT : ∀ k ∈ T, k < w.heap.size ∧ k ∉ R) (hC : ∀ k ∈ C, k < w.heap.size)
    (I : List α → World → Prop) (Ix : Code → List α → World → Prop) (hI : AbT w.heap.size C I) (hIx : ∀ c, AbT w.heap.size C (Ix c)) (h0 : I [] w) (fr : α → Nat → Act) (Bx : α → Nat → World → Prop) (hBx : ∀ x b, AbT w.heap.size C (fun (_ : Unit) W => Bx x b W))
    (hassign : ∀ (l : Nat) (pre : List α) (x : α) (W : World) (K : Act → World → Prop), w.heap.size ≤ l → I pre W → (∀ b W', Only [] W W' → Bx x b W' → K (fr x b) W') →
      assign.wpIn (F.inRound l) (n - 1 - 1) P (Exit.then K (fun _ _ _ => False)) { tmps := (ps.zip (encs x)).foldl (fun t (p, v) => t.setIfInBounds p v) a.tmps, defers := [] } W)
    (hbody : ∀ (l : Nat) (pre : List α) (x : α) (b : Nat) (W : World), w.heap.size ≤ l → (∃ r, W.heap[l]? = some (.loop r)) → I pre W → Bx x b W → pre.length < N → Sp (pre ++ [x]) → body.wpIn (F.inRound l) (n - 1 - 1) P (postT T I Ix (pre ++ [x]) W) (fr x b) W)
    (hdone : ∀ (xs : List α) (W : World), S xs → I xs W → Q .normal a W)
    (hstop : ∀ (c : Code) (pre : List α) (W : World), Sp pre → Ix c pre W → c.wpIn F n P Q a W) :
    (Code.rangeFunc g ps assign body).wpIn F n P Q a w :=
  wpIn_rangeTN hro hl₀ h1 hg hFg eg hseq hb0 hps T hT hC I Ix hI hIx h0 (fun x a' W => ∃ b, a' = fr x b ∧ Bx x b W) (fun x a' s A W h ht => by obtain ⟨b, h1, h2⟩ := h; exact ⟨b, h1, hBx x b s A W h2 ht⟩) (fun l pre x W K hl hi hK => hassign l pre x W K hl hi (fun b W' hO hb => hK _ W' hO ⟨b, rfl, hb⟩))
    (fun l pre x a' W hl hr hi e hlen hsp => by obtain ⟨b, rfl, hb⟩ := e; exact hbody l pre x b W hl hr hi hb hlen hsp) hdone hstop
/-- behind the end of a loop: its block of deferred calls alone has turned -/
theorem Turn.of_mark {B : Nat} {C : List Nat} {D : Nat} {x : Option (List Deferred)} {a w : World} (h : Only [D] a w) (hD : B ≤ D) (hK : a.heap[D]? = some (.deferred x)) (hC : D ∉ C) : Turn B C a w := by
  refine ⟨h.os, h.tape, h.output, h.size, fun k o hk _ hc => ?_, fun k hk cap buf s r hh => ⟨s, r, h.get hh (fun hm => ?_)⟩⟩
  · refine h.get hk (fun hm => ?_)
    obtain rfl : k = D := by simpa using hm
    rw [hK] at hk
    cases hk
    rcases hc with hc | hc
    · omega
    · simp [Obj.isCells] at hc
  · obtain rfl : k = D := by simpa using hm
    exact hC hk
end Go.Rv
namespace Go.Rv
open Go.RowKit
set_option linter.unusedVariables false
/-- the blocks of a list are as they were, and so is whatever is no cells, but for block l -/
structure KeepsL (l : Nat) (R : List Nat) (A W : World) : Prop where
  size : A.heap.size ≤ W.heap.size
  rows : ∀ k ∈ R, W.heap[k]? = A.heap[k]?
  others : ∀ (k : Nat) (o : Obj), A.heap[k]? = some o → o.isCells = false → k ≠ l → W.heap[k]? = some o
/-- a round's word -/
structure Keeps (R : List Nat) (A W : World) : Prop where
  size : A.heap.size ≤ W.heap.size
  rows : ∀ k ∈ R, W.heap[k]? = A.heap[k]?
  others : ∀ (k : Nat) (o : Obj), A.heap[k]? = some o → o.isCells = false → W.heap[k]? = some o
theorem Keeps.refl (R : List Nat) (w : World) : Keeps R w w := ⟨Nat.le_refl _, fun _ _ => rfl, fun _ _ h _ => h⟩
theorem Keeps.trans {R : List Nat} {a b c : World} (h : Keeps R a b) (k : Keeps R b c) : Keeps R a c := ⟨Nat.le_trans h.size k.size, fun x hx => (k.rows x hx).trans (h.rows x hx), fun x o hx ho => k.others x o (h.others x o hx ho) ho⟩
/-- blocks of cells turn, none of which is of the list -/
theorem Keeps.of_only {S R : List Nat} {a w : World} (h : Only S a w) (hR : ∀ k ∈ R, k < a.heap.size ∧ k ∉ S) (hS : ∀ k ∈ S, ∀ o, a.heap[k]? = some o → o.isCells = true) : Keeps R a w :=
  ⟨h.size, fun k hk => h.block k (hR k hk).1 (hR k hk).2, fun k o hk ho => h.get hk (fun hm => by have := hS k hm o hk; rw [ho] at this; cases this)⟩
/-- AN ITERATOR's WORD: R: the blocks that it reads -/
def SeqK {α : Type} (F : Fence) (n : Nat) (P : Program) (g : Nat) (lb : Array Value) (encs : α → Array Value) (R : List Nat) (S Sp : List α → Prop) (N : Nat) (w : World) : Prop :=
  ∀ (l : Nat) (J Jx : List α → World → Prop) (W : World), Below w.heap.size w W → w.heap.size ≤ l → l < W.heap.size → AbT W.heap.size [] J → AbT W.heap.size [] Jx →
    (∀ pre x W1, J pre W1 → pre.length < N → Sp (pre ++ [x]) → YieldAt F (n - 1) P l (encs x) W1 fun e W' =>
      KeepsL l R W1 W' ∧ ((e = .returned (.bool true) ∧ J (pre ++ [x]) W') ∨ (e = .returned (.bool false) ∧ Jx (pre ++ [x]) W'))) →
    J [] W →
    CallsIn F n P g (#[.func (.yield l) #[] #[]] ++ lb) W fun e W' => (∃ v, e = .returned v) ∧ ((∃ xs, S xs ∧ J xs W') ∨ (∃ pre, Sp pre ∧ Jx pre W'))
/-- how a round's body may be left -/
def postK {α : Type} (R : List Nat) (I : List α → World → Prop) (Ix : Code → List α → World → Prop) (xs : List α) (W : World) : Exit → Act → World → Prop
  | .normal, _, W' => Keeps R W W' ∧ I xs W'
  | .ret, _, W' => Keeps R W W' ∧ Ix .ret xs W'
  | .exit id, _, W' => Keeps R W W' ∧ Ix (.exit id) xs W'
  | .goto t, _, W' => Keeps R W W' ∧ Ix (.goto t) xs W'
  | .panic _, _, _ => False
  | .outgrown, _, _ => False
theorem postK_mono {α : Type} {R : List Nat} {I I' : List α → World → Prop} {Ix Ix' : Code → List α → World → Prop} {xs ys : List α} {W W0 : World} (hI : ∀ W', Keeps R W W' → I xs W' → Keeps R W0 W' ∧ I' ys W') (hIx : ∀ c W', Keeps R W W' → Ix c xs W' → Keeps R W0 W' ∧ Ix' c ys W') :
    ∀ e a W', postK R I Ix xs W e a W' → postK R I' Ix' ys W0 e a W' := by
  intro e a W' h
  cases e with
  | normal => exact hI W' h.1 h.2
  | ret => exact hIx _ W' h.1 h.2
  | exit id => exact hIx _ W' h.1 h.2
  | goto t => exact hIx _ W' h.1 h.2
  | panic _ => exact h.elim
  | outgrown => exact h.elim
variable {F : Fence} {n : Nat} {P : Program}
/-- the iterator's word, for the loop's record l -/
theorem rangeK_core {α : Type} {ps : Array Tmp} {assign body : Code} {fn : FuncId} {tmps : Array Value} {l : Nat} {W1 w0 : World} (hF : F.fn fn) {gf : Nat} {lb : Array Value} {encs : α → Array Value} {R : List Nat} {S Sp : List α → Prop} {N : Nat}
    (rec : LoopState → Option Code → Loop) (hrec : ∃ dfr, rec = fun st pe => { state := st, pending := pe, fn, tmps, params := ps, assign, body, defers := dfr })
    (hseq : SeqK F n P gf lb encs R S Sp N w0) (hb : Below w0.heap.size w0 W1) (hps : ∀ x, (encs x).size = ps.size) (hw0 : w0.heap.size ≤ l) (hl1 : W1.heap[l]? = some (.loop (rec .ready none)))
    (hR : ∀ k ∈ R, k < l)
    (I : List α → World → Prop) (Ix : Code → List α → World → Prop) (hI : AbT l [] I) (hIx : ∀ c, AbT l [] (Ix c)) (h0 : I [] W1) (Ax : α → Act → World → Prop) (hAx : ∀ x a', AbT l [] (fun (_ : Unit) W => Ax x a' W))
    (hassign : ∀ (pre : List α) (x : α) (W : World) (K : Act → World → Prop), I pre W → (∀ a' W', Only [] W W' → Ax x a' W' → K a' W') →
      assign.wpIn (F.inRound l) (n - 1) P (Exit.then K (fun _ _ _ => False)) { tmps := (ps.zip (encs x)).foldl (fun t (p, v) => t.setIfInBounds p v) tmps, defers := [] } W)
    (hbody : ∀ (pre : List α) (x : α) (a' : Act) (W : World), (∃ r, W.heap[l]? = some (.loop r)) → I pre W → Ax x a' W → pre.length < N → Sp (pre ++ [x]) → body.wpIn (F.inRound l) (n - 1) P (postK R I Ix (pre ++ [x]) W) a' W) :
    CallsIn F n P gf (#[.func (.yield l) #[] #[]] ++ lb) W1 fun e W2 => (∃ v, e = .returned v) ∧ ((∃ xs, S xs ∧ I xs W2 ∧ W2.heap[l]? = some (.loop (rec .ready none))) ∨ (∃ pre, Sp pre ∧ ∃ c, Ix c pre W2 ∧ W2.heap[l]? = some (.loop (rec .done (some c))))) := by
  obtain ⟨dfr, hrec⟩ := hrec
  have hlt : l < W1.heap.size := (Array.getElem?_eq_some_iff.1 hl1).1
  have hmono : ∀ {A W : World}, Turn W1.heap.size [] A W → Turn l [] A W := fun ht => ht.mono (by omega) (fun _ h => h) (fun k hk => by cases hk)
  refine (hseq l (fun pre W => I pre W ∧ W.heap[l]? = some (.loop (rec .ready none))) (fun pre W => ∃ c, Ix c pre W ∧ W.heap[l]? = some (.loop (rec .done (some c)))) W1 hb hw0 hlt
    (fun s A W hs ht => ⟨hI s A W hs.1 (hmono ht), ht.block l _ hs.2 (by simp) (.inl hlt)⟩) (fun s A W hs ht => by
      obtain ⟨c, hc, hl⟩ := hs
      exact ⟨c, hIx c s A W hc (hmono ht), ht.block l _ hl (by simp) (.inl hlt)⟩) ?_ ⟨h0, hl1⟩)
  rintro pre x W ⟨hi, hl⟩ hlen hsp
  have hy := run_yield (P := P) (args := encs x) hl (by rw [hrec]; exact hps x)
  rw [hrec] at hy
  refine ⟨fn, _, assign, body, hy, roundIn_of_wpIn hF (hassign pre x W _ hi ?_)⟩
  clear hy
  intro a' Wa hOa hax
  have hla := hOa.get hl (by simp)
  have hia := hI pre W Wa hi (Turn.of_only hOa)
  refine ⟨_, run_beginRound hla (by rw [hrec]), ?_⟩
  have hlt2 : l < Wa.heap.size := (Array.getElem?_eq_some_iff.1 hla).1
  have hl2 : (Wa.putObj l (.loop { rec .ready none with state := .busy })).heap[l]? = some (.loop { rec .ready none with state := .busy }) := World.putObj_heap_same hlt2
  have ht2 : Turn l [] Wa (Wa.putObj l (.loop { rec .ready none with state := .busy })) := (Turn.refl l [] Wa).putObj (Nat.le_refl _) hla rfl (by simp) _
  refine wpIn_mono (hbody pre x a' _ ⟨_, hl2⟩ (hI pre _ _ hia ht2) (hAx x a' () _ _ hax ht2) hlen hsp) ?_
  have fin : ∀ (jump : Option Code) (W3 : World), Keeps R (Wa.putObj l (.loop { rec .ready none with state := .busy })) W3 →
      (Instr.endRound l jump).run P W3 = .ok (.bool jump.isNone) (W3.putObj l (.loop (rec (if jump.isNone then .ready else .done) jump))) ∧
      (W3.putObj l (.loop (rec (if jump.isNone then .ready else .done) jump))).heap[l]? = some (.loop (rec (if jump.isNone then .ready else .done) jump)) ∧
      Turn l [] W3 (W3.putObj l (.loop (rec (if jump.isNone then .ready else .done) jump))) ∧ KeepsL l R W (W3.putObj l (.loop (rec (if jump.isNone then .ready else .done) jump))) := fun jump W3 hO3 => by
    have hl3 := hO3.others l _ hl2 rfl
    have h4 := run_endRound (P := P) jump hl3
    have h5 := (Turn.refl l [] W3).putObj (o' := .loop (rec (if jump.isNone then .ready else .done) jump)) (Nat.le_refl _) hl3 rfl (by simp)
    rw [hrec] at h4 h5 ⊢
    refine ⟨h4, World.putObj_heap_same (Array.getElem?_eq_some_iff.1 hl3).1, h5, ⟨?_, fun k hk => ?_, fun k o hk ho hne => ?_⟩⟩
    · have h1 := hOa.size
      have h2 := hO3.size
      simp only [World.putObj_size] at h2 ⊢
      omega
    · have hkl := hR k hk
      have hlW : l < W.heap.size := (Array.getElem?_eq_some_iff.1 hl).1
      rw [World.putObj_heap_other (by omega), hO3.rows k hk, World.putObj_heap_other (by omega)]
      exact hOa.block k (by omega) (by simp)
    · rw [World.putObj_heap_other hne]
      refine hO3.others k o ?_ ho
      rw [World.putObj_heap_other hne]
      exact hOa.get hk (by simp)
  rintro e a3 W3 hp
  cases e with
  | normal =>
    obtain ⟨hk3, hi3⟩ := hp
    obtain ⟨hr, hl4, ht4, hO4⟩ := fin none W3 hk3
    exact ⟨_, _, hr, hO4, .inl ⟨rfl, hI _ _ _ hi3 ht4, hl4⟩⟩
  | ret =>
    obtain ⟨hk3, hi3⟩ := hp
    obtain ⟨hr, hl4, ht4, hO4⟩ := fin (some .ret) W3 hk3
    exact ⟨_, _, hr, hO4, .inr ⟨rfl, .ret, hIx _ _ _ _ hi3 ht4, hl4⟩⟩
  | exit id =>
    obtain ⟨hk3, hi3⟩ := hp
    obtain ⟨hr, hl4, ht4, hO4⟩ := fin (some (.exit id)) W3 hk3
    exact ⟨_, _, hr, hO4, .inr ⟨rfl, .exit id, hIx _ _ _ _ hi3 ht4, hl4⟩⟩
  | goto t =>
    obtain ⟨hk3, hi3⟩ := hp
    obtain ⟨hr, hl4, ht4, hO4⟩ := fin (some (.goto t)) W3 hk3
    exact ⟨_, _, hr, hO4, .inr ⟨rfl, .goto t, hIx _ _ _ _ hi3 ht4, hl4⟩⟩
  | panic ch => exact hp.elim
  | outgrown => exact hp.elim
/-- THE LAW, at an outermost loop, where a round's frame is known but for one block that its assignment has laid -/
theorem wpIn_rangeK2 {α : Type} {g : Operand} {ps : Array Tmp} {assign body : Code} {Q : Exit → Act → World → Prop} {a : Act} {w : World}
    (hro : F.round = none) (h1 : 1 ≤ n) {gf : Nat} {lb : Array Value} (hg : a.eval g = .func (.func gf) #[] lb) (hFg : F.fn gf) (eg : ∀ args w, (callFunc gf args).run P w = .ok (.enter gf args) w)
    {encs : α → Array Value} {R : List Nat} {S Sp : List α → Prop} {N : Nat} {w0 : World} (hseq : SeqK F (n - 1) P gf lb encs R S Sp N w0) (hb0 : Below w0.heap.size w0 w) (hps : ∀ x, (encs x).size = ps.size)
    (hR : ∀ k ∈ R, k < w.heap.size)
    (I : List α → World → Prop) (Ix : Code → List α → World → Prop) (hI : AbT w.heap.size [] I) (hIx : ∀ c, AbT w.heap.size [] (Ix c)) (h0 : I [] w) (fr : α → Nat → Act) (Bx : α → Nat → World → Prop) (hBx : ∀ x b, AbT w.heap.size [] (fun (_ : Unit) W => Bx x b W))
    (hassign : ∀ (l : Nat) (pre : List α) (x : α) (W : World) (K : Act → World → Prop), w.heap.size ≤ l → I pre W → (∀ b W', Only [] W W' → Bx x b W' → K (fr x b) W') →
      assign.wpIn (F.inRound l) (n - 1 - 1) P (Exit.then K (fun _ _ _ => False)) { tmps := (ps.zip (encs x)).foldl (fun t (p, v) => t.setIfInBounds p v) a.tmps, defers := [] } W)
    (hbody : ∀ (l : Nat) (pre : List α) (x : α) (b : Nat) (W : World), w.heap.size ≤ l → (∃ r, W.heap[l]? = some (.loop r)) → I pre W → Bx x b W → pre.length < N → Sp (pre ++ [x]) → body.wpIn (F.inRound l) (n - 1 - 1) P (postK R I Ix (pre ++ [x]) W) (fr x b) W)
    (hdone : ∀ (D : Nat) (xs : List α) (W : World), w.heap.size ≤ D → S xs → I xs W → W.heap[D]? = some (.deferred (some [])) → Q .normal { a with defers := { target := .collected D, args := #[] } :: a.defers } W)
    (hstop : ∀ (D : Nat) (c : Code) (pre : List α) (W : World), w.heap.size ≤ D → Sp pre → Ix c pre W → W.heap[D]? = some (.deferred (some [])) → c.wpIn F n P Q { a with defers := { target := .collected D, args := #[] } :: a.defers } W) :
    (Code.rangeFunc g ps assign body).wpIn F n P Q a w := by
  refine wpIn_rangeFunc ?_
  intro fn hfn
  rw [hro]
  obtain ⟨rec, hrec⟩ : ∃ rec : LoopState → Option Code → Loop, rec = fun st pe => { state := st, pending := pe, fn, tmps := a.tmps, params := ps, assign, body, defers := w.heap.size } := ⟨_, rfl⟩
  obtain ⟨W1, hW1⟩ : ∃ W1, (w.alloc (.deferred (some []))).alloc (.loop (rec .ready none)) = W1 := ⟨_, rfl⟩
  have hL1 : W1.heap[w.heap.size + 1]? = some (.loop (rec .ready none)) := by
    rw [← hW1]; have := World.alloc_heap_new (w.alloc (.deferred (some []))) (.loop (rec .ready none)); rwa [World.size_alloc] at this
  have hK1 : W1.heap[w.heap.size]? = some (.deferred (some [])) := by
    rw [← hW1]; exact (Below.heap_alloc _ _ _ (by simp)).trans (World.alloc_heap_new w _)
  have hO1 : Only [] w W1 := by rw [← hW1]; exact ((Only.refl [] w).alloc _).alloc _
  have hb1 : Below w0.heap.size w0 W1 := hb0.trans ((hO1.below (B := w.heap.size) (by simp) (Nat.le_refl _)).mono hb0.size)
  have hmono : ∀ {β : Type} {J : β → World → Prop}, AbT w.heap.size [] J → AbT (w.heap.size + 1) [] J := fun h => h.mono (by omega) (fun _ h => h) (fun k hk => by cases hk)
  refine ⟨w.heap.size + 1, [{ target := .collected w.heap.size, args := #[] }], W1, { target := .fn (.func gf) lb, args := #[.func (.yield (w.heap.size + 1)) #[] #[]] }, W1, gf,
    #[.func (.yield (w.heap.size + 1)) #[] #[]] ++ lb, W1, ?_, ?_, ?_, ?_, fun _ => h1, ?_⟩
  · rw [← hW1, hrec]; exact run_enterLoop_outer _ _ _ _ _
  · simp only [resolve, hg]
    simp [go_sem]
  · intro f' hf'; simp [Target.leads] at hf'; subst hf'; exact hFg
  · simp [invoke, go_sem, eg]
  · refine (rangeK_core (l := w.heap.size + 1) hfn rec ⟨_, hrec⟩ hseq hb1 hps (by have := hb0.size; omega) hL1 (fun k hk => by have := hR k hk; omega)
      (fun pre W => I pre W ∧ W.heap[w.heap.size]? = some (.deferred (some []))) (fun c pre W => Ix c pre W ∧ W.heap[w.heap.size]? = some (.deferred (some [])))
      ((hmono hI).and (AbT.heap (fun _ => .deferred (some [])) (by simp) (fun _ => .inl (by omega)))) (fun c => (hmono (hIx c)).and (AbT.heap (fun _ => .deferred (some [])) (by simp) (fun _ => .inl (by omega))))
      ⟨hI _ _ _ h0 (Turn.of_only hO1), hK1⟩ (fun x a' W => ∃ b, a' = fr x b ∧ Bx x b W) (fun x a' => hmono (fun s A W h ht => by obtain ⟨b, h1, h2⟩ := h; exact ⟨b, h1, hBx x b s A W h2 ht⟩)) (fun pre x W K hi hK => hassign _ pre x W K (by omega) hi.1 (fun b W' hO hb => hK _ W' hO ⟨b, rfl, hb⟩)) ?_).mono ?_
    · rintro pre x a' W hr ⟨hi, hk⟩ ⟨b, rfl, hb⟩ hlen hsp
      exact wpIn_mono (hbody _ pre x b W (by omega) hr hi hb hlen hsp) (postK_mono (fun W' hO h => ⟨hO, h, hO.others _ _ hk rfl⟩) (fun c W' hO h => ⟨hO, h, hO.others _ _ hk rfl⟩))
    · rintro e W2 ⟨⟨v, rfl⟩, (⟨xs, hS, ⟨hi, hk⟩, hl⟩ | ⟨pre, hSp, c, ⟨hi, hk⟩, hl⟩)⟩
      · exact ⟨none, _, by have := run_endLoop (P := P) hl (by rw [hrec]; simp); rw [hrec] at this; exact this, hdone _ xs _ (Nat.le_refl _) hS (hI _ _ _ hi ((Turn.refl _ [] W2).putObj (by omega) hl rfl (by simp) _)) ((World.putObj_heap_other (by omega)).trans hk)⟩
      · exact ⟨some c, _, by have := run_endLoop (P := P) hl (by rw [hrec]; simp); rw [hrec] at this; exact this, hstop _ c pre _ (Nat.le_refl _) hSp (hIx c _ _ _ hi ((Turn.refl _ [] W2).putObj (by omega) hl rfl (by simp) _)) ((World.putObj_heap_other (by omega)).trans hk)⟩
end Go.Rv
namespace Go.Rv
set_option linter.unusedVariables false
theorem zip_take {α : Type} (l : List α) {k : Nat} {x : α} (h : l[k]? = some x) : (l.take (k + 1)).zipIdx = (l.take k).zipIdx ++ [(x, k)] := by
  obtain ⟨hk, rfl⟩ := List.getElem?_eq_some_iff.1 h
  rw [List.take_succ_eq_append_getElem hk, List.zipIdx_append]
  simp [List.length_take, Nat.min_eq_left (Nat.le_of_lt hk)]
theorem zip_prefix {α : Type} (l : List α) {k m : Nat} (h : k ≤ m) : (l.take k).zipIdx <+: (l.take m).zipIdx := by
  obtain ⟨d, rfl⟩ : ∃ d, m = k + d := ⟨m - k, by omega⟩
  refine ⟨((l.drop k).take d).zipIdx (l.take k).length, ?_⟩
  rw [List.take_add, List.zipIdx_append]
  simp
theorem zip_full {α : Type} (l : List α) (k : Nat) : (l.take k).zipIdx <+: l.zipIdx := by
  by_cases h : k ≤ l.length
  · have := zip_prefix l h
    rwa [List.take_length] at this
  · rw [List.take_of_length_le (by omega)]
    exact ⟨[], by simp⟩
theorem zip_len {α : Type} (l : List α) {k : Nat} (h : k ≤ l.length) : (l.take k).zipIdx.length = k := by simp [h]
/-- what has come so far is a beginning: so the next one is known -/
theorem zip_next {α : Type} {l : List α} {pre : List (α × Nat)} {x : α × Nat} (h : pre ++ [x] <+: l.zipIdx) : x.2 = pre.length ∧ l[pre.length]? = some x.1 ∧ pre.length < l.length ∧ pre = (l.take pre.length).zipIdx := by
  obtain ⟨t, ht⟩ := h
  have hlen := congrArg List.length ht
  simp at hlen
  have h1 : l.zipIdx[pre.length]? = some x := by rw [← ht]; simp
  rw [List.getElem?_zipIdx] at h1
  simp only [Option.map_eq_some_iff, Nat.zero_add] at h1
  obtain ⟨y, hy, rfl⟩ := h1
  refine ⟨rfl, hy, by omega, ?_⟩
  have h2 : l.zipIdx.take pre.length = pre := by rw [← ht]; simp
  have h3 := List.prefix_iff_eq_take.1 (zip_full l pre.length)
  rw [zip_len l (by omega), h2] at h3
  exact h3.symm
end Go.Rv
namespace Go.Rv
open Go.RowKit
set_option linter.unusedVariables false
theorem upon_thenIn {F : Fence} {m : Nat} {P : Program} {o : Oper} {a : Act} {K : Act → World → Prop} {Q : Exit → Act → World → Prop} {r : Result Next} (h : o.uponIn F m P a K (Exit.then K Q) r) : o.uponIn F m P a K Q r := by
  cases r with
  | ok n w' =>
    cases n <;> simp only [Oper.uponIn] at h ⊢
    all_goals first
      | exact h
      | exact ⟨h.1, CallsIn.mono h.2 (fun e w'' he => by cases e <;> exact he)⟩
      | exact ⟨h.1, RoundIn.mono h.2 (fun e w'' he => by cases e <;> exact he)⟩
  | halt x w' => cases x <;> simp only [Oper.uponIn] at h ⊢ <;> exact h
theorem wpOpIn_of_list {F : Fence} {m : Nat} {P : Program} {ops : Array Oper} {K : Act → World → Prop} {Q : Exit → Act → World → Prop} {i : Nat} {o : Oper} {a : Act} {w : World} (ho : ops[i]? = some o) (h : wpListIn F m P ops (Exit.then K Q) [o] a w) : wpOpIn F m P ops Q i K a w := by
  unfold wpOpIn
  simp only [ho]
  simp only [wpListIn] at h
  split
  · rename_i hw
    rw [if_pos hw] at h
    unfold Oper.wpIn at h ⊢
    exact ⟨h.1, upon_thenIn h.2⟩
  · rename_i hw
    rw [if_neg hw] at h
    exact h
theorem wpAnyIn_of_seq {F : Fence} {m : Nat} {P : Program} {md : Region.Mode} {ops : Array Oper} {Q' : Exit → Act → World → Prop} : ∀ (l : List Oper) (k : Nat) (listed : Array Bool) (a : Act) (w : World), (∀ j, l[j]? = ops[k + j]?) →
    Region.seqB md ops l.length k listed = true → wpListIn F m P ops Q' l a w → wpAnyIn F m P md ops Q' l.length listed a w
  | [], _, _, _, _, _, hB, h => ⟨by simpa [Region.seqB] using hB, h⟩
  | o :: l, k, listed, a, w, hl, hB, h => by
    have h0 : ops[k]? = some o := by simpa using (hl 0).symm
    simp only [List.length_cons, Region.seqB, Bool.and_eq_true, decide_eq_true_eq] at hB
    refine ⟨fun h1 => (by rw [hB.1] at h1; cases h1), fun i hi => ?_⟩
    rw [hB.1] at hi
    obtain rfl : i = k := by simpa using hi
    have hw : wpOpIn F m P ops Q' i (wpListIn F m P ops Q' l) a w := by unfold wpOpIn; simp only [h0]; exact h
    exact wpOpIn_mono (fun a' w' h' => wpAnyIn_of_seq l (i + 1) _ a' w' (fun j => by have := hl (j + 1); simpa [Nat.add_assoc, Nat.add_comm 1 j] using this) hB.2 h') hw
def OblIn (F : Fence) (m : Nat) (P : Program) (ops : Array Oper) (Q : Exit → Act → World → Prop) (A : (Nat → Value) → Act) (w0 : World) (Φ : List Fact) (i : Nat) (o : Oper) : Prop :=
  ∀ (v : Nat → Value) (w : World) (K : Act → World → Prop), Below w0.heap.size w0 w → Deps Φ v w o.after.toList →
    (∀ u w', Below w.heap.size w w' → (Φ.getD i Fact.any).p u w' → K ((A v).put o.dst u) w') → wpListIn F m P ops (Exit.then K Q) [o] (A v) w
def OblsIn (F : Fence) (m : Nat) (P : Program) (ops : Array Oper) (Q : Exit → Act → World → Prop) (A : (Nat → Value) → Act) (w0 : World) (Φ : List Fact) : Nat → List Oper → Prop
  | _, [] => True
  | i, o :: r => OblIn F m P ops Q A w0 Φ i o ∧ OblsIn F m P ops Q A w0 Φ (i + 1) r
theorem OblsIn.at {F : Fence} {m : Nat} {P : Program} {ops : Array Oper} {Q : Exit → Act → World → Prop} {A : (Nat → Value) → Act} {w0 : World} {Φ : List Fact} : ∀ {k : Nat} {l : List Oper}, OblsIn F m P ops Q A w0 Φ k l → ∀ {i : Nat} {o : Oper}, l[i]? = some o → OblIn F m P ops Q A w0 Φ (k + i) o
  | _, [], _, _, _, h => by simp at h
  | k, _ :: r, h, 0, _, ho => by simp at ho; subst ho; exact h.1
  | k, _ :: r, h, i + 1, _, ho => by
    have := OblsIn.at h.2 (i := i) (by simpa using ho)
    rwa [show k + 1 + i = k + (i + 1) by omega] at this
theorem confIn_walk {F : Fence} {m : Nat} {P : Program} {ops : Array Oper} {Q : Exit → Act → World → Prop} {a0 : Act} {w0 : World} {n : Nat} {Φ : List Fact} {A : (Nat → Value) → Act} (hok : confOk ops n = true)
    (hA : ∀ v, putAll v 0 (ops.toList.take n) a0 = A v) (ho : OblsIn F m P ops Q A w0 Φ 0 (ops.toList.take n))
    (hend : ∀ v w, Below w0.heap.size w0 w → (∀ j, j < n → (Φ.getD j Fact.any).p (v j) w) → wpListIn F m P ops Q (ops.toList.drop n) (A v) w) :
    ∀ (f : Nat) (listed : Array Bool) (v : Nat → Value) (w : World), HeadInv .any ops n listed → unl listed n = f → Below w0.heap.size w0 w → (∀ j, j < n → listed.getD j false = true → (Φ.getD j Fact.any).p (v j) w) →
      wpAnyIn F m P .any ops Q (f + (ops.size - n)) listed (A v) w := by
  simp only [confOk, Bool.and_eq_true, decide_eq_true_eq] at hok
  obtain ⟨⟨⟨⟨⟨hd, hbk⟩, hn⟩, hs⟩, hc⟩, hq⟩ := hok
  intro f
  induction f with
  | zero =>
    intro listed v w inv hu hB hF
    have hall := unl_zero hu
    have hl : listed = headListed n (ops.size - n) := by
      apply Array.ext
      · simp only [headListed, List.size_toArray, List.length_append, List.length_replicate]
        rw [inv.size]
        omega
      · intro i h1 h2
        have e1 : listed[i] = listed.getD i true := by simp [h1]
        by_cases hin : i < n
        · rw [e1, hall i hin]
          simp only [headListed, List.getElem_toArray]
          rw [List.getElem_append_left (by simpa using hin)]
          simp
        · rw [e1, inv.tail i (by omega) (by rw [← inv.size]; exact h1)]
          simp only [headListed, List.getElem_toArray]
          rw [List.getElem_append_right (by simpa using Nat.le_of_not_lt hin)]
          simp
    rw [Nat.zero_add]
    have hlen : (ops.toList.drop n).length = ops.size - n := by simp
    rw [← hlen]
    refine wpAnyIn_of_seq (ops.toList.drop n) n listed (A v) w (fun j => by simp) (by rw [hlen, hl]; exact hq) (hend v w hB fun j hj => hF j hj ?_)
    have h1 := hall j hj
    have hjs : j < listed.size := by rw [inv.size]; omega
    simp [hjs] at h1 ⊢
    exact h1
  | succ f ih =>
    intro listed v w inv hu hB hF
    obtain ⟨i0, hi0, hun0, hbef⟩ := unl_pos (listed := listed) (k := n) (by omega)
    have hnt := tail_waits hs hc hn inv _ i0 rfl hi0 hun0
    rw [show f + 1 + (ops.size - n) = (f + (ops.size - n)) + 1 by omega]
    refine ⟨fun h => ?_, fun i hi => ?_⟩
    · exfalso
      have hlt : i0 < ops.size := by omega
      have hr : i0 ∈ Region.ready .any ops listed := mem_ready.2 ⟨hun0, ops[i0], by simp, fun e he hb => by
        have hlt2 := edgesBack_spec hbk (i := i0) (o := ops[i0]) (by simp) e he hb
        have h1 := hbef e.on (by omega)
        have hes : e.on < listed.size := by rw [inv.size]; omega
        simp [hes] at h1 ⊢
        exact h1⟩
      rw [h] at hr
      cases hr
    · have hin : i < n := by
        rcases Nat.lt_or_ge i n with h | h
        · exact h
        · exact absurd hi (hnt i h)
      obtain ⟨hui, o, hoi, hdep⟩ := mem_ready.1 hi
      have hoi' : (ops.toList.take n)[i]? = some o := by simp [hin, hoi]
      have ob := ho.at hoi'
      rw [Nat.zero_add] at ob
      refine wpOpIn_of_list hoi (ob v w _ hB ?_ ?_)
      · have hdeps : ∀ l : List Edge, (∀ e ∈ l, e ∈ o.after) → Deps Φ v w l := by
          intro l
          induction l with
          | nil => intro _; exact trivial
          | cons e r ihl =>
            intro hl
            refine ⟨fun hb => hF e.on ?_ (hdep e (hl e (by simp)) hb), ihl fun x hx => hl x (by simp [hx])⟩
            have := edgesBack_spec hbk (i := i) (o := o) (by simpa using hoi) e (hl e (by simp)) hb
            omega
        exact hdeps _ fun e he => by simpa using he
      · intro u w' hBw hR
        rw [← hA v, putAll_upd (k := 0) hd hoi', hA, Nat.zero_add]
        have hsz : w0.heap.size ≤ w.heap.size := hB.size
        refine ih (listed.setIfInBounds i true) (upd v i u) w' (inv.set hi hin) ?_ (hB.trans (hBw.mono hsz)) ?_
        · have := (unl_set hui (k := n)).1 hin
          omega
        · intro j hj hl
          by_cases hji : j = i
          · subst hji
            rw [show upd v j u j = u by simp [upd]]
            exact hR
          · rw [show upd v i u j = v j by simp [upd, hji]]
            rw [getD_set_ne false (Ne.symm hji)] at hl
            exact (Φ.getD j Fact.any).st _ _ _ (hF j hj hl) hBw
theorem wpIn_region_conf {F : Fence} {m : Nat} {P : Program} {ops : Array Oper} {Q : Exit → Act → World → Prop} {a0 : Act} {w0 : World} {id : Nat} (n : Nat) (Φ : List Fact) (A : (Nat → Value) → Act) (hm : P.follows .mixedOrders = true) (hok : confOk ops n = true)
    (hA : ∀ v, putAll v 0 (ops.toList.take n) a0 = A v) (ho : OblsIn F m P ops Q A w0 Φ 0 (ops.toList.take n))
    (hend : ∀ v w, Below w0.heap.size w0 w → (∀ j, j < n → (Φ.getD j Fact.any).p (v j) w) → wpListIn F m P ops Q (ops.toList.drop n) (A v) w) : (Code.region id ops true).wpIn F m P Q a0 w0 := by
  have hok' := hok
  simp only [confOk, Bool.and_eq_true, decide_eq_true_eq] at hok'
  obtain ⟨⟨⟨⟨⟨hd, _⟩, hn⟩, _⟩, _⟩, _⟩ := hok'
  obtain ⟨v, hv⟩ := putAll_self (k := 0) (a := a0) hd
  have inv0 : HeadInv .any ops n (Array.replicate ops.size false) :=
    ⟨by simp, fun j oj _ hl => (by rw [getD_replicate_false] at hl; cases hl), fun t _ ht => getD_in (by simpa using ht) (getD_replicate_false _ _)⟩
  have hu : ∀ k, k ≤ n → unl (Array.replicate ops.size false) k = k := by
    intro k
    induction k with
    | zero => intro _; rfl
    | succ k ih =>
      intro hk
      simp only [unl]
      rw [ih (by omega), getD_in (by simp; omega) (getD_replicate_false _ _)]
      simp
  have h := confIn_walk (w0 := w0) hok hA ho hend n _ v w0.drew inv0 (hu n (Nat.le_refl _)) (Below.refl _ _).drew (fun j hj hl => by rw [getD_replicate_false] at hl; cases hl)
  rw [← hA v, hv, show n + (ops.size - n) = ops.size by omega] at h
  exact wpIn_region_any hm h
theorem wpListIn_guard_yes {F : Fence} {m : Nat} {P : Program} {ops : Array Oper} {rest : List Oper} {Q : Exit → Act → World → Prop} {dst : Option Tmp} {op : Op} {type : TypeId} {pos : String} {after : Array Edge} {g : Nat} {b : Bool} {a : Act} {w : World}
    (hy : yielded ops a.tmps g = some b) (h : wpListIn F m P ops Q (⟨dst, op, type, pos, after, none⟩ :: rest) a w) : wpListIn F m P ops Q (⟨dst, op, type, pos, after, some (g, b)⟩ :: rest) a w := by
  have hw : Region.wanted (⟨dst, op, type, pos, after, some (g, b)⟩ : Oper) (yielded ops a.tmps) = true := by simp [Region.wanted, hy]
  have hn : Region.wanted (⟨dst, op, type, pos, after, none⟩ : Oper) (yielded ops a.tmps) = true := rfl
  simp only [wpListIn, hn, if_true] at h
  simp only [wpListIn, hw, if_true]
  exact h
/-- an operation that reads, where nothing of the world is asked for but that it yields -/
theorem wpListIn_yields {F : Fence} {m : Nat} {P : Program} {ops : Array Oper} {rest : List Oper} {o : Oper} {a : Act} {w : World} {Q : Exit → Act → World → Prop} (hgd : Region.wanted o (yielded ops a.tmps) = true) (v : Value) (hab : o.about P w a.eval = none)
    (hr : (o.semAt F.round a.eval).run P w = .ok (.value v) w) (h : wpListIn F m P ops Q rest (a.put o.dst v) w) : wpListIn F m P ops Q (o :: rest) a w := by
  unfold wpListIn
  rw [if_pos hgd]
  refine ⟨fun f hf => (by rw [hab] at hf; cases hf), ?_⟩
  rw [hr]
  exact h
def OblIn2 (F : Fence) (m : Nat) (P : Program) (ops : Array Oper) (Q : Exit → Act → World → Prop) (A : (Nat → Value) → Act) (w0 : World) (Φ : List Fact) (i : Nat) (o : Oper) : Prop :=
  ∀ (v : Nat → Value) (w : World) (K : Act → World → Prop), Below w0.heap.size w0 w → Deps Φ v w o.after.toList →
    Hid (∀ u w', Below w.heap.size w w' → (Φ.getD i Fact.any).p u w' → K ((A v).put o.dst u) w') → wpListIn F m P ops (Exit.then K Q) [o] (A v) w
def OblsIn2 (F : Fence) (m : Nat) (P : Program) (ops : Array Oper) (Q : Exit → Act → World → Prop) (A : (Nat → Value) → Act) (w0 : World) (Φ : List Fact) : Nat → List Oper → Prop
  | _, [] => True
  | i, o :: r => OblIn2 F m P ops Q A w0 Φ i o ∧ OblsIn2 F m P ops Q A w0 Φ (i + 1) r
theorem oblsIn_of2 {F : Fence} {m : Nat} {P : Program} {ops : Array Oper} {Q : Exit → Act → World → Prop} {A : (Nat → Value) → Act} {w0 : World} {Φ : List Fact} : ∀ {i : Nat} {l : List Oper}, OblsIn2 F m P ops Q A w0 Φ i l → OblsIn F m P ops Q A w0 Φ i l
  | _, [], _ => trivial
  | _, _ :: _, h => ⟨fun v w K hB hd hK => h.1 v w K hB hd (Lib.hid hK), oblsIn_of2 h.2⟩
theorem wpIn_region_conf2 {F : Fence} {m : Nat} {P : Program} {ops : Array Oper} {Q : Exit → Act → World → Prop} {a0 : Act} {w0 : World} {id : Nat} (n : Nat) (Φ : List Fact) (A : (Nat → Value) → Act) (hm : P.follows .mixedOrders = true) (hok : confOk ops n = true)
    (hA : ∀ v, putAll v 0 (ops.toList.take n) a0 = A v) (ho : OblsIn2 F m P ops Q A w0 Φ 0 (ops.toList.take n))
    (hend : ∀ v w, Below w0.heap.size w0 w → (∀ j, j < n → (Φ.getD j Fact.any).p (v j) w) → wpListIn F m P ops Q (ops.toList.drop n) (A v) w) : (Code.region id ops true).wpIn F m P Q a0 w0 :=
  wpIn_region_conf n Φ A hm hok hA (oblsIn_of2 ho) hend
theorem wpListIn_row_on {F : Fence} {m : Nat} {P : Program} {ops : Array Oper} {rest : List Oper} {o : Oper} {a : Act} {w : World} {Q : Exit → Act → World → Prop} (hgd : Region.wanted o (yielded ops a.tmps) = true) (ty : TypeId) (x : Operand) (ho : o.op = .load ty x)
    (g : Nat) (hx : a.eval x = .pointer (some ⟨g, 0, none⟩)) (t : TypeId) (cs : Array Value) (fr : Nat × Nat) (d : TypeDesc) (hg : w.heap[g]? = some (.cells cs t fr))
    (hu : P.underlying ty = some d) (hd : (match d with | .struct _ | .array _ _ => true | _ => false) = true) (hi : (P.info? ty).map (·.size) = some cs.size)
    (h : wpListIn F m P ops Q rest (a.put o.dst (.agg cs)) w) : wpListIn F m P ops Q (o :: rest) a w := by
  refine wpListIn_yields hgd (.agg cs) ?_ ?_ h
  · unfold Oper.about
    rw [ho]
  · have hl := run_loadVar_row w g t ty cs fr d hg hu hd hi
    cases hr : F.round <;> simp [Oper.semAt, ho, execOp, hx, Instr.loadAt, Instr.sureAddr, Result.andThen_ok, hl]
end Go.Rv
namespace Go.Rv
open Go.RowKit
set_option linter.unusedVariables false
theorem wpListIn_skips {F : Fence} {m : Nat} {P : Program} {ops : Array Oper} {rest : List Oper} {o : Oper} {a : Act} {w w' : World} {Q : Exit → Act → World → Prop} (hgd : Region.wanted o (yielded ops a.tmps) = true) (hab : o.about P w a.eval = none)
    (hr : (o.semAt F.round a.eval).run P w = .ok .skip w') (h : wpListIn F m P ops Q rest (a.put o.dst undef) w') : wpListIn F m P ops Q (o :: rest) a w := by
  unfold wpListIn
  rw [if_pos hgd]
  refine ⟨fun f hf => (by rw [hab] at hf; cases hf), ?_⟩
  rw [hr]
  exact h
theorem wpListIn_store_row {F : Fence} {m : Nat} {P : Program} {ops : Array Oper} {rest : List Oper} {o : Oper} {a : Act} {w : World} {Q : Exit → Act → World → Prop} (hgd : Region.wanted o (yielded ops a.tmps) = true) (ty : TypeId) (x y : Operand) (ho : o.op = .store ty x y)
    (g : Nat) (cells : Array Value) (hx : a.eval x = .pointer (some ⟨g, 0, none⟩)) (hy : a.eval y = .agg cells)
    (t : TypeId) (old : Array Value) (hg : w.heap[g]? = some (.cells old t (0, 0))) (hi : (P.info? ty).map (·.size) = some cells.size)
    (hold : old.size = cells.size) (h1 : cells.all (·.oneCell') = true)
    (h : wpListIn F m P ops Q rest (a.put o.dst undef) (w.setRow g cells)) : wpListIn F m P ops Q (o :: rest) a w := by
  refine wpListIn_skips hgd ?_ ?_ h
  · unfold Oper.about
    rw [ho]
  · have hl := run_storeVar_row w g t ty old cells hg hi hold h1
    cases hr : F.round <;> simp [Oper.semAt, ho, execOp, hx, hy, Instr.storeAt, Instr.sureAddr, Result.andThen_ok, hl]
theorem wpListIn_neq_on {F : Fence} {m : Nat} {P : Program} {ops : Array Oper} {rest : List Oper} {o : Oper} {a : Act} {w : World} {Q : Exit → Act → World → Prop} (hgd : Region.wanted o (yielded ops a.tmps) = true) (ty ty2 : TypeId) (x y : Operand) (ho : o.op = .binOp .neq ty x y ty2)
    (xs ys : Array Value) (hx : a.eval x = .agg xs) (hy : a.eval y = .agg ys) (hm : P.eqGuardType P.depth ty = false) (r : Bool) (hr : ∀ w, (Op.equalIn 10000 ty (.agg xs) (.agg ys)).run P w = .ok r w)
    (h : wpListIn F m P ops Q rest (a.put o.dst (.bool (!r))) w) : wpListIn F m P ops Q (o :: rest) a w := by
  refine wpListIn_yields hgd (.bool (!r)) ?_ ?_ h
  · unfold Oper.about
    rw [ho]
  · have h1 := run_eqGuard_agg (P := P) w .neq ty x y xs ys hm
    have h2 := run_neq_struct (P := P) w ty xs ys
    rw [hr w] at h2
    cases hro : F.round <;> simp only [Oper.semAt, execOp, ho, hx, hy, Sem.run_bind, Sem.run_pure, h1, h2, Result.andThen_ok]
end Go.Rv
namespace Go.Rv
open Go.RowKit
def Obls3 (P : Program) (ops : Array Oper) (Q : Exit → Act → World → Prop) (A : (Nat → Value) → Act) (n : Nat) (J : Array Bool → (Nat → Value) → World → Prop) : Prop :=
  ∀ (i : Nat) (o : Oper), i < n → ops[i]? = some o → ∀ (listed : Array Bool) (v : Nat → Value) (w : World) (K : Act → World → Prop), listed.getD i true = false → (∀ e ∈ o.after, Region.binds .any e = true → listed.getD e.on false = true) → J listed v w →
    Hid (∀ u w', J (listed.setIfInBounds i true) (upd v i u) w' → K ((A v).put o.dst u) w') → wpList P ops (Exit.then K Q) [o] (A v) w
theorem conf3_walk {P : Program} {ops : Array Oper} {Q : Exit → Act → World → Prop} {a0 : Act} {n : Nat} {J : Array Bool → (Nat → Value) → World → Prop} {A : (Nat → Value) → Act} (hok : confOk ops n = true)
    (hA : ∀ v, putAll v 0 (ops.toList.take n) a0 = A v) (ho : Obls3 P ops Q A n J)
    (hend : ∀ v w, J (headListed n (ops.size - n)) v w → wpList P ops Q (ops.toList.drop n) (A v) w) :
    ∀ (f : Nat) (listed : Array Bool) (v : Nat → Value) (w : World), HeadInv .any ops n listed → unl listed n = f → J listed v w →
      wpAny P .any ops Q (f + (ops.size - n)) listed (A v) w := by
  simp only [confOk, Bool.and_eq_true, decide_eq_true_eq] at hok
  obtain ⟨⟨⟨⟨⟨hd, hbk⟩, hn⟩, hs⟩, hc⟩, hq⟩ := hok
  intro f
  induction f with
  | zero =>
    intro listed v w inv hu hJ
    have hall := unl_zero hu
    have hl : listed = headListed n (ops.size - n) := by
      apply Array.ext
      · simp only [headListed, List.size_toArray, List.length_append, List.length_replicate]
        rw [inv.size]
        omega
      · intro i h1 h2
        have e1 : listed[i] = listed.getD i true := by simp [h1]
        by_cases hin : i < n
        · rw [e1, hall i hin]
          simp only [headListed, List.getElem_toArray]
          rw [List.getElem_append_left (by simpa using hin)]
          simp
        · rw [e1, inv.tail i (by omega) (by rw [← inv.size]; exact h1)]
          simp only [headListed, List.getElem_toArray]
          rw [List.getElem_append_right (by simpa using Nat.le_of_not_lt hin)]
          simp
    rw [Nat.zero_add]
    have hlen : (ops.toList.drop n).length = ops.size - n := by simp
    rw [← hlen]
    refine wpAny_of_seq (ops.toList.drop n) n listed (A v) w (fun j => by simp) (by rw [hlen, hl]; exact hq) (hend v w (by rw [← hl]; exact hJ))
  | succ f ih =>
    intro listed v w inv hu hJ
    obtain ⟨i0, hi0, hun0, hbef⟩ := unl_pos (listed := listed) (k := n) (by omega)
    have hnt := tail_waits hs hc hn inv _ i0 rfl hi0 hun0
    rw [show f + 1 + (ops.size - n) = (f + (ops.size - n)) + 1 by omega]
    refine ⟨fun h => ?_, fun i hi => ?_⟩
    · exfalso
      have hlt : i0 < ops.size := by omega
      have hr : i0 ∈ Region.ready .any ops listed := mem_ready.2 ⟨hun0, ops[i0], by simp, fun e he hb => by
        have hlt2 := edgesBack_spec hbk (i := i0) (o := ops[i0]) (by simp) e he hb
        have h1 := hbef e.on (by omega)
        have hes : e.on < listed.size := by rw [inv.size]; omega
        simp [hes] at h1 ⊢
        exact h1⟩
      rw [h] at hr
      cases hr
    · have hin : i < n := by
        rcases Nat.lt_or_ge i n with h | h
        · exact h
        · exact absurd hi (hnt i h)
      obtain ⟨hui, o, hoi, hdep⟩ := mem_ready.1 hi
      have hoi' : (ops.toList.take n)[i]? = some o := by simp [hin, hoi]
      refine wpOp_of_list hoi (ho i o hin hoi listed v w _ hui (fun e he hb => hdep e he hb) hJ (Lib.hid ?_))
      intro u w' hJ'
      rw [← hA v, putAll_upd (k := 0) hd hoi', hA, Nat.zero_add]
      refine ih (listed.setIfInBounds i true) (upd v i u) w' (inv.set hi hin) ?_ hJ'
      have := (unl_set hui (k := n)).1 hin
      omega
/-- the law with one assertion of all slots, of what is over and of the world: an operation may write what the region has made -/
theorem wp_region_conf3 {P : Program} {ops : Array Oper} {Q : Exit → Act → World → Prop} {a0 : Act} {w0 : World} {id : Nat} (n : Nat) (J : Array Bool → (Nat → Value) → World → Prop) (A : (Nat → Value) → Act) (hm : P.follows .mixedOrders = true) (hok : confOk ops n = true)
    (hA : ∀ v, putAll v 0 (ops.toList.take n) a0 = A v) (ho : Obls3 P ops Q A n J) (hstart : ∀ v, J (Array.replicate ops.size false) v w0.drew)
    (hend : ∀ v w, J (headListed n (ops.size - n)) v w → wpList P ops Q (ops.toList.drop n) (A v) w) : (Code.region id ops true).wp P Q a0 w0 := by
  have hok' := hok
  simp only [confOk, Bool.and_eq_true, decide_eq_true_eq] at hok'
  obtain ⟨⟨⟨⟨⟨hd, _⟩, hn⟩, _⟩, _⟩, _⟩ := hok'
  obtain ⟨v, hv⟩ := putAll_self (k := 0) (a := a0) hd
  have inv0 : HeadInv .any ops n (Array.replicate ops.size false) :=
    ⟨by simp, fun j oj _ hl => (by rw [getD_replicate_false] at hl; cases hl), fun t _ ht => getD_in (by simpa using ht) (getD_replicate_false _ _)⟩
  have hu : ∀ k, k ≤ n → unl (Array.replicate ops.size false) k = k := by
    intro k
    induction k with
    | zero => intro _; rfl
    | succ k ih =>
      intro hk
      simp only [unl]
      rw [ih (by omega), getD_in (by simp; omega) (getD_replicate_false _ _)]
      simp
  have h := conf3_walk hok hA ho hend n _ v w0.drew inv0 (hu n (Nat.le_refl _)) (hstart v)
  rw [← hA v, hv, show n + (ops.size - n) = ops.size by omega] at h
  exact wp_region_any hm h
end Go.Rv
namespace Go.Rv
open Go.RowKit
set_option linter.unusedVariables false
def DepsV (V : List Value) (v : Nat → Value) : List Edge → Prop
  | [] => True
  | e :: r => (Region.binds .any e = true → v e.on = V.getD e.on undef) ∧ DepsV V v r
/-- lower bounds of the stage: an operation that is over, or may begin, tells that so many of the list are over -/
def loOk (ms lo : List Nat) : Nat → List Oper → Bool
  | _, [] => true
  | i, o :: r => (lo.getD i 0 == 0 || (match ms.idxOf? i with | some k => decide (lo.getD i 0 ≤ k + 1) | none => o.after.any fun e => Region.binds .any e && decide (lo.getD i 0 ≤ lo.getD e.on 0))) && loOk ms lo (i + 1) r
theorem loOk_at {ms lo : List Nat} : ∀ {k : Nat} {l : List Oper}, loOk ms lo k l = true → ∀ {i : Nat} {o : Oper}, l[i]? = some o → lo.getD (k + i) 0 = 0 ∨ (∃ m, ms.idxOf? (k + i) = some m ∧ lo.getD (k + i) 0 ≤ m + 1) ∨ (ms.idxOf? (k + i) = none ∧ ∃ e ∈ o.after, Region.binds .any e = true ∧ lo.getD (k + i) 0 ≤ lo.getD e.on 0)
  | _, [], _, _, _, h => by simp at h
  | k, x :: r, h, 0, o, ho => by
    simp at ho
    subst ho
    simp only [loOk, Bool.and_eq_true, Bool.or_eq_true, beq_iff_eq] at h
    rcases h.1 with h1 | h1
    · exact .inl h1
    · cases hm : ms.idxOf? k with
      | some m =>
        rw [hm] at h1
        exact .inr (.inl ⟨m, by rw [← hm], by simpa using h1⟩)
      | none =>
        rw [hm] at h1
        obtain ⟨e, he, h3⟩ := Array.any_eq_true.1 h1
        rw [Bool.and_eq_true, decide_eq_true_eq] at h3
        exact .inr (.inr ⟨by rw [← hm], x.after[e], Array.getElem_mem _, h3⟩)
  | k, x :: r, h, i + 1, o, ho => by
    simp only [loOk, Bool.and_eq_true] at h
    have := loOk_at h.2 (i := i) (o := o) (by simpa using ho)
    rwa [show k + 1 + i = k + (i + 1) by omega] at this
def Obl5 (P : Program) (ops : Array Oper) (Q : Exit → Act → World → Prop) (A : (Nat → Value) → Act) (V : List Value) (ms lo : List Nat) (I : Nat → World → Prop) (i : Nat) (o : Oper) : Prop :=
  match ms.idxOf? i with
  | none => ∀ (v : Nat → Value) (w : World) (K : Act → World → Prop) (s : Nat), lo.getD i 0 ≤ s → I s w → DepsV V v o.after.toList →
      Hid (∀ u w', Below w.heap.size w w' → u = V.getD i undef → K ((A v).put o.dst u) w') → wpList P ops (Exit.then K Q) [o] (A v) w
  | some k => ∀ (v : Nat → Value) (w : World) (K : Act → World → Prop), I k w → DepsV V v o.after.toList →
      Hid (∀ u w', I (k + 1) w' → u = V.getD i undef → K ((A v).put o.dst u) w') → wpList P ops (Exit.then K Q) [o] (A v) w
def Obls5 (P : Program) (ops : Array Oper) (Q : Exit → Act → World → Prop) (A : (Nat → Value) → Act) (V : List Value) (ms lo : List Nat) (I : Nat → World → Prop) : Nat → List Oper → Prop
  | _, [] => True
  | i, o :: r => Obl5 P ops Q A V ms lo I i o ∧ Obls5 P ops Q A V ms lo I (i + 1) r
theorem Obls5.at {P : Program} {ops : Array Oper} {Q : Exit → Act → World → Prop} {A : (Nat → Value) → Act} {V : List Value} {ms lo : List Nat} {I : Nat → World → Prop} : ∀ {k : Nat} {l : List Oper}, Obls5 P ops Q A V ms lo I k l → ∀ {i : Nat} {o : Oper}, l[i]? = some o → Obl5 P ops Q A V ms lo I (k + i) o
  | _, [], _, _, _, h => by simp at h
  | k, _ :: r, h, 0, _, ho => by simp at ho; subst ho; exact h.1
  | k, _ :: r, h, i + 1, _, ho => by
    have := Obls5.at h.2 (i := i) (by simpa using ho)
    rwa [show k + 1 + i = k + (i + 1) by omega] at this
/-- each operation of the list but the first one waits for the one before it -/
def chainMs (ops : Array Oper) : List Nat → Bool
  | [] => true
  | [_] => true
  | a :: b :: r => (match ops[b]? with | some o => o.after.any fun e => Region.binds .any e && e.on == a | none => false) && chainMs ops (b :: r)
def incMs (n : Nat) : List Nat → Bool
  | [] => true
  | [a] => decide (a < n)
  | a :: b :: r => decide (a < b) && incMs n (b :: r)
theorem chainMs_at {ops : Array Oper} : ∀ {ms : List Nat}, chainMs ops ms = true → ∀ {k a b : Nat}, ms[k]? = some a → ms[k + 1]? = some b → ∃ o, ops[b]? = some o ∧ ∃ e ∈ o.after, Region.binds .any e = true ∧ e.on = a
  | [], _, k, a, b, h, _ => by simp at h
  | [x], _, k, a, b, _, h => by simp at h
  | x :: y :: r, hc, 0, a, b, h1, h2 => by
    simp at h1 h2
    subst h1 h2
    simp only [chainMs, Bool.and_eq_true] at hc
    cases ho : ops[y]? with
    | none => rw [ho] at hc; simp at hc
    | some o =>
      rw [ho] at hc
      obtain ⟨e, he, h3⟩ := Array.any_eq_true.1 hc.1
      rw [Bool.and_eq_true, beq_iff_eq] at h3
      exact ⟨o, rfl, o.after[e], Array.getElem_mem _, h3⟩
  | x :: y :: r, hc, k + 1, a, b, h1, h2 => by
    simp only [chainMs, Bool.and_eq_true] at hc
    exact chainMs_at hc.2 (k := k) (by simpa using h1) (by simpa using h2)
theorem incMs_lt {n : Nat} : ∀ {ms : List Nat}, incMs n ms = true → ∀ {k a : Nat}, ms[k]? = some a → a < n ∧ ∀ j b, k < j → ms[j]? = some b → a < b
  | [], _, k, a, h => by simp at h
  | [x], hc, k, a, h => by
    match k, h with
    | 0, h =>
      simp at h
      subst h
      simp only [incMs, decide_eq_true_eq] at hc
      exact ⟨hc, fun j b hj hb => by
        have := (List.getElem?_eq_some_iff.1 hb).1
        simp at this
        omega⟩
  | x :: y :: r, hc, k, a, h => by
    simp only [incMs, Bool.and_eq_true, decide_eq_true_eq] at hc
    match k, h with
    | 0, h =>
      simp at h
      subst h
      have hy := incMs_lt hc.2 (k := 0) (a := y) (by simp)
      refine ⟨by omega, fun j b hj hb => ?_⟩
      match j, hj, hb with
      | 1, _, hb => simp at hb; omega
      | j + 2, _, hb =>
        have := hy.2 (j + 1) b (by omega) (by simpa using hb)
        omega
    | k + 1, h =>
      obtain ⟨h1, h2⟩ := incMs_lt hc.2 (k := k) (a := a) (by simpa using h)
      exact ⟨h1, fun j b hj hb => by
        match j, hj, hb with
        | j + 1, hj, hb => exact h2 j b (by omega) (by simpa using hb)⟩
theorem incMs_inj {n : Nat} {ms : List Nat} (h : incMs n ms = true) {j k a : Nat} (hj : ms[j]? = some a) (hk : ms[k]? = some a) : j = k := by
  by_cases h1 : j < k
  · have := (incMs_lt h hj).2 k a h1 hk; omega
  · by_cases h2 : k < j
    · have := (incMs_lt h hk).2 j a h2 hj; omega
    · omega
theorem idx_none {ms : List Nat} {i : Nat} (h : ms.idxOf? i = none) : ∀ k : Nat, ms[k]? ≠ some i := by
  intro k hk
  have := List.mem_of_getElem? hk
  rw [List.idxOf?_eq_none_iff] at h
  exact h this
theorem idx_some : ∀ {ms : List Nat} {i k : Nat}, ms.idxOf? i = some k → ms[k]? = some i
  | [], i, k, h => by simp at h
  | x :: r, i, k, h => by
    rw [List.idxOf?_cons] at h
    split at h
    · rename_i hx
      simp at h hx
      subst h hx
      rfl
    · simp only [Option.map_eq_some_iff] at h
      obtain ⟨j, hj, rfl⟩ := h
      simpa using idx_some hj
theorem wp_region_stage {P : Program} {ops : Array Oper} {Q : Exit → Act → World → Prop} {a0 : Act} {w0 : World} {id : Nat} (n : Nat) (V : List Value) (ms lo : List Nat) (I : Nat → World → Prop) (A : (Nat → Value) → Act) (hm : P.follows .mixedOrders = true) (hok : confOk ops n = true) (hms : (chainMs ops ms && incMs n ms && loOk ms lo 0 (ops.toList.take n)) = true)
    (hA : ∀ v, putAll v 0 (ops.toList.take n) a0 = A v) (h0 : I 0 w0.drew) (hIb : ∀ s w w', I s w → Below w.heap.size w w' → I s w') (ho : Obls5 P ops Q A V ms lo I 0 (ops.toList.take n))
    (hend : ∀ v w, I ms.length w → (∀ j, j < n → v j = V.getD j undef) → wpList P ops Q (ops.toList.drop n) (A v) w) : (Code.region id ops true).wp P Q a0 w0 := by
  rw [Bool.and_eq_true, Bool.and_eq_true] at hms
  obtain ⟨⟨hch, hinc⟩, hlok⟩ := hms
  refine wp_region_conf3 n (fun L v w => (∀ j, j < n → L.getD j false = true → v j = V.getD j undef) ∧ ∃ s, (∀ k m, ms[k]? = some m → (L.getD m false = true ↔ k < s)) ∧ s ≤ ms.length ∧ (∀ j, j < n → L.getD j false = true → lo.getD j 0 ≤ s) ∧ I s w) A hm hok hA ?_ ?_ ?_
  · intro i o hin hoi L v w K hui hdep ⟨hv, s, hs, hsl, hls, hI⟩ HK
    have hilt : i < L.size := by
      rcases Nat.lt_or_ge i L.size with h | h
      · exact h
      · simp [Array.getElem?_eq_none h] at hui
    have hif : L.getD i false = false := by simp [hilt] at hui ⊢; exact hui
    have hit : (L.setIfInBounds i true).getD i false = true := by simp [hilt]
    have hdv : ∀ l : List Edge, (∀ e ∈ l, e ∈ o.after) → DepsV V v l := by
      intro l
      induction l with
      | nil => intro _; exact trivial
      | cons e r ihl =>
        intro hl
        refine ⟨fun hb => hv e.on ?_ (hdep e (hl e (by simp)) hb), ihl fun x hx => hl x (by simp [hx])⟩
        have hbk : edgesBack 0 ops.toList = true := by
          simp only [confOk, Bool.and_eq_true] at hok
          exact hok.1.1.1.1.2
        have := edgesBack_spec hbk (i := i) (o := o) (by simpa using hoi) e (hl e (by simp)) hb
        omega
    have hdv := hdv o.after.toList (fun e he => by simpa using he)
    have ob := ho.at (i := i) (o := o) (by simp [hin, hoi])
    rw [Nat.zero_add] at ob
    have hv' : ∀ u, u = V.getD i undef → ∀ j, j < n → (L.setIfInBounds i true).getD j false = true → upd v i u j = V.getD j undef := fun u hu j hj hl => by
      by_cases hji : j = i
      · subst hji
        rw [show upd v j u j = u by simp [upd], hu]
      · rw [show upd v i u j = v j by simp [upd, hji]]
        rw [getD_set_ne false (Ne.symm hji)] at hl
        exact hv j hj hl
    unfold Obl5 at ob
    split at ob
    · rename_i hno
      have hlo : lo.getD i 0 ≤ s := by
        have hat := loOk_at hlok (i := i) (o := o) (by simp [hin, hoi])
        rw [Nat.zero_add] at hat
        rcases hat with h | ⟨m, h, _⟩ | ⟨_, e, he, hb, h⟩
        · omega
        · rw [hno] at h; cases h
        · have hbk : edgesBack 0 ops.toList = true := by
            simp only [confOk, Bool.and_eq_true] at hok
            exact hok.1.1.1.1.2
          have := edgesBack_spec hbk (i := i) (o := o) (by simpa using hoi) e he hb
          have := hls e.on (by omega) (hdep e he hb)
          omega
      refine ob v w K s hlo hI hdv (Lib.hid fun u w' hB hu => HK.out u w' ⟨hv' u hu, s, fun k m hk => ?_, hsl, fun j hj hl => ?_, hIb s w w' hI hB⟩)
      · rw [getD_set_ne false (fun e => idx_none hno k (by rw [hk, e]))]
        exact hs k m hk
      · by_cases hji : j = i
        · rw [hji]; exact hlo
        · rw [getD_set_ne false (Ne.symm hji)] at hl
          exact hls j hj hl
    · rename_i k0 hsome
      have hk0 := idx_some hsome
      have hkl : k0 < ms.length := (List.getElem?_eq_some_iff.1 hk0).1
      have hsk : s = k0 := by
        have h1 : ¬ k0 < s := fun h => by
          have := (hs k0 i hk0).2 h
          rw [hif] at this
          cases this
        match k0, hk0, h1 with
        | 0, _, h1 => omega
        | j + 1, hk0, h1 =>
          obtain ⟨a, ha⟩ : ∃ a, ms[j]? = some a := ⟨_, List.getElem?_eq_getElem (by have := (List.getElem?_eq_some_iff.1 hk0).1; omega)⟩
          obtain ⟨o', ho', e, he, hb, hea⟩ := chainMs_at hch ha hk0
          rw [hoi] at ho'
          cases ho'
          have h2 := hdep e he hb
          rw [hea] at h2
          have := (hs j a ha).1 h2
          omega
      subst hsk
      refine ob v w K hI hdv (Lib.hid fun u w' hI' hu => HK.out u w' ⟨hv' u hu, s + 1, fun k m hk => ?_, by omega, fun j hj hl => ?_, hI'⟩)
      · by_cases e : m = i
        · subst e
          have := incMs_inj hinc hk hk0
          subst this
          rw [hit]
          simp
        · rw [getD_set_ne false (Ne.symm e), hs k m hk]
          have : k ≠ s := fun h => by
            rw [h, hk0] at hk
            cases hk
            exact e rfl
          omega
      · by_cases hji : j = i
        · subst hji
          have hat := loOk_at hlok (i := j) (o := o) (by simp [hin, hoi])
          rw [Nat.zero_add] at hat
          rcases hat with h | ⟨m, h, h'⟩ | ⟨h, _⟩
          · omega
          · rw [hsome] at h; cases h; exact h'
          · rw [hsome] at h; cases h
        · rw [getD_set_ne false (Ne.symm hji)] at hl
          have := hls j hj hl
          omega
  · intro v
    refine ⟨fun j hj hl => (by rw [getD_replicate_false] at hl; cases hl), 0, fun k m hk => ?_, Nat.zero_le _, fun j hj hl => (by rw [getD_replicate_false] at hl; cases hl), h0⟩
    rw [getD_replicate_false]
    simp
  · intro v w ⟨hv, s, hs, hsl, _, hI⟩
    have hall : ∀ j, j < n → (headListed n (ops.size - n)).getD j false = true := fun j hj => by
      simp only [headListed]
      rw [Array.getD_eq_getD_getElem?, List.getElem?_toArray, List.getElem?_append_left (by simpa using hj)]
      simp [hj]
    have hsn : s = ms.length := by
      rcases Nat.lt_or_ge s ms.length with h | h
      · have h1 : ms[s]? = some ms[s] := List.getElem?_eq_getElem h
        have h2 := (hs s _ h1).1 (hall _ (incMs_lt hinc h1).1)
        omega
      · omega
    subst hsn
    exact hend v w hI (fun j hj => hv j hj (hall j hj))
theorem conf5Rules : (∀ (V : List Value) (v : Nat → Value), DepsV V v [] = True) ∧ (∀ (V : List Value) (v : Nat → Value) (e : Edge) (r : List Edge), DepsV V v (e :: r) = ((Region.binds .any e = true → v e.on = V.getD e.on undef) ∧ DepsV V v r)) ∧ (∀ (x : Value) l d, (x :: l).getD 0 d = x) ∧ (∀ (x : Value) l n d, (x :: l).getD (n + 1) d = l.getD n d) :=
  ⟨fun _ _ => rfl, fun _ _ _ _ => rfl, fun _ _ _ => rfl, fun _ _ _ _ => rfl⟩
end Go.Rv
namespace Go.Rv
open Go.RowKit
set_option linter.unusedVariables false
/-- a slot's fact, that stands while none but the blocks of S are turned -/
structure FactS (S : List Nat) where
  p : Value → World → Prop
  st : ∀ u w w', p u w → Only S w w' → p u w'
def FactS.eq {S : List Nat} (x : Value) : FactS S := ⟨fun u _ => u = x, fun _ _ _ h _ => h⟩
def FactS.rowOf {S : List Nat} (B : Nat) (C : Array Value) (t : TypeId) (hS : ∀ x ∈ S, x < B) : FactS S := ⟨fun u w => ∃ g, u = .pointer (some ⟨g, 0, none⟩) ∧ B ≤ g ∧ w.heap[g]? = some (.cells C t (0, 0)), fun u w w' ⟨g, e, hb, h⟩ hO => ⟨g, e, hb, (hO.block g (Array.getElem?_eq_some_iff.1 h).1 (fun hm => by have := hS _ hm; omega)).trans h⟩⟩
def fpS {S : List Nat} (F : List (FactS S)) (j : Nat) (u : Value) (w : World) : Prop := (F.getD j (FactS.eq undef)).p u w
theorem fpS.st {S : List Nat} {F : List (FactS S)} {j : Nat} {u : Value} {w w' : World} (h : fpS F j u w) (hO : Only S w w') : fpS F j u w' := (F.getD j (FactS.eq undef)).st u w w' h hO
def DepsS {S : List Nat} (F : List (FactS S)) (v : Nat → Value) (w : World) : List Edge → Prop
  | [] => True
  | e :: r => (Region.binds .any e = true → fpS F e.on (v e.on) w) ∧ DepsS F v w r
def Obl6 {S : List Nat} (P : Program) (ops : Array Oper) (Q : Exit → Act → World → Prop) (A : (Nat → Value) → Act) (F : List (FactS S)) (ms lo : List Nat) (I : Nat → World → Prop) (i : Nat) (o : Oper) : Prop :=
  match ms.idxOf? i with
  | none => ∀ (v : Nat → Value) (w : World) (K : Act → World → Prop) (s : Nat), lo.getD i 0 ≤ s → I s w → DepsS F v w o.after.toList →
      Hid (∀ u w', Below w.heap.size w w' → fpS F i u w' → K ((A v).put o.dst u) w') → wpList P ops (Exit.then K Q) [o] (A v) w
  | some k => ∀ (v : Nat → Value) (w : World) (K : Act → World → Prop), I k w → DepsS F v w o.after.toList →
      Hid (∀ u w', I (k + 1) w' → Only S w w' → fpS F i u w' → K ((A v).put o.dst u) w') → wpList P ops (Exit.then K Q) [o] (A v) w
def Obls6 {S : List Nat} (P : Program) (ops : Array Oper) (Q : Exit → Act → World → Prop) (A : (Nat → Value) → Act) (F : List (FactS S)) (ms lo : List Nat) (I : Nat → World → Prop) : Nat → List Oper → Prop
  | _, [] => True
  | i, o :: r => Obl6 P ops Q A F ms lo I i o ∧ Obls6 P ops Q A F ms lo I (i + 1) r
theorem Obls6.at {S : List Nat} {P : Program} {ops : Array Oper} {Q : Exit → Act → World → Prop} {A : (Nat → Value) → Act} {F : List (FactS S)} {ms lo : List Nat} {I : Nat → World → Prop} : ∀ {k : Nat} {l : List Oper}, Obls6 P ops Q A F ms lo I k l → ∀ {i : Nat} {o : Oper}, l[i]? = some o → Obl6 P ops Q A F ms lo I (k + i) o
  | _, [], _, _, _, h => by simp at h
  | k, _ :: r, h, 0, _, ho => by simp at ho; subst ho; exact h.1
  | k, _ :: r, h, i + 1, _, ho => by
    have := Obls6.at h.2 (i := i) (by simpa using ho)
    rwa [show k + 1 + i = k + (i + 1) by omega] at this
theorem wp_region_stage6 {S : List Nat} {P : Program} {ops : Array Oper} {Q : Exit → Act → World → Prop} {a0 : Act} {w0 : World} {id : Nat} (n : Nat) (F : List (FactS S)) (ms lo : List Nat) (I : Nat → World → Prop) (A : (Nat → Value) → Act) (hm : P.follows .mixedOrders = true) (hok : confOk ops n = true) (hms : (chainMs ops ms && incMs n ms && loOk ms lo 0 (ops.toList.take n)) = true)
    (hA : ∀ v, putAll v 0 (ops.toList.take n) a0 = A v) (h0 : I 0 w0.drew) (hIb : ∀ s w w', I s w → Below w.heap.size w w' → I s w') (ho : Obls6 P ops Q A F ms lo I 0 (ops.toList.take n))
    (hend : ∀ v w, I ms.length w → (∀ j, j < n → fpS F j (v j) w) → wpList P ops Q (ops.toList.drop n) (A v) w) : (Code.region id ops true).wp P Q a0 w0 := by
  rw [Bool.and_eq_true, Bool.and_eq_true] at hms
  obtain ⟨⟨hch, hinc⟩, hlok⟩ := hms
  refine wp_region_conf3 n (fun L v w => (∀ j, j < n → L.getD j false = true → fpS F j (v j) w) ∧ ∃ s, (∀ k m, ms[k]? = some m → (L.getD m false = true ↔ k < s)) ∧ s ≤ ms.length ∧ (∀ j, j < n → L.getD j false = true → lo.getD j 0 ≤ s) ∧ I s w) A hm hok hA ?_ ?_ ?_
  · intro i o hin hoi L v w K hui hdep ⟨hv, s, hs, hsl, hls, hI⟩ HK
    have hilt : i < L.size := by
      rcases Nat.lt_or_ge i L.size with h | h
      · exact h
      · simp [Array.getElem?_eq_none h] at hui
    have hif : L.getD i false = false := by simp [hilt] at hui ⊢; exact hui
    have hit : (L.setIfInBounds i true).getD i false = true := by simp [hilt]
    have hdv : ∀ l : List Edge, (∀ e ∈ l, e ∈ o.after) → DepsS F v w l := by
      intro l
      induction l with
      | nil => intro _; exact trivial
      | cons e r ihl =>
        intro hl
        refine ⟨fun hb => hv e.on ?_ (hdep e (hl e (by simp)) hb), ihl fun x hx => hl x (by simp [hx])⟩
        have hbk : edgesBack 0 ops.toList = true := by
          simp only [confOk, Bool.and_eq_true] at hok
          exact hok.1.1.1.1.2
        have := edgesBack_spec hbk (i := i) (o := o) (by simpa using hoi) e (hl e (by simp)) hb
        omega
    have hdv := hdv o.after.toList (fun e he => by simpa using he)
    have ob := ho.at (i := i) (o := o) (by simp [hin, hoi])
    rw [Nat.zero_add] at ob
    have hv' : ∀ u w', Only S w w' → fpS F i u w' → ∀ j, j < n → (L.setIfInBounds i true).getD j false = true → fpS F j (upd v i u j) w' := fun u w' hO hu j hj hl => by
      by_cases hji : j = i
      · subst hji
        rw [show upd v j u j = u by simp [upd]]
        exact hu
      · rw [show upd v i u j = v j by simp [upd, hji]]
        rw [getD_set_ne false (Ne.symm hji)] at hl
        exact (hv j hj hl).st hO
    unfold Obl6 at ob
    split at ob
    · rename_i hno
      have hlo : lo.getD i 0 ≤ s := by
        have hat := loOk_at hlok (i := i) (o := o) (by simp [hin, hoi])
        rw [Nat.zero_add] at hat
        rcases hat with h | ⟨m, h, _⟩ | ⟨_, e, he, hb, h⟩
        · omega
        · rw [hno] at h; cases h
        · have hbk : edgesBack 0 ops.toList = true := by
            simp only [confOk, Bool.and_eq_true] at hok
            exact hok.1.1.1.1.2
          have := edgesBack_spec hbk (i := i) (o := o) (by simpa using hoi) e he hb
          have := hls e.on (by omega) (hdep e he hb)
          omega
      refine ob v w K s hlo hI hdv (Lib.hid fun u w' hB hu => HK.out u w' ⟨hv' u w' (Only.of_below hB) hu, s, fun k m hk => ?_, hsl, fun j hj hl => ?_, hIb s w w' hI hB⟩)
      · rw [getD_set_ne false (fun e => idx_none hno k (by rw [hk, e]))]
        exact hs k m hk
      · by_cases hji : j = i
        · rw [hji]; exact hlo
        · rw [getD_set_ne false (Ne.symm hji)] at hl
          exact hls j hj hl
    · rename_i k0 hsome
      have hk0 := idx_some hsome
      have hkl : k0 < ms.length := (List.getElem?_eq_some_iff.1 hk0).1
      have hsk : s = k0 := by
        have h1 : ¬ k0 < s := fun h => by
          have := (hs k0 i hk0).2 h
          rw [hif] at this
          cases this
        match k0, hk0, h1 with
        | 0, _, h1 => omega
        | j + 1, hk0, h1 =>
          obtain ⟨a, ha⟩ : ∃ a, ms[j]? = some a := ⟨_, List.getElem?_eq_getElem (by have := (List.getElem?_eq_some_iff.1 hk0).1; omega)⟩
          obtain ⟨o', ho', e, he, hb, hea⟩ := chainMs_at hch ha hk0
          rw [hoi] at ho'
          cases ho'
          have h2 := hdep e he hb
          rw [hea] at h2
          have := (hs j a ha).1 h2
          omega
      subst hsk
      refine ob v w K hI hdv (Lib.hid fun u w' hI' hO hu => HK.out u w' ⟨hv' u w' hO hu, s + 1, fun k m hk => ?_, by omega, fun j hj hl => ?_, hI'⟩)
      · by_cases e : m = i
        · subst e
          have := incMs_inj hinc hk hk0
          subst this
          rw [hit]
          simp
        · rw [getD_set_ne false (Ne.symm e), hs k m hk]
          have : k ≠ s := fun h => by
            rw [h, hk0] at hk
            cases hk
            exact e rfl
          omega
      · by_cases hji : j = i
        · subst hji
          have hat := loOk_at hlok (i := j) (o := o) (by simp [hin, hoi])
          rw [Nat.zero_add] at hat
          rcases hat with h | ⟨m, h, h'⟩ | ⟨h, _⟩
          · omega
          · rw [hsome] at h; cases h; exact h'
          · rw [hsome] at h; cases h
        · rw [getD_set_ne false (Ne.symm hji)] at hl
          have := hls j hj hl
          omega
  · intro v
    refine ⟨fun j hj hl => (by rw [getD_replicate_false] at hl; cases hl), 0, fun k m hk => ?_, Nat.zero_le _, fun j hj hl => (by rw [getD_replicate_false] at hl; cases hl), h0⟩
    rw [getD_replicate_false]
    simp
  · intro v w ⟨hv, s, hs, hsl, _, hI⟩
    have hall : ∀ j, j < n → (headListed n (ops.size - n)).getD j false = true := fun j hj => by
      simp only [headListed]
      rw [Array.getD_eq_getD_getElem?, List.getElem?_toArray, List.getElem?_append_left (by simpa using hj)]
      simp [hj]
    have hsn : s = ms.length := by
      rcases Nat.lt_or_ge s ms.length with h | h
      · have h1 : ms[s]? = some ms[s] := List.getElem?_eq_getElem h
        have h2 := (hs s _ h1).1 (hall _ (incMs_lt hinc h1).1)
        omega
      · omega
    subst hsn
    exact hend v w hI (fun j hj => hv j hj (hall j hj))
theorem conf6Rules {S : List Nat} : (∀ (F : List (FactS S)) (v : Nat → Value) (w : World), DepsS F v w [] = True) ∧ (∀ (F : List (FactS S)) (v : Nat → Value) (w : World) (e : Edge) (r : List Edge), DepsS F v w (e :: r) = ((Region.binds .any e = true → fpS F e.on (v e.on) w) ∧ DepsS F v w r)) ∧ (∀ (x : FactS S) l u w, fpS (x :: l) 0 u w = x.p u w) ∧ (∀ (x : FactS S) l n u w, fpS (x :: l) (n + 1) u w = fpS l n u w) ∧ (∀ (x u : Value) (w : World), (FactS.eq (S := S) x).p u w = (u = x)) :=
  ⟨fun _ _ _ => rfl, fun _ _ _ _ _ => rfl, fun _ _ _ _ => rfl, fun _ _ _ _ _ => rfl, fun _ _ _ => rfl⟩
end Go.Rv
namespace Go.Rv
open Go.RowKit
set_option linter.unusedVariables false
/-- the edges' facts, but for those to the operation that makes the block -/
def Deps7 (ia : Nat) (V : List Value) (v : Nat → Value) : List Edge → Prop
  | [] => True
  | e :: r => (Region.binds .any e = true → cond (e.on == ia) True (v e.on = V.getD e.on undef)) ∧ Deps7 ia V v r
def Obl7 (P : Program) (ops : Array Oper) (Q : Exit → Act → World → Prop) (A : (Nat → Value) → Act) (V : List Value) (ms lo : List Nat) (I : Nat → World → Prop) (S : List Nat) (B ia is : Nat) (Z X : Array Value) (t : TypeId) (i : Nat) (o : Oper) : Prop :=
  cond (i == ia) (∀ (v : Nat → Value) (w : World) (K : Act → World → Prop) (s : Nat), I s w → Deps7 ia V v o.after.toList →
      Hid (∀ g w', B ≤ g → Below w.heap.size w w' → w'.heap[g]? = some (.cells Z t (0, 0)) → K ((A v).put o.dst (.pointer (some ⟨g, 0, none⟩))) w') → wpList P ops (Exit.then K Q) [o] (A v) w)
    (cond (i == is) (∀ (v : Nat → Value) (w : World) (K : Act → World → Prop) (s g : Nat), lo.getD i 0 ≤ s → I s w → B ≤ g → w.heap[g]? = some (.cells Z t (0, 0)) → v ia = .pointer (some ⟨g, 0, none⟩) → Deps7 ia V v o.after.toList →
      Hid (∀ u w', w' = w.setRow g X → u = V.getD i undef → K ((A v).put o.dst u) w') → wpList P ops (Exit.then K Q) [o] (A v) w)
    (match ms.idxOf? i with
    | none => ∀ (v : Nat → Value) (w : World) (K : Act → World → Prop) (s : Nat), lo.getD i 0 ≤ s → I s w → Deps7 ia V v o.after.toList →
        Hid (∀ u w', Below w.heap.size w w' → u = V.getD i undef → K ((A v).put o.dst u) w') → wpList P ops (Exit.then K Q) [o] (A v) w
    | some k => ∀ (v : Nat → Value) (w : World) (K : Act → World → Prop), I k w → Deps7 ia V v o.after.toList →
        Hid (∀ u w', I (k + 1) w' → Only S w w' → u = V.getD i undef → K ((A v).put o.dst u) w') → wpList P ops (Exit.then K Q) [o] (A v) w))
def Obls7 (P : Program) (ops : Array Oper) (Q : Exit → Act → World → Prop) (A : (Nat → Value) → Act) (V : List Value) (ms lo : List Nat) (I : Nat → World → Prop) (S : List Nat) (B ia is : Nat) (Z X : Array Value) (t : TypeId) : Nat → List Oper → Prop
  | _, [] => True
  | i, o :: r => Obl7 P ops Q A V ms lo I S B ia is Z X t i o ∧ Obls7 P ops Q A V ms lo I S B ia is Z X t (i + 1) r
theorem Obls7.at {P : Program} {ops : Array Oper} {Q : Exit → Act → World → Prop} {A : (Nat → Value) → Act} {V : List Value} {ms lo : List Nat} {I : Nat → World → Prop} {S : List Nat} {B ia is : Nat} {Z X : Array Value} {t : TypeId} : ∀ {k : Nat} {l : List Oper}, Obls7 P ops Q A V ms lo I S B ia is Z X t k l → ∀ {i : Nat} {o : Oper}, l[i]? = some o → Obl7 P ops Q A V ms lo I S B ia is Z X t (k + i) o
  | _, [], _, _, _, h => by simp at h
  | k, _ :: r, h, 0, _, ho => by simp at ho; subst ho; exact h.1
  | k, _ :: r, h, i + 1, _, ho => by
    have := Obls7.at h.2 (i := i) (by simpa using ho)
    rwa [show k + 1 + i = k + (i + 1) by omega] at this
/-- the storing operation waits for the one that makes the block; neither is a stage -/
def storeOk (ops : Array Oper) (ms : List Nat) (n ia is : Nat) : Bool :=
  decide (ia < n) && decide (is < n) && !(ia == is) && !ms.contains ia && !ms.contains is && (match ops[is]? with | some o => o.after.any fun e => Region.binds .any e && e.on == ia | none => false)
theorem wp_region_stage7 {P : Program} {ops : Array Oper} {Q : Exit → Act → World → Prop} {a0 : Act} {w0 : World} {id : Nat} (n : Nat) (V : List Value) (ms lo : List Nat) (I : Nat → World → Prop) (S : List Nat) (B ia is : Nat) (Z X : Array Value) (t : TypeId) (hSB : ∀ x ∈ S, x < B) (A : (Nat → Value) → Act) (hm : P.follows .mixedOrders = true) (hok : confOk ops n = true) (hms : (chainMs ops ms && incMs n ms && loOk ms lo 0 (ops.toList.take n)) = true) (hso : storeOk ops ms n ia is = true)
    (hA : ∀ v, putAll v 0 (ops.toList.take n) a0 = A v) (h0 : I 0 w0.drew) (hIb : ∀ s w w', I s w → Below w.heap.size w w' → I s w') (hIs : ∀ s w g, I s w → B ≤ g → I s (w.setRow g X)) (ho : Obls7 P ops Q A V ms lo I S B ia is Z X t 0 (ops.toList.take n))
    (hend : ∀ v w g, I ms.length w → (∀ j, j < n → (j == ia) = false → v j = V.getD j undef) → v ia = .pointer (some ⟨g, 0, none⟩) → B ≤ g → w.heap[g]? = some (.cells X t (0, 0)) → wpList P ops Q (ops.toList.drop n) (A v) w) : (Code.region id ops true).wp P Q a0 w0 := by
  rw [Bool.and_eq_true, Bool.and_eq_true] at hms
  obtain ⟨⟨hch, hinc⟩, hlok⟩ := hms
  simp only [storeOk, Bool.and_eq_true, decide_eq_true_eq, Bool.not_eq_true', beq_eq_false_iff_ne] at hso
  obtain ⟨⟨⟨⟨⟨hia, his⟩, hne⟩, hma⟩, hmb⟩, hsd⟩ := hso
  refine wp_region_conf3 n (fun L v w => (∀ j, j < n → j ≠ ia → L.getD j false = true → v j = V.getD j undef) ∧ (∃ s, (∀ k m, ms[k]? = some m → (L.getD m false = true ↔ k < s)) ∧ s ≤ ms.length ∧ (∀ j, j < n → L.getD j false = true → lo.getD j 0 ≤ s) ∧ I s w) ∧ (L.getD is false = true → L.getD ia false = true) ∧ (L.getD ia false = true → ∃ g, v ia = .pointer (some ⟨g, 0, none⟩) ∧ B ≤ g ∧ w.heap[g]? = some (.cells (cond (L.getD is false) X Z) t (0, 0)))) A hm hok hA ?_ ?_ ?_
  · intro i o hin hoi L v w K hui hdep ⟨hv, ⟨s, hs, hsl, hls, hI⟩, hsa, hrow⟩ HK
    have hilt : i < L.size := by
      rcases Nat.lt_or_ge i L.size with h | h
      · exact h
      · simp [Array.getElem?_eq_none h] at hui
    have hif : L.getD i false = false := by simp [hilt] at hui ⊢; exact hui
    have hit : (L.setIfInBounds i true).getD i false = true := by simp [hilt]
    have hbk : edgesBack 0 ops.toList = true := by
      simp only [confOk, Bool.and_eq_true] at hok
      exact hok.1.1.1.1.2
    have hdv : ∀ l : List Edge, (∀ e ∈ l, e ∈ o.after) → Deps7 ia V v l := by
      intro l
      induction l with
      | nil => intro _; exact trivial
      | cons e r ihl =>
        intro hl
        refine ⟨fun hb => ?_, ihl fun x hx => hl x (by simp [hx])⟩
        cases hea : e.on == ia
        · have := edgesBack_spec hbk (i := i) (o := o) (by simpa using hoi) e (hl e (by simp)) hb
          exact hv e.on (by omega) (by simpa using hea) (hdep e (hl e (by simp)) hb)
        · trivial
    have hdv := hdv o.after.toList (fun e he => by simpa using he)
    have ob := ho.at (i := i) (o := o) (by simp [hin, hoi])
    rw [Nat.zero_add] at ob
    have hv' : ∀ u, (i ≠ ia → u = V.getD i undef) → ∀ j, j < n → j ≠ ia → (L.setIfInBounds i true).getD j false = true → upd v i u j = V.getD j undef := fun u hu j hj hja hl => by
      by_cases hji : j = i
      · subst hji
        rw [show upd v j u j = u by simp [upd], hu hja]
      · rw [show upd v i u j = v j by simp [upd, hji]]
        rw [getD_set_ne false (Ne.symm hji)] at hl
        exact hv j hj hja hl
    have hnost : ∀ j, ms.contains j = false → ∀ k : Nat, ms[k]? ≠ some j := fun j hj k hk => by
      have := List.mem_of_getElem? hk
      rw [List.contains_eq_mem] at hj
      simp [this] at hj
    have hst : ms.contains i = false → lo.getD i 0 ≤ s → ∃ s, (∀ k m, ms[k]? = some m → ((L.setIfInBounds i true).getD m false = true ↔ k < s)) ∧ s ≤ ms.length ∧ (∀ j, j < n → (L.setIfInBounds i true).getD j false = true → lo.getD j 0 ≤ s) ∧ I s w := fun hc hlo => ⟨s, fun k m hk => by
      rw [getD_set_ne false (fun e => hnost i hc k (by rw [hk, e]))]
      exact hs k m hk, hsl, fun j hj hl => by
      by_cases hji : j = i
      · rw [hji]; exact hlo
      · rw [getD_set_ne false (Ne.symm hji)] at hl
        exact hls j hj hl, hI⟩
    have hloi : ms.contains i = false → lo.getD i 0 ≤ s := fun hc => by
      have hat := loOk_at hlok (i := i) (o := o) (by simp [hin, hoi])
      rw [Nat.zero_add] at hat
      rcases hat with h | ⟨m, h, _⟩ | ⟨_, e, he, hb, h⟩
      · omega
      · exact absurd (idx_some h) (hnost i hc m)
      · have := edgesBack_spec hbk (i := i) (o := o) (by simpa using hoi) e he hb
        have := hls e.on (by omega) (hdep e he hb)
        omega
    unfold Obl7 at ob
    cases hia' : i == ia
    · rw [hia'] at ob
      have hia2 : i ≠ ia := by simpa using hia'
      cases his' : i == is
      · rw [his'] at ob
        have his2 : i ≠ is := by simpa using his'
        have hrow' : ∀ (w' : World) (u : Value), (∀ g : Nat, B ≤ g → g < w.heap.size → w'.heap[g]? = w.heap[g]?) → ((L.setIfInBounds i true).getD is false = true → (L.setIfInBounds i true).getD ia false = true) ∧ ((L.setIfInBounds i true).getD ia false = true → ∃ g, upd v i u ia = .pointer (some ⟨g, 0, none⟩) ∧ B ≤ g ∧ w'.heap[g]? = some (.cells (cond ((L.setIfInBounds i true).getD is false) X Z) t (0, 0))) := by
          intro w' u hw
          rw [getD_set_ne false his2, getD_set_ne false hia2]
          refine ⟨hsa, fun h => ?_⟩
          obtain ⟨g, h1, h2, h3⟩ := hrow h
          exact ⟨g, by rw [show upd v i u ia = v ia by simp [upd, Ne.symm hia2]]; exact h1, h2, (hw g h2 (Array.getElem?_eq_some_iff.1 h3).1).trans h3⟩
        simp only [cond_false] at ob
        split at ob
        · rename_i hno
          have hc : ms.contains i = false := by
            rw [List.contains_eq_mem]
            simpa using (List.idxOf?_eq_none_iff.1 hno)
          refine ob v w K s (hloi hc) hI hdv (Lib.hid fun u w' hB hu => ?_)
          obtain ⟨s', a1, a2, a3, a4⟩ := hst hc (hloi hc)
          exact HK.out u w' ⟨hv' u (fun _ => hu), ⟨s', a1, a2, a3, hIb s' w w' a4 hB⟩, hrow' w' u (fun g _ hg => hB.block g hg)⟩
        · rename_i k0 hsome
          have hk0 := idx_some hsome
          have hkl : k0 < ms.length := (List.getElem?_eq_some_iff.1 hk0).1
          have hsk : s = k0 := by
            have h1 : ¬ k0 < s := fun h => by
              have := (hs k0 i hk0).2 h
              rw [hif] at this
              cases this
            match k0, hk0, h1 with
            | 0, _, h1 => omega
            | j + 1, hk0, h1 =>
              obtain ⟨a, ha⟩ : ∃ a, ms[j]? = some a := ⟨_, List.getElem?_eq_getElem (by have := (List.getElem?_eq_some_iff.1 hk0).1; omega)⟩
              obtain ⟨o', ho', e, he, hb, hea⟩ := chainMs_at hch ha hk0
              rw [hoi] at ho'
              cases ho'
              have h2 := hdep e he hb
              rw [hea] at h2
              have := (hs j a ha).1 h2
              omega
          subst hsk
          refine ob v w K hI hdv (Lib.hid fun u w' hI' hO hu => HK.out u w' ⟨hv' u (fun _ => hu), ⟨s + 1, fun k m hk => ?_, by omega, fun j hj hl => ?_, hI'⟩, hrow' w' u (fun g hg hgl => hO.block g hgl (fun hm => by have := hSB _ hm; omega))⟩)
          · by_cases e : m = i
            · subst e
              have := incMs_inj hinc hk hk0
              subst this
              rw [hit]
              simp
            · rw [getD_set_ne false (Ne.symm e), hs k m hk]
              have : k ≠ s := fun h => by
                rw [h, hk0] at hk
                cases hk
                exact e rfl
              omega
          · by_cases hji : j = i
            · subst hji
              have hat := loOk_at hlok (i := j) (o := o) (by simp [hin, hoi])
              rw [Nat.zero_add] at hat
              rcases hat with h | ⟨m, h, h'⟩ | ⟨h, _⟩
              · omega
              · rw [hsome] at h; cases h; exact h'
              · rw [hsome] at h; cases h
            · rw [getD_set_ne false (Ne.symm hji)] at hl
              have := hls j hj hl
              omega
      · rw [his'] at ob
        have his2 : i = is := by simpa using his'
        subst his2
        simp only [cond_false, cond_true] at ob
        have hLa : L.getD ia false = true := by
          rw [hoi] at hsd
          obtain ⟨e, he, h3⟩ := Array.any_eq_true.1 hsd
          rw [Bool.and_eq_true, beq_iff_eq] at h3
          have := hdep _ (Array.getElem_mem he) h3.1
          rwa [h3.2] at this
        obtain ⟨g, h1, h2, h3⟩ := hrow hLa
        rw [hif] at h3
        refine ob v w K s g (hloi hmb) hI h2 h3 h1 hdv (Lib.hid fun u w' hw hu => ?_)
        obtain ⟨s', a1, a2, a3, a4⟩ := hst hmb (hloi hmb)
        subst hw
        refine HK.out u _ ⟨hv' u (fun _ => hu), ⟨s', a1, a2, a3, hIs s' w g a4 h2⟩, ?_, ?_⟩
        · intro _
          rw [getD_set_ne false hia2]
          exact hLa
        · intro _
          rw [hit]
          exact ⟨g, by rw [show upd v i u ia = v ia by simp [upd, Ne.symm hia2]]; exact h1, h2, setRow_heap w g Z X t _ h3⟩
    · rw [hia'] at ob
      have hia2 : i = ia := by simpa using hia'
      subst hia2
      simp only [cond_true] at ob
      have hLs : L.getD is false = false := by
        cases h : L.getD is false
        · rfl
        · have := hsa h
          rw [hif] at this
          cases this
      refine ob v w K s hI hdv (Lib.hid fun g w' hg hB hr => ?_)
      obtain ⟨s', a1, a2, a3, a4⟩ := hst hma (hloi hma)
      refine HK.out _ w' ⟨hv' _ (fun h => absurd rfl h), ⟨s', a1, a2, a3, hIb s' w w' a4 hB⟩, ?_, ?_⟩
      · rw [getD_set_ne false hne, hLs]
        intro h
        cases h
      · intro _
        rw [getD_set_ne false hne, hLs]
        exact ⟨g, by simp [upd], hg, hr⟩
  · intro v
    refine ⟨fun j hj _ hl => (by rw [getD_replicate_false] at hl; cases hl), ⟨0, fun k m hk => ?_, Nat.zero_le _, fun j hj hl => (by rw [getD_replicate_false] at hl; cases hl), h0⟩, fun hl => (by rw [getD_replicate_false] at hl; cases hl), fun hl => (by rw [getD_replicate_false] at hl; cases hl)⟩
    rw [getD_replicate_false]
    simp
  · intro v w ⟨hv, ⟨s, hs, hsl, _, hI⟩, hsa, hrow⟩
    have hall : ∀ j, j < n → (headListed n (ops.size - n)).getD j false = true := fun j hj => by
      simp only [headListed]
      rw [Array.getD_eq_getD_getElem?, List.getElem?_toArray, List.getElem?_append_left (by simpa using hj)]
      simp [hj]
    have hsn : s = ms.length := by
      rcases Nat.lt_or_ge s ms.length with h | h
      · have h1 : ms[s]? = some ms[s] := List.getElem?_eq_getElem h
        have h2 := (hs s _ h1).1 (hall _ (incMs_lt hinc h1).1)
        omega
      · omega
    subst hsn
    obtain ⟨g, h1, h2, h3⟩ := hrow (hall ia hia)
    rw [hall is his] at h3
    exact hend v w g hI (fun j hj hja => hv j hj (by simpa using hja) (hall j hj)) h1 h2 h3
theorem cond7 : (∀ n : Nat, (n == n) = true) ∧ (∀ (p q : Prop), (cond true p q) = p) ∧ (∀ (p q : Prop), (cond false p q) = q) ∧ (∀ n : Nat, (n + 1 == 0) = false) ∧ (∀ n : Nat, (0 == n + 1) = false) ∧ (∀ n m : Nat, (n + 1 == m + 1) = (n == m)) ∧
    (∀ n x, Region.binds .any { on := n, ground := .gcOnly x } = false) ∧ (∀ n x, Region.binds .any { on := n, ground := .textOnly x } = false) ∧ (∀ p : Prop, (false = true → p) = True) ∧ (∀ p : Prop, (True ∧ p) = p) ∧ (∀ p : Prop, (p → True) = True) :=
  ⟨fun n => by simp, fun _ _ => rfl, fun _ _ => rfl, fun n => by simp, fun n => by simp, fun n m => by simp, fun _ _ => rfl, fun _ _ => rfl, fun p => by simp, fun p => by simp, fun p => by simp⟩
theorem conf7Rules : (∀ (ia : Nat) (V : List Value) (v : Nat → Value), Deps7 ia V v [] = True) ∧ (∀ (ia : Nat) (V : List Value) (v : Nat → Value) (e : Edge) (r : List Edge), Deps7 ia V v (e :: r) = ((Region.binds .any e = true → cond (e.on == ia) True (v e.on = V.getD e.on undef)) ∧ Deps7 ia V v r)) ∧ (∀ (x : Value) l d, (x :: l).getD 0 d = x) ∧ (∀ (x : Value) l n d, (x :: l).getD (n + 1) d = l.getD n d) :=
  ⟨fun _ _ _ => rfl, fun _ _ _ _ _ => rfl, fun _ _ _ => rfl, fun _ _ _ _ => rfl⟩
end Go.Rv
