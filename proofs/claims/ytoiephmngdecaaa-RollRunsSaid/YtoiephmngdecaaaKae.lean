/- Proved here: Laws over any program: a range over a function whose iterator may turn channels (their counters alone) and whatever else of its own that is no cells; the round's word is which blocks it may turn; Laws over any program: whole rows loaded, and compared, where a guard asks for it (or where there is none); the contract of the entry of a body (Of). -/
import Derived.RangeFuncNested
import Derived.RangeFuncBound
import Derived.RangeFuncCalls
import Derived.RangeFuncLeaves
import Derived.Shelf.Abstract
import Derived.Shelf.RegionOpen
import Derived.OwnWalkIn
import Derived.TacticsInMore
import Derived.LoopNIn
import Derived.LoopIn
import Derived.Laws.StructEq
import Derived.Laws.Rows
import Derived.Test.YtoiephmngdecaaaKaa
import Derived.Test.YtoiephmngdecaaaKad
namespace Go.Rv
open Go.RowKit
set_option linter.unusedVariables false
/-- new blocks; of those that lay from B on whatever is no cells may have turned; the channels of a list keep what lies in them; all else is as it was -/
structure Turn (B : Nat) (C : List Nat) (A W : World) : Prop where
  os : W.os = A.os
  tape : W.tape = A.tape
  output : W.output = A.output
  size : A.heap.size ≤ W.heap.size
  block : ∀ (k : Nat) (o : Obj), A.heap[k]? = some o → k ∉ C → (k < B ∨ o.isCells = true) → W.heap[k]? = some o
  chan : ∀ k ∈ C, ∀ cap buf s r, A.heap[k]? = some (.chan cap buf false s r false) → ∃ s' r', W.heap[k]? = some (.chan cap buf false s' r' false)
theorem Turn.refl (B : Nat) (C : List Nat) (w : World) : Turn B C w w := ⟨rfl, rfl, rfl, Nat.le_refl _, fun _ _ h _ _ => h, fun _ _ _ _ s r h => ⟨s, r, h⟩⟩
theorem Turn.trans {B : Nat} {C : List Nat} {a b c : World} (h : Turn B C a b) (k : Turn B C b c) : Turn B C a c :=
  ⟨k.os.trans h.os, k.tape.trans h.tape, k.output.trans h.output, Nat.le_trans h.size k.size, fun i o hi hn hc => k.block i o (h.block i o hi hn hc) hn hc,
    fun i hi cap buf s r hh => by obtain ⟨s', r', h'⟩ := h.chan i hi cap buf s r hh; exact k.chan i hi cap buf s' r' h'⟩
theorem Turn.of_only {B : Nat} {C : List Nat} {a w : World} (h : Only [] a w) : Turn B C a w :=
  ⟨h.os, h.tape, h.output, h.size, fun k o hk _ _ => (h.block k (Array.getElem?_eq_some_iff.1 hk).1 (by simp)).trans hk,
    fun k _ cap buf s r hk => ⟨s, r, (h.block k (Array.getElem?_eq_some_iff.1 hk).1 (by simp)).trans hk⟩⟩
theorem Turn.of_below {B : Nat} {C : List Nat} {a w : World} (h : Below a.heap.size a w) : Turn B C a w := Turn.of_only (Only.of_below h)
theorem Turn.alloc {B : Nat} {C : List Nat} {a w : World} (h : Turn B C a w) (o : Obj) : Turn B C a (w.alloc o) := h.trans (Turn.of_only ((Only.refl [] w).alloc o))
theorem Turn.drew {B : Nat} {C : List Nat} {a w : World} (h : Turn B C a w) : Turn B C a w.drew := h.trans (Turn.of_only (Only.refl [] w).drew)
theorem Turn.putObj {B : Nat} {C : List Nat} {a w : World} (h : Turn B C a w) {l : Nat} {o : Obj} (hB : B ≤ l) (hl : w.heap[l]? = some o) (ho : o.isCells = false) (hC : l ∉ C) (o' : Obj) : Turn B C a (w.putObj l o') := by
  refine h.trans ⟨rfl, rfl, rfl, by simp, fun k x hk hn hc => ?_, fun k hk cap buf s r hh => ⟨s, r, ?_⟩⟩
  · rw [World.putObj_heap_other]
    · exact hk
    · intro e; subst e; rw [hl] at hk; cases hk; rcases hc with hc | hc
      · omega
      · rw [ho] at hc; cases hc
  · rw [World.putObj_heap_other]
    · exact hh
    · intro e; subst e; exact hC hk
theorem Turn.mono {B B' : Nat} {C C' : List Nat} {a w : World} (h : Turn B' C' a w) (hB : B ≤ B') (hC : ∀ k ∈ C', k ∈ C) (hCB : ∀ k ∈ C, k < B') : Turn B C a w := by
  refine ⟨h.os, h.tape, h.output, h.size, fun k o hk hn hc => h.block k o hk (fun e => hn (hC k e)) (hc.imp (fun e => Nat.lt_of_lt_of_le e hB) id), fun k hk cap buf s r hh => ?_⟩
  by_cases hm : k ∈ C'
  · exact h.chan k hm cap buf s r hh
  · exact ⟨s, r, h.block k _ hh hm (.inl (hCB k hk))⟩
theorem Only.putObj {S : List Nat} {a w : World} (h : Only S a w) {l : Nat} (hl : l ∈ S ∨ a.heap.size ≤ l) (o : Obj) : Only S a (w.putObj l o) :=
  ⟨h.os, h.tape, h.output, by simpa using h.size, fun i hi hn => by
    rw [World.putObj_heap_other]
    · exact h.block i hi hn
    · intro e; subst e; rcases hl with h1 | h1
      · exact hn h1
      · omega⟩
theorem Only.get {S : List Nat} {a w : World} (h : Only S a w) {k : Nat} {o : Obj} (hk : a.heap[k]? = some o) (hn : k ∉ S) : w.heap[k]? = some o := (h.block k (Array.getElem?_eq_some_iff.1 hk).1 hn).trans hk
theorem alloc_get (w : World) (o : Obj) (k : Nat) : (w.alloc o).heap[k]? = if k = w.heap.size then some o else w.heap[k]? := by
  show (w.heap.push o)[k]? = _; rw [Array.getElem?_push]
theorem alloc_new (w : World) (o : Obj) {k : Nat} (h : k = w.heap.size) : (w.alloc o).heap[k]? = some o := by rw [alloc_get, if_pos h]
theorem alloc_old (w : World) (o : Obj) {k : Nat} (h : k < w.heap.size) : (w.alloc o).heap[k]? = w.heap[k]? := by rw [alloc_get, if_neg (by omega)]
/-- an assertion that abides such turns -/
def AbT {β : Type} (B : Nat) (C : List Nat) (J : β → World → Prop) : Prop := ∀ s A W, J s A → Turn B C A W → J s W
theorem AbT.and {β : Type} {B : Nat} {C : List Nat} {I J : β → World → Prop} (h : AbT B C I) (k : AbT B C J) : AbT B C (fun s W => I s W ∧ J s W) := fun s A W hs ht => ⟨h s A W hs.1 ht, k s A W hs.2 ht⟩
theorem AbT.pure {β : Type} (B : Nat) (C : List Nat) (p : β → Prop) : AbT B C (fun s (_ : World) => p s) := fun _ _ _ hs _ => hs
theorem AbT.mono {β : Type} {B B' : Nat} {C C' : List Nat} {J : β → World → Prop} (h : AbT B C J) (hB : B ≤ B') (hC : ∀ k ∈ C', k ∈ C) (hCB : ∀ k ∈ C, k < B') : AbT B' C' J := fun s A W hs ht => h s A W hs (ht.mono hB hC hCB)
theorem AbT.heap {β : Type} {B : Nat} {C : List Nat} {b : Nat} (X : β → Obj) (hb : b ∉ C) (hX : ∀ s, b < B ∨ (X s).isCells = true) : AbT B C (fun s W => W.heap[b]? = some (X s)) := fun s A W hs ht => ht.block b _ hs hb (hX s)
theorem AbT.row {β : Type} {B : Nat} {C : List Nat} {b : Nat} {t : TypeId} {fr : Nat × Nat} (X : β → Array Value) (hb : b ∉ C) : AbT B C (fun s W => W.heap[b]? = some (.cells (X s) t fr)) := AbT.heap (fun s => .cells (X s) t fr) hb (fun _ => .inr rfl)
theorem AbT.only {β : Type} {B : Nat} {C S : List Nat} {w₀ : World} (hB : w₀.heap.size ≤ B) (hS : ∀ k ∈ C, k ∈ S) : AbT B C (fun (_ : β) W => Only S w₀ W) :=
  fun s A W h t => ⟨t.os.trans h.os, t.tape.trans h.tape, t.output.trans h.output, Nat.le_trans h.size t.size, fun b hb hn => by
    obtain ⟨o, ho⟩ : ∃ o, w₀.heap[b]? = some o := ⟨_, Array.getElem?_eq_getElem hb⟩; rw [ho]; exact t.block b o (h.get ho hn) (fun e => hn (hS b e)) (.inl (by omega))⟩
/-- AN ITERATOR's WORD: R: the blocks that it reads; C: the channels that it turns -/
def SeqT {α : Type} (F : Fence) (n : Nat) (P : Program) (g : Nat) (lb : Array Value) (encs : α → Array Value) (R C : List Nat) (S Sp : List α → Prop) (N : Nat) (w : World) : Prop :=
  ∀ (l : Nat) (T : List Nat) (J Jx : List α → World → Prop) (W : World), Below w.heap.size w W → w.heap.size ≤ l → l < W.heap.size → (∀ k ∈ T, k < W.heap.size ∧ k ∉ R) → AbT W.heap.size C J → AbT W.heap.size C Jx →
    (∀ pre x W1, J pre W1 → pre.length < N → Sp (pre ++ [x]) → YieldAt F (n - 1) P l (encs x) W1 fun e W' =>
      Only (l :: T) W1 W' ∧ ((e = .returned (.bool true) ∧ J (pre ++ [x]) W') ∨ (e = .returned (.bool false) ∧ Jx (pre ++ [x]) W'))) →
    J [] W →
    CallsIn F n P g (#[.func (.yield l) #[] #[]] ++ lb) W fun e W' => (∃ v, e = .returned v) ∧ ((∃ xs, S xs ∧ J xs W') ∨ (∃ pre, Sp pre ∧ Jx pre W'))
theorem SeqT.inRound {α : Type} {F : Fence} {n : Nat} {P : Program} {g : Nat} {lb : Array Value} {encs : α → Array Value} {R C : List Nat} {S Sp : List α → Prop} {N : Nat} {w : World} (l : Nat) (h : SeqT F n P g lb encs R C S Sp N w) : SeqT (F.inRound l) n P g lb encs R C S Sp N w := h
/-- how a round's body may be left -/
def postT {α : Type} (T : List Nat) (I : List α → World → Prop) (Ix : Code → List α → World → Prop) (xs : List α) (W : World) : Exit → Act → World → Prop
  | .normal, _, W' => Only T W W' ∧ I xs W'
  | .ret, _, W' => Only T W W' ∧ Ix .ret xs W'
  | .exit id, _, W' => Only T W W' ∧ Ix (.exit id) xs W'
  | .goto t, _, W' => Only T W W' ∧ Ix (.goto t) xs W'
  | .panic _, _, _ => False
  | .outgrown, _, _ => False
theorem postT_mono {α : Type} {T T' : List Nat} {I I' : List α → World → Prop} {Ix Ix' : Code → List α → World → Prop} {xs ys : List α} {W W0 : World} (hI : ∀ W', Only T W W' → I xs W' → Only T' W0 W' ∧ I' ys W') (hIx : ∀ c W', Only T W W' → Ix c xs W' → Only T' W0 W' ∧ Ix' c ys W') :
    ∀ e a W', postT T I Ix xs W e a W' → postT T' I' Ix' ys W0 e a W' := by
  intro e a W' h
  cases e with
  | normal => exact hI W' h.1 h.2
  | ret => exact hIx _ W' h.1 h.2
  | exit id => exact hIx _ W' h.1 h.2
  | goto t => exact hIx _ W' h.1 h.2
  | panic _ => exact h.elim
  | outgrown => exact h.elim
variable {F : Fence} {n : Nat} {P : Program}
/-- the iterator's word, for the loop's record l -/
theorem rangeT_core {α : Type} {ps : Array Tmp} {assign body : Code} {fn : FuncId} {tmps : Array Value} {l : Nat} {W1 w0 : World} (hF : F.fn fn) {gf : Nat} {lb : Array Value} {encs : α → Array Value} {R C : List Nat} {S Sp : List α → Prop} {N : Nat}
    (rec : LoopState → Option Code → Loop) (hrec : ∃ dfr, rec = fun st pe => { state := st, pending := pe, fn, tmps, params := ps, assign, body, defers := dfr })
    (hseq : SeqT F n P gf lb encs R C S Sp N w0) (hb : Below w0.heap.size w0 W1) (hps : ∀ x, (encs x).size = ps.size) (hw0 : w0.heap.size ≤ l) (hl1 : W1.heap[l]? = some (.loop (rec .ready none)))
    (T : List Nat) (hT : ∀ k ∈ T, k < l ∧ k ∉ R) (hC : ∀ k ∈ C, k < l)
    (I : List α → World → Prop) (Ix : Code → List α → World → Prop) (hI : AbT l C I) (hIx : ∀ c, AbT l C (Ix c)) (h0 : I [] W1) (Ax : α → Act → World → Prop) (hAx : ∀ x a', AbT l C (fun (_ : Unit) W => Ax x a' W))
    (hassign : ∀ (pre : List α) (x : α) (W : World) (K : Act → World → Prop), I pre W → (∀ a' W', Only [] W W' → Ax x a' W' → K a' W') →
      assign.wpIn (F.inRound l) (n - 1) P (Exit.then K (fun _ _ _ => False)) { tmps := (ps.zip (encs x)).foldl (fun t (p, v) => t.setIfInBounds p v) tmps, defers := [] } W)
    (hbody : ∀ (pre : List α) (x : α) (a' : Act) (W : World), (∃ r, W.heap[l]? = some (.loop r)) → I pre W → Ax x a' W → pre.length < N → Sp (pre ++ [x]) → body.wpIn (F.inRound l) (n - 1) P (postT T I Ix (pre ++ [x]) W) a' W) :
    CallsIn F n P gf (#[.func (.yield l) #[] #[]] ++ lb) W1 fun e W2 => (∃ v, e = .returned v) ∧ ((∃ xs, S xs ∧ I xs W2 ∧ W2.heap[l]? = some (.loop (rec .ready none))) ∨ (∃ pre, Sp pre ∧ ∃ c, Ix c pre W2 ∧ W2.heap[l]? = some (.loop (rec .done (some c))))) := by
  obtain ⟨dfr, hrec⟩ := hrec; have hlt : l < W1.heap.size := (Array.getElem?_eq_some_iff.1 hl1).1; have hlC : l ∉ C := fun e => by have := hC l e; omega
  have hlT : l ∉ T := fun e => by have := (hT l e).1; omega
  have hmono : ∀ {A W : World}, Turn W1.heap.size C A W → Turn l C A W := fun ht => ht.mono (by omega) (fun _ h => h) (fun k hk => by have := hC k hk; omega); refine (hseq l T (fun pre W => I pre W ∧ W.heap[l]? = some (.loop (rec .ready none))) (fun pre W => ∃ c, Ix c pre W ∧ W.heap[l]? = some (.loop (rec .done (some c)))) W1 hb hw0 hlt (fun k hk => ⟨by have := (hT k hk).1; omega, (hT k hk).2⟩)
    (fun s A W hs ht => ⟨hI s A W hs.1 (hmono ht), ht.block l _ hs.2 hlC (.inl hlt)⟩) (fun s A W hs ht => by
      obtain ⟨c, hc, hl⟩ := hs; exact ⟨c, hIx c s A W hc (hmono ht), ht.block l _ hl hlC (.inl hlt)⟩) ?_ ⟨h0, hl1⟩)
  rintro pre x W ⟨hi, hl⟩ hlen hsp; have hy := run_yield (P := P) (args := encs x) hl (by rw [hrec]; exact hps x); rw [hrec] at hy; refine ⟨fn, _, assign, body, hy, roundIn_of_wpIn hF (hassign pre x W _ hi ?_)⟩; clear hy; intro a' Wa hOa hax; have hla := hOa.get hl (by simp); have hia := hI pre W Wa hi (Turn.of_only hOa); refine ⟨_, run_beginRound hla (by rw [hrec]), ?_⟩; have hlt2 : l < Wa.heap.size := (Array.getElem?_eq_some_iff.1 hla).1; have hl2 : (Wa.putObj l (.loop { rec .ready none with state := .busy })).heap[l]? = some (.loop { rec .ready none with state := .busy }) := World.putObj_heap_same hlt2; have ht2 : Turn l C Wa (Wa.putObj l (.loop { rec .ready none with state := .busy })) := (Turn.refl l C Wa).putObj (Nat.le_refl _) hla rfl hlC _; refine wpIn_mono (hbody pre x a' _ ⟨_, hl2⟩ (hI pre _ _ hia ht2) (hAx x a' () _ _ hax ht2) hlen hsp) ?_; have fin : ∀ (jump : Option Code) (W3 : World), Only T (Wa.putObj l (.loop { rec .ready none with state := .busy })) W3 →
      (Instr.endRound l jump).run P W3 = .ok (.bool jump.isNone) (W3.putObj l (.loop (rec (if jump.isNone then .ready else .done) jump))) ∧
      (W3.putObj l (.loop (rec (if jump.isNone then .ready else .done) jump))).heap[l]? = some (.loop (rec (if jump.isNone then .ready else .done) jump)) ∧
      Turn l C W3 (W3.putObj l (.loop (rec (if jump.isNone then .ready else .done) jump))) ∧ Only (l :: T) W (W3.putObj l (.loop (rec (if jump.isNone then .ready else .done) jump))) := fun jump W3 hO3 => by
    have hl3 := hO3.get hl2 hlT; have h4 := run_endRound (P := P) jump hl3; have h5 := (Turn.refl l C W3).putObj (o' := .loop (rec (if jump.isNone then .ready else .done) jump)) (Nat.le_refl _) hl3 rfl hlC; have h6 : Only (l :: T) W W3 := ((hOa.mono (T := l :: T) (by simp)).putObj (.inl (by simp)) _).trans (hO3.mono (fun k hk => .inl (by simp [hk]))); rw [hrec] at h4 h5 ⊢; exact ⟨h4, World.putObj_heap_same (Array.getElem?_eq_some_iff.1 hl3).1, h5, h6.putObj (.inl (by simp)) _⟩
  rintro e a3 W3 hp
  cases e with
  | normal =>
    obtain ⟨hk3, hi3⟩ := hp; obtain ⟨hr, hl4, ht4, hO4⟩ := fin none W3 hk3; exact ⟨_, _, hr, hO4, .inl ⟨rfl, hI _ _ _ hi3 ht4, hl4⟩⟩
  | ret =>
    obtain ⟨hk3, hi3⟩ := hp; obtain ⟨hr, hl4, ht4, hO4⟩ := fin (some .ret) W3 hk3; exact ⟨_, _, hr, hO4, .inr ⟨rfl, .ret, hIx _ _ _ _ hi3 ht4, hl4⟩⟩
  | exit id =>
    obtain ⟨hk3, hi3⟩ := hp; obtain ⟨hr, hl4, ht4, hO4⟩ := fin (some (.exit id)) W3 hk3; exact ⟨_, _, hr, hO4, .inr ⟨rfl, .exit id, hIx _ _ _ _ hi3 ht4, hl4⟩⟩
  | goto t =>
    obtain ⟨hk3, hi3⟩ := hp; obtain ⟨hr, hl4, ht4, hO4⟩ := fin (some (.goto t)) W3 hk3; exact ⟨_, _, hr, hO4, .inr ⟨rfl, .goto t, hIx _ _ _ _ hi3 ht4, hl4⟩⟩
  | panic ch => exact hp.elim
  | outgrown => exact hp.elim
/-- THE LAW, at an outermost loop -/
theorem wpIn_rangeT {α : Type} {g : Operand} {ps : Array Tmp} {assign body : Code} {Q : Exit → Act → World → Prop} {a : Act} {w : World}
    (hro : F.round = none) (h1 : 1 ≤ n) {gf : Nat} {lb : Array Value} (hg : a.eval g = .func (.func gf) #[] lb) (hFg : F.fn gf) (eg : ∀ args w, (callFunc gf args).run P w = .ok (.enter gf args) w)
    {encs : α → Array Value} {R C : List Nat} {S Sp : List α → Prop} {N : Nat} {w0 : World} (hseq : SeqT F (n - 1) P gf lb encs R C S Sp N w0) (hb0 : Below w0.heap.size w0 w) (hps : ∀ x, (encs x).size = ps.size)
    (T : List Nat) (hT : ∀ k ∈ T, k < w.heap.size ∧ k ∉ R) (hC : ∀ k ∈ C, k < w.heap.size)
    (I : List α → World → Prop) (Ix : Code → List α → World → Prop) (hI : AbT w.heap.size C I) (hIx : ∀ c, AbT w.heap.size C (Ix c)) (h0 : I [] w) (Ax : α → Act → World → Prop) (hAx : ∀ x a', AbT w.heap.size C (fun (_ : Unit) W => Ax x a' W))
    (hassign : ∀ (l : Nat) (pre : List α) (x : α) (W : World) (K : Act → World → Prop), w.heap.size ≤ l → I pre W → (∀ a' W', Only [] W W' → Ax x a' W' → K a' W') →
      assign.wpIn (F.inRound l) (n - 1 - 1) P (Exit.then K (fun _ _ _ => False)) { tmps := (ps.zip (encs x)).foldl (fun t (p, v) => t.setIfInBounds p v) a.tmps, defers := [] } W)
    (hbody : ∀ (l : Nat) (pre : List α) (x : α) (a' : Act) (W : World), w.heap.size ≤ l → (∃ r, W.heap[l]? = some (.loop r)) → I pre W → Ax x a' W → pre.length < N → Sp (pre ++ [x]) → body.wpIn (F.inRound l) (n - 1 - 1) P (postT T I Ix (pre ++ [x]) W) a' W)
    (hdone : ∀ (D : Nat) (xs : List α) (W : World), w.heap.size ≤ D → S xs → I xs W → W.heap[D]? = some (.deferred (some [])) → Q .normal { a with defers := { target := .collected D, args := #[] } :: a.defers } W)
    (hstop : ∀ (D : Nat) (c : Code) (pre : List α) (W : World), w.heap.size ≤ D → Sp pre → Ix c pre W → W.heap[D]? = some (.deferred (some [])) → c.wpIn F n P Q { a with defers := { target := .collected D, args := #[] } :: a.defers } W) :
    (Code.rangeFunc g ps assign body).wpIn F n P Q a w := by
  refine wpIn_rangeFunc ?_; intro fn hfn; rw [hro]; obtain ⟨rec, hrec⟩ : ∃ rec : LoopState → Option Code → Loop, rec = fun st pe => { state := st, pending := pe, fn, tmps := a.tmps, params := ps, assign, body, defers := w.heap.size } := ⟨_, rfl⟩
  obtain ⟨W1, hW1⟩ : ∃ W1, (w.alloc (.deferred (some []))).alloc (.loop (rec .ready none)) = W1 := ⟨_, rfl⟩
  have hL1 : W1.heap[w.heap.size + 1]? = some (.loop (rec .ready none)) := by
    rw [← hW1]; have := World.alloc_heap_new (w.alloc (.deferred (some []))) (.loop (rec .ready none)); rwa [World.size_alloc] at this
  have hK1 : W1.heap[w.heap.size]? = some (.deferred (some [])) := by
    rw [← hW1]; exact (Below.heap_alloc _ _ _ (by simp)).trans (World.alloc_heap_new w _)
  have hO1 : Only [] w W1 := by rw [← hW1]; exact ((Only.refl [] w).alloc _).alloc _
  have hb1 : Below w0.heap.size w0 W1 := hb0.trans ((hO1.below (B := w.heap.size) (by simp) (Nat.le_refl _)).mono hb0.size); have hmono : ∀ {β : Type} {J : β → World → Prop}, AbT w.heap.size C J → AbT (w.heap.size + 1) C J := fun h => h.mono (by omega) (fun _ h => h) (fun k hk => by have := hC k hk; omega); have hDT : w.heap.size ∉ T := fun e => by have := (hT _ e).1; omega
  have hDC : w.heap.size ∉ C := fun e => by have := hC _ e; omega
  have hLC : w.heap.size + 1 ∉ C := fun e => by have := hC _ e; omega
  refine ⟨w.heap.size + 1, [{ target := .collected w.heap.size, args := #[] }], W1, { target := .fn (.func gf) lb, args := #[.func (.yield (w.heap.size + 1)) #[] #[]] }, W1, gf,
    #[.func (.yield (w.heap.size + 1)) #[] #[]] ++ lb, W1, ?_, ?_, ?_, ?_, fun _ => h1, ?_⟩
  · rw [← hW1, hrec]; exact run_enterLoop_outer _ _ _ _ _
  · simp only [resolve, hg]; simp [go_sem]
  · intro f' hf'; simp [Target.leads] at hf'; subst hf'; exact hFg
  · simp [invoke, go_sem, eg]
  · refine (rangeT_core (l := w.heap.size + 1) hfn rec ⟨_, hrec⟩ hseq hb1 hps (by have := hb0.size; omega) hL1 T (fun k hk => ⟨by have := (hT k hk).1; omega, (hT k hk).2⟩) (fun k hk => by have := hC k hk; omega)
      (fun pre W => I pre W ∧ W.heap[w.heap.size]? = some (.deferred (some []))) (fun c pre W => Ix c pre W ∧ W.heap[w.heap.size]? = some (.deferred (some [])))
      ((hmono hI).and (AbT.heap (fun _ => .deferred (some [])) hDC (fun _ => .inl (by omega)))) (fun c => (hmono (hIx c)).and (AbT.heap (fun _ => .deferred (some [])) hDC (fun _ => .inl (by omega))))
      ⟨hI _ _ _ h0 (Turn.of_only hO1), hK1⟩ Ax (fun x a' => hmono (hAx x a')) (fun pre x W K hi hK => hassign _ pre x W K (by omega) hi.1 hK) ?_).mono ?_
    · rintro pre x a' W hr ⟨hi, hk⟩ hax hlen hsp; exact wpIn_mono (hbody _ pre x a' W (by omega) hr hi hax hlen hsp) (postT_mono (fun W' hO h => ⟨hO, h, hO.get hk hDT⟩) (fun c W' hO h => ⟨hO, h, hO.get hk hDT⟩))
    · rintro e W2 ⟨⟨v, rfl⟩, (⟨xs, hS, ⟨hi, hk⟩, hl⟩ | ⟨pre, hSp, c, ⟨hi, hk⟩, hl⟩)⟩
      · exact ⟨none, _, by have := run_endLoop (P := P) hl (by rw [hrec]; simp); rw [hrec] at this; exact this, hdone _ xs _ (Nat.le_refl _) hS (hI _ _ _ hi ((Turn.refl _ C W2).putObj (by omega) hl rfl hLC _)) ((World.putObj_heap_other (by omega)).trans hk)⟩
      · exact ⟨some c, _, by have := run_endLoop (P := P) hl (by rw [hrec]; simp); rw [hrec] at this; exact this, hstop _ c pre _ (Nat.le_refl _) hSp (hIx c _ _ _ hi ((Turn.refl _ C W2).putObj (by omega) hl rfl hLC _)) ((World.putObj_heap_other (by omega)).trans hk)⟩
/-- a function whose body holds ranges over functions, walked as everywhere -/
theorem calls_of_marks {f : FuncId} {fn : Func} {c : Code} {args : Array Value} {w : World} {R : Ending → World → Prop} (hf : P.funcs[f]? = some fn) (hb : fn.body = some c)
    (h : c.wp P (bodyPostM Fence.wide 8 P fn R) { tmps := args ++ Array.replicate (fn.ntmps - args.size) undef, defers := [] } w) : Calls P f args w R :=
  (callsIn_wide (n := 8)).1 (callsIn_of_wp_marks hf hb trivial (wpIn_wide.2 h) rfl)
def marks (ds : List Nat) : List Deferred := ds.map fun D => { target := .collected D, args := #[] }
theorem leave_marks {fn : Func} {tmps : Array Value} {R : Ending → World → Prop} {v : Value} : ∀ (ds : List Nat) (W : World), ds.Nodup → (∀ D ∈ ds, W.heap[D]? = some (.deferred (some []))) →
    (∀ W', Only ds W W' → (results fn tmps).run P W' = .ok v W' ∧ R (.returned v) W') → LeavesInM F n P fn tmps R (marks ds) .returning W
  | [], W, _, _, h => ⟨v, h W (Only.refl _ _)⟩
  | D :: ds, W, hn, hk, h => by
    have hD := hk D (by simp); refine ⟨by simp, .inl ⟨D, _, rfl, run_takeDeferred hD, leave_marks ds _ (List.nodup_cons.1 hn).2 (fun E hE => ?_) (fun W' hO => h W' ?_)⟩⟩
    · rw [World.putObj_heap_other (fun e => (List.nodup_cons.1 hn).1 (by rw [← e]; exact hE))]; exact hk E (by simp [hE])
    · exact ((Only.refl (D :: ds) W).putObj (.inl (by simp)) _).trans (hO.mono (fun k hk => .inl (by simp [hk])))
end Go.Rv
namespace Go.Rv
open Go.RowKit
theorem wpList_row_on {P : Program} {ops : Array Oper} {rest : List Oper} {o : Oper} {a : Act} {w : World} {Q : Exit → Act → World → Prop} (hgd : Region.wanted o (yielded ops a.tmps) = true) (ty : TypeId) (x : Operand) (ho : o.op = .load ty x)
    (g : Nat) (hx : a.eval x = .pointer (some ⟨g, 0, none⟩)) (t : TypeId) (cs : Array Value) (fr : Nat × Nat) (d : TypeDesc) (hg : w.heap[g]? = some (.cells cs t fr))
    (hu : P.underlying ty = some d) (hd : (match d with | .struct _ | .array _ _ => true | _ => false) = true) (hi : (P.info? ty).map (·.size) = some cs.size)
    (h : wpList P ops Q rest (a.put o.dst (.agg cs)) w) : wpList P ops Q (o :: rest) a w := by
  unfold wpList; rw [if_pos hgd]; exact .inl (wp_load_row ty x ho g hx t cs fr d hg hu hd hi h)
theorem wpList_eql_on {P : Program} {ops : Array Oper} {rest : List Oper} {o : Oper} {a : Act} {w : World} {Q : Exit → Act → World → Prop} (hgd : Region.wanted o (yielded ops a.tmps) = true) (ty ty2 : TypeId) (x y : Operand) (ho : o.op = .binOp .eql ty x y ty2)
    (xs ys : Array Value) (hx : a.eval x = .agg xs) (hy : a.eval y = .agg ys) (hm : P.eqGuardType P.depth ty = false) (r : Bool) (hr : ∀ w, (Op.equalIn 10000 ty (.agg xs) (.agg ys)).run P w = .ok r w)
    (h : wpList P ops Q rest (a.put o.dst (.bool r)) w) : wpList P ops Q (o :: rest) a w := by
  unfold wpList; rw [if_pos hgd]; refine .inl ?_; unfold Oper.wp execOp; have h1 := run_eqGuard_agg (P := P) w .eql ty x y xs ys hm; have h2 := run_eql_struct (P := P) w ty xs ys; rw [hr w] at h2; simp only [ho, hx, hy, Sem.run_bind, Sem.run_pure, h1, h2, Result.andThen_ok]; exact h
theorem wpList_neq_on {P : Program} {ops : Array Oper} {rest : List Oper} {o : Oper} {a : Act} {w : World} {Q : Exit → Act → World → Prop} (hgd : Region.wanted o (yielded ops a.tmps) = true) (ty ty2 : TypeId) (x y : Operand) (ho : o.op = .binOp .neq ty x y ty2)
    (xs ys : Array Value) (hx : a.eval x = .agg xs) (hy : a.eval y = .agg ys) (hm : P.eqGuardType P.depth ty = false) (r : Bool) (hr : ∀ w, (Op.equalIn 10000 ty (.agg xs) (.agg ys)).run P w = .ok r w)
    (h : wpList P ops Q rest (a.put o.dst (.bool (!r))) w) : wpList P ops Q (o :: rest) a w := by
  unfold wpList; rw [if_pos hgd]; refine .inl ?_; unfold Oper.wp execOp; have h1 := run_eqGuard_agg (P := P) w .neq ty x y xs ys hm; have h2 := run_neq_struct (P := P) w ty xs ys; rw [hr w] at h2; simp only [ho, hx, hy, Sem.run_bind, Sem.run_pure, h1, h2, Result.andThen_ok]; exact h
end Go.Rv
namespace Go.Proofs.Ytoiephmngdecaaa
open Go.RowKit Go.Rv Frm
set_option linter.unusedVariables false
attribute [local go_sem ↓] Go.wp_at_zero Go.wp_at_succ
/-- an entry and an error -/
def EntPost (r : En.E × Int) (w : World) (e : Ending) (w' : World) : Prop := e = .returned (.tuple #[.agg (EC r.1), .int .i64 r.2]) ∧ Below w.heap.size w w'
theorem built_ent0 : Try.prog.built 65 [] = some (EC En.E.zero) := by kernel_rfl
theorem built_ent6 (k f c b m t : Int) : Try.prog.built 65 [(0, .int .i64 k), (1, .int .i64 f), (2, .int .i64 c), (3, .int .i64 b), (4, .int .i64 m), (5, .int .i64 t)] = some (EC ⟨k, f, c, b, m, t, List.replicate 32 0⟩) := by kernel_rfl
theorem splice_EC (e : En.E) (b : List Nat) (he : e.bytes.length = 32) (hb : b.length = 32) : splice (EC e).toList 6 (b.map bv) = (EC { e with bytes := b }).toList := by
  unfold splice EC byteCells bv; simp [hb]; omega
theorem parse_ebody {kind : Int} {b : List Nat} (hl : b.length = 44) (hb : ∀ c ∈ b, c < 256) : EBody (En.parse kind b) := En.parse_bytes hl hb
set_option maxRecDepth 100000 in
set_option maxHeartbeats 2000000 in
theorem eof_any (kind : Int) (b : List Nat) (w : World) (hl : b.length = 44) (hb : ∀ c ∈ b, c < 256) :
    Calls Try.prog 58 #[.int .i64 kind, .agg (byteCells b)] w (EntPost (En.ofE kind b) w) := by
  have hz := (zero_of_info Try.infoEntry).1; have hzb := (zero_of_info Try.infoBody).1; have hone := EC_one En.E.zero; have HIZ := Lib.hid (size_ent (e := En.E.zero) (by simp [En.E.zero])); have HI := Lib.hid (size_body hl); have h44 : (byteCells (List.replicate 44 0)).size = (byteCells b).size := by rw [size_byteCells, size_byteCells, hl]; simp
  have HBZ := Lib.hid built_ent0; have hF0 := heap_alloc2_old w (.cells (byteCells b) 57) (.cells (EC En.E.zero) 65); have hR0 := heap_alloc2_new w (.cells (byteCells b) 57) (.cells (EC En.E.zero) 65); have hB0 : Below w.heap.size w ((w.alloc (.cells (byteCells b) 57)).alloc (.cells (EC En.E.zero) 65)) := ((Below.refl _ w).alloc (Nat.le_refl _) _).alloc (by simp) _; have hsb := byteCells_row hF0 hb; have z0 : ((w.alloc (.cells (byteCells b) 57)).alloc (.cells (EC En.E.zero) 65)).heap.size = w.heap.size + 1 + 1 := by simp
  have HN := Lib.hid (fun (W : World) (hb : Bytes W (some ⟨w.heap.size, 0, none⟩) b) => by have := rd_new (some ⟨w.heap.size, 0, none⟩) b 44 W hb (fun e => by cases e) (by omega); rwa [hl] at this); have HBDY := Lib.hid (fun W => ebody_any (En.parse kind b) W (parse_ebody hl hb)); have HPB := Lib.hid (En.body_parse (kind := kind) hl hb); have HPE := Lib.hid (parse_ebody (kind := kind) hl hb); have HLB := Lib.hid hl; have H8 := Lib.hid hb; have HEQ : Hid (∀ W, (Op.equalIn 10000 57 (.agg (byteCells b)) (.agg (byteCells b))).run Try.prog W = .ok true W) := Lib.hid (fun W => eq_body b b hl hl hb hb true (by simp) W); have H1B := Lib.hid (one_byteCells b); have h1Z := Lib.hid (one_byteCells (List.replicate 44 0)); obtain ⟨Z, hZ⟩ : ∃ Z, EC En.E.zero = Z := ⟨_, rfl⟩; obtain ⟨C, hC⟩ : ∃ C, byteCells b = C := ⟨_, rfl⟩; obtain ⟨Z4, hZ4⟩ : ∃ Z4, byteCells (List.replicate 44 0) = Z4 := ⟨_, rfl⟩; rw [hZ] at hz hone HIZ HBZ hF0 hR0 hB0 hsb z0; rw [hC] at hF0 hR0 hB0 hsb HI h44 HEQ H1B z0 ⊢; rw [hZ4] at hzb h44 h1Z; have HZ := Lib.hid hZ; have HC := Lib.hid hC; have HZ4 := Lib.hid hZ4; have H44 := Lib.hid h44; clear hZ hC hZ4 h44 hl hb; go_enter Try.func58, Try.ntmps58; go_wp2_with fail; refine (HN.out _ hsb).mono ?_; rintro x w1 ⟨g, rfl, hg, hR1, hB1⟩; rw [z0] at hg hR1; have hF1 := (hB1.block w.heap.size (by omega)).trans hF0; have hS1 := (hB1.block (w.heap.size + 1) (by omega)).trans hR0; have hBw1 := hB0.trans (hB1.mono (by omega)); have hgl := hR1.lt; have HF1 := Lib.hid hF1; have HS1 := Lib.hid hS1; have HBW1 := Lib.hid hBw1; clear HN hF0 hR0 hB0 hsb hB1 hF1 hS1 hBw1 z0; obtain ⟨x1, hx1⟩ : ∃ x, x = Cod.rd (b.take 6) := ⟨_, rfl⟩; obtain ⟨x2, hx2⟩ : ∃ x, x = Cod.rd ((b.drop 6).take 1) := ⟨_, rfl⟩; obtain ⟨x3, hx3⟩ : ∃ x, x = Cod.rd ((b.drop 7).take 1) := ⟨_, rfl⟩; obtain ⟨x4, hx4⟩ : ∃ x, x = Cod.rd ((b.drop 8).take 2) := ⟨_, rfl⟩; obtain ⟨x5, hx5⟩ : ∃ x, x = Cod.rd ((b.drop 10).take 2) := ⟨_, rfl⟩; have hbl := HLB.out; obtain ⟨B, hBB⟩ : ∃ B, w.heap.size + 1 + 1 = B := ⟨_, rfl⟩; rw [hBB] at hR1 hg; have hzB : w.heap.size + 1 < B := by omega
  clear hBB; have K1 := Lib.hid (fun W (hR : RdAt W B g b false) => rd_to g b (b.drop 6) x1 6 6 W hR rfl (by omega) (by omega) (by omega) hx1 rfl); have K2 := Lib.hid (fun W (hR : RdAt W B g (b.drop 6) false) => rd_to g (b.drop 6) (b.drop 7) x2 1 1 W hR rfl (by omega) (by omega) (by rw [List.length_drop]; omega) hx2 (by rw [List.drop_drop])); have K3 := Lib.hid (fun W (hR : RdAt W B g (b.drop 7) false) => rd_to g (b.drop 7) (b.drop 8) x3 1 1 W hR rfl (by omega) (by omega) (by rw [List.length_drop]; omega) hx3 (by rw [List.drop_drop])); have K4 := Lib.hid (fun W (hR : RdAt W B g (b.drop 8) false) => rd_to g (b.drop 8) (b.drop 10) x4 2 2 W hR rfl (by omega) (by omega) (by rw [List.length_drop]; omega) hx4 (by rw [List.drop_drop])); have K5 := Lib.hid (fun W (hR : RdAt W B g (b.drop 10) false) => rd_to g (b.drop 10) (b.drop 12) x5 2 2 W hR rfl (by omega) (by omega) (by rw [List.length_drop]; omega) hx5 (by rw [List.drop_drop])); have K6 := Lib.hid (fun W (hR : RdAt W B g (b.drop 12) false) => rd_bytes_yes g (b.drop 12) 32 W hR (by rw [List.length_drop]; omega)); have HX : Hid (En.parse kind b = ⟨kind, (x1 : Nat), (x2 : Nat), (x3 : Nat), (x4 : Nat), (x5 : Nat), (b.drop 12).take 32⟩) := Lib.hid (by rw [hx1, hx2, hx3, hx4, hx5]; rfl); clear hx1 hx2 hx3 hx4 hx5 hbl; go_wp2_with fail; refine (K1.out _ hR1).mono ?_; rintro e1 w2 ⟨rfl, hR2, hO2⟩; go_wp2_with fail; refine (K2.out _ hR2).mono ?_; rintro e1 w3 ⟨rfl, hR3, hO3⟩; go_wp2_with fail; refine (K3.out _ hR3).mono ?_; rintro e1 w4 ⟨rfl, hR4, hO4⟩; go_wp2_with fail; refine (K4.out _ hR4).mono ?_; rintro e1 w5 ⟨rfl, hR5, hO5⟩; go_wp2_with fail; refine (K5.out _ hR5).mono ?_; rintro e1 w6 ⟨rfl, hR6, hO6⟩; have hO16 := (((hO2.trans hO3).trans hO4).trans hO5).trans hO6; have z6 := hO16.size; have hF6 := hO16.get HF1.out (by simp; omega); have hS6 := hO16.get HS1.out (by simp; omega); have hBw6 := HBW1.out.trans (hO16.below (B := w.heap.size) (by simp; omega) HBW1.out.size); have HF6 := Lib.hid hF6; have HS6 := Lib.hid hS6; have HBW6 := Lib.hid hBw6; obtain ⟨e0, he0⟩ : ∃ e0 : En.E, e0 = ⟨kind, (x1 : Nat), (x2 : Nat), (x3 : Nat), (x4 : Nat), (x5 : Nat), List.replicate 32 0⟩ := ⟨_, rfl⟩; have HBU : Hid (Try.prog.built 65 [(0, .int .i64 kind), (1, .int .i64 (x1 : Nat)), (2, .int .i64 (x2 : Nat)), (3, .int .i64 (x3 : Nat)), (4, .int .i64 (x4 : Nat)), (5, .int .i64 (x5 : Nat))] = some (EC e0)) := Lib.hid (by rw [he0]; exact built_ent6 _ _ _ _ _ _); have hone0 := EC_one e0; have HIE0 := Lib.hid (size_ent (e := e0) (by rw [he0]; simp)); have HSZ0 : Hid (Z.size = (EC e0).size) := Lib.hid (by rw [← HZ.out, EC_size, EC_size, he0]; rfl); have HE0 := Lib.hid he0; clear he0 hF6 hS6 hBw6 hO16 hO2 hO3 hO4 hO5 hO6 hR1 hR2 hR3 hR4 hR5 K1 K2 K3 K4 K5; obtain ⟨W7, hW7⟩ : ∃ W7, w6.alloc (.cells (EC e0) 65) = W7 := ⟨_, rfl⟩; have hb7 : Below w6.heap.size w6 W7 := by rw [← hW7]; exact (Below.refl _ _).alloc (Nat.le_refl _) _
  have hG7 : W7.heap[w6.heap.size]? = some (.cells (EC e0) 65 (0, 0)) := by rw [← hW7]; exact heap_alloc_new w6 _
  have HW7 := Lib.hid hW7; have hR7 := hR6.below hb7; have z7 : w6.heap.size < W7.heap.size := by rw [← hW7]; simp
  have HF7 := Lib.hid ((hb7.block w.heap.size (by omega)).trans HF6.out); have HS7 := Lib.hid ((hb7.block (w.heap.size + 1) (by omega)).trans HS6.out); have HBW7 := Lib.hid (HBW6.out.trans (hb7.mono HBW6.out.size)); clear hW7 hb7; go_upto_region 3 with (first | (refine wpList_build_asked (by rfl) 65 _ rfl #[(0, .int .i64 kind), (1, .int .i64 (x1 : Nat)), (2, .int .i64 (x2 : Nat)), (3, .int .i64 (x3 : Nat)), (4, .int .i64 (x4 : Nat)), (5, .int .i64 (x5 : Nat))] (by simp [Act.eval, Act.put]) (EC e0) HBU.out ?_) | (refine wpList_store_row rfl 65 _ _ rfl w6.heap.size (EC e0) rfl rfl 65 Z (heap_alloc_new w6 _) HIE0.out HSZ0.out hone0 ?_; rw [World.setRow_alloc_new])); rw [HW7.out]; have hcur : (EC e0).toList.length = 38 := by rw [Array.length_toList, EC_size, HE0.out]; simp
  have hbl2 : ((b.drop 12).take 32).length = 32 := by have := HLB.out; simp; omega
  obtain ⟨cur, hcu⟩ : ∃ cur, cur = (EC e0).toList := ⟨_, rfl⟩; have hGA : W7.heap[w6.heap.size]? = some (.cells cur.toArray 65 (0, 0)) := by rw [hcu, Array.toArray_toList]; exact hG7
  rw [← hcu] at hcur; obtain ⟨cs, hcs⟩ : ∃ cs, cs = ((b.drop 12).take 32).map bv := ⟨_, rfl⟩; have hcsl : cs.length = 32 := by rw [hcs, List.length_map, hbl2]
  have hsp : splice cur 6 cs = (EC { e0 with bytes := (b.drop 12).take 32 }).toList := by rw [hcu, hcs]; exact splice_EC e0 _ (by rw [HE0.out]; simp) hbl2
  have h1c : ∀ v ∈ cs, v.oneCell' = true := by
    intro v hv; rw [hcs] at hv; simp only [List.mem_map] at hv; obtain ⟨y, _, rfl⟩ := hv; rfl
  have HSP := Lib.hid hsp; have HCS := Lib.hid hcs; have H1C := Lib.hid h1c; have HFIT := Lib.hid (show 6 + cs.length ≤ cur.length by rw [hcsl, hcur]; omega); have HN32 := Lib.hid (show cs.length = Nat.min 32 32 by rw [hcsl]; rfl); have HGA := Lib.hid hGA; have hszb : (Try.prog.info? 5).map (·.size) = some 1 := by kernel_rfl
  have HSZB := Lib.hid hszb; clear hsp hcs h1c hcsl hcur hcu hGA hbl2 hszb hG7 hR6
  go_region_held3 (fun _ => True) (trivial) (first | (go_at_call 73; refine (K6.out _ (hR7.below (Below.refl _ _).drew)).mono ?_; rintro e10 w10 ⟨ax, rfl, hbx, hnx, hxx, hR10, hO10⟩; have hG10 := (hO10.block w6.heap.size (by simpa using z7) (by simp; omega)).trans HGA.out; have hF10 := (hO10.block w.heap.size (by simp; omega) (by simp; omega)).trans HF7.out; have hS10 := (hO10.block (w.heap.size + 1) (by simp; omega) (by simp; omega)).trans HS7.out; have hBw10 := HBW7.out.drew.trans (hO10.below (by simp; omega) HBW7.out.size); have hsrc : ∃ ad, ax = some ad ∧ ∀ (j : Nat) (v : Value), cs[j]? = some v → w10.cell? (ad.add j) = some v := (by rw [HCS.out]; have h := src_cells hbx 32 (by have := HLB.out; simp; omega); rw [List.take_take] at h; simpa using h); have HSRC := Lib.hid hsrc; clear hsrc) | (refine step_copy_splice rfl (.tmp 25) (.tmp 27) 134 134 rfl 5 Try.underlying134 HSZB.out (some ⟨w6.heap.size, 6, none⟩) ax 32 32 32 32 (by rfl) (by rfl) w6.heap.size 6 cur 65 hG10 cs HN32.out (fun _ => ⟨rfl, HSRC.out⟩) HFIT.out H1C.out w6.heap.size _ (Below.refl _ _) (Nat.le_refl _) ?_; intro w11 HG11 hB11))
  obtain ⟨e2, he2⟩ : ∃ e2 : En.E, e2 = En.parse kind b := ⟨_, rfl⟩
  have hG11 : w11.heap[w6.heap.size]? = some (.cells (EC e2) 65 (0, 0)) := by
    have h := HG11.out; rw [HSP.out, Array.toArray_toList, HE0.out] at h; rw [he2, HX.out]; exact h
  have hl2 : e2.bytes.length = 32 := by rw [he2]; exact HPE.out.1
  have HI2 := Lib.hid (size_ent hl2); have hone2 := EC_one e2; have HSZ2 : Hid (Z.size = (EC e2).size) := Lib.hid (by rw [← HZ.out, EC_size, EC_size, hl2]; simp [En.E.zero]); have hF11 := (hB11.block w.heap.size (by omega)).trans hF10; have hS11 := (hB11.block (w.heap.size + 1) (by omega)).trans hS10; have hBw11 := hBw10.trans (hB11.mono (by omega)); have z11 : w6.heap.size < w11.heap.size := (Array.getElem?_eq_some_iff.1 hG11).1; have HG2 := Lib.hid hG11; have HF11 := Lib.hid hF11; have HS11 := Lib.hid hS11; have HBW11 := Lib.hid hBw11; have HB2 := Lib.hid (fun W => by have := HBDY.out W; rwa [← he2] at this); have HP2 : Hid (En.body e2 = b) := Lib.hid (by rw [he2]; exact HPB.out); have HR2 : Hid (En.ofE kind b = if En.right e2 = true then (e2, 0) else (En.E.zero, 10)) := Lib.hid (by rw [he2]; rfl); clear hG10 hF10 hS10 hBw10 hB11 HG11 HSP HCS H1C HFIT HN32 HGA HSZB HSRC hbx hnx hxx hR10 hO10 he2 K6 HX hR7 hF11 hS11 hBw11 HBDY HPB HPE hl2; unfold BodPost at HB2; cases hrt : En.right e2
  · rw [hrt] at HB2; simp only [Bool.false_eq_true, if_false] at HB2; have HRR : Hid (En.ofE kind b = (En.E.zero, 10)) := Lib.hid (by rw [HR2.out, hrt]; rfl); clear hrt; rw [HZ4.out] at HB2; go_wp2_with (refine wpList_load_row rfl 65 _ rfl w6.heap.size rfl 65 _ _ _ HG2.out Try.underlying65 rfl HI2.out ?_); refine (HB2.out _).mono ?_; rintro x w12 ⟨rfl, hB12⟩; have z12 := hB12.size; have hb13 : Below w12.heap.size w12 (w12.alloc (.cells Z4 57)) := (Below.refl _ _).alloc (Nat.le_refl _) _; have hS13 := (hb13.block (w.heap.size + 1) (by omega)).trans ((hB12.block (w.heap.size + 1) (by omega)).trans HS11.out); have hBw13 := HBW11.out.trans ((hB12.trans (hb13.mono z12)).mono HBW11.out.size); have HIZ4 : Hid ((Try.prog.info? 57).map (·.size) = some Z4.size) := Lib.hid (by rw [H44.out]; exact HI.out); clear hB12 hb13; go_wp2_with (first | (refine wpList_store_row rfl 57 _ _ rfl w12.heap.size Z4 rfl rfl 57 Z4 (heap_alloc_new w12 _) HIZ4.out rfl h1Z.out ?_; rw [World.setRow_alloc_new]) | (refine wpList_build_asked (by rfl) 65 _ rfl #[] (by rfl) Z HBZ.out ?_) | (refine wpList_store_row rfl 65 _ _ rfl (w.heap.size + 1) Z rfl rfl 65 Z hS13 HIZ.out rfl hone ?_)); refine bodyPost_ret (results_row_tmp rfl _ _ (w.heap.size + 1) 65 Z _ _ rfl (setRow_heap _ _ _ _ _ _ hS13) Try.underlying65 rfl HIZ.out) rfl ?_; exact ⟨by rw [HRR.out, HZ.out]; rfl, below_setRow hBw13 (by omega) _⟩
  · rw [hrt] at HB2; simp only [if_true] at HB2; rw [HP2.out, HC.out] at HB2; have HRR : Hid (En.ofE kind b = (e2, 0)) := Lib.hid (by rw [HR2.out, hrt]; rfl); clear hrt; go_wp2_with (refine wpList_load_row rfl 65 _ rfl w6.heap.size rfl 65 _ _ _ HG2.out Try.underlying65 rfl HI2.out ?_); refine (HB2.out _).mono ?_; rintro x w12 ⟨rfl, hB12⟩; have z12 := hB12.size; obtain ⟨W13, hW13⟩ : ∃ W13, w12.alloc (.cells C 57) = W13 := ⟨_, rfl⟩; have hb13 : Below w12.heap.size w12 W13 := by rw [← hW13]; exact (Below.refl _ _).alloc (Nat.le_refl _) _
    have hn13 : W13.heap[w12.heap.size]? = some (.cells C 57 (0, 0)) := by rw [← hW13]; exact heap_alloc_new w12 _
    have hB1113 : Below w11.heap.size w11 W13 := hB12.trans (hb13.mono z12); have hS13 := (hB1113.block (w.heap.size + 1) (by omega)).trans HS11.out; have hF13 := (hB1113.block w.heap.size (by omega)).trans HF11.out; have hG13 := (hB1113.block w6.heap.size z11).trans HG2.out; have hBw13 := HBW11.out.trans (hB1113.mono HBW11.out.size); have HW13 := Lib.hid hW13; clear hB12 hb13 hB1113 hW13; go_upto_region 5 with (refine wpList_store_row rfl 57 _ _ rfl w12.heap.size C rfl rfl 57 Z4 (heap_alloc_new w12 _) HI.out H44.out H1B.out ?_; rw [World.setRow_alloc_new]); rw [HW13.out]; go_wp2_with (first | (refine wpList_row_on (by rfl) 57 _ rfl w12.heap.size rfl 57 _ _ _ hn13 Try.underlying57 rfl HI.out ?_) | (refine wpList_row_on (by rfl) 57 _ rfl w.heap.size rfl 57 _ _ _ hF13 Try.underlying57 rfl HI.out ?_) | (refine wpList_neq_on (by rfl) 57 57 _ _ rfl C C rfl rfl (by kernel_rfl) true HEQ.out ?_) | (refine wpList_row_on (by rfl) 65 _ rfl w6.heap.size rfl 65 _ _ _ hG13 Try.underlying65 rfl HI2.out ?_) | (refine wpList_store_row rfl 65 _ _ rfl (w.heap.size + 1) (EC e2) rfl rfl 65 Z hS13 HI2.out HSZ2.out hone2 ?_)); refine bodyPost_ret (results_row_tmp rfl _ _ (w.heap.size + 1) 65 (EC e2) _ _ rfl (setRow_heap _ _ _ _ _ _ hS13) Try.underlying65 rfl HI2.out) rfl ?_; exact ⟨by rw [HRR.out]; rfl, below_setRow hBw13 (by omega) _⟩
end Go.Proofs.Ytoiephmngdecaaa
