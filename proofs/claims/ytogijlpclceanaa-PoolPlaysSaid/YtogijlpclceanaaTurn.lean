/- Laws over any program: a range over a function whose iterator may turn channels (their counters alone) and whatever else of its own that is no cells; the round's word is which blocks it may turn. -/
import Derived.Test.YtogijlpclceanaaKit2
import Derived.RangeFuncNested
import Derived.RangeFuncBound
import Derived.RangeFuncCalls
import Derived.RangeFuncLeaves
import Derived.Shelf.Abstract
import Derived.Shelf.RegionOpen
import Derived.OwnWalkIn
import Derived.TacticsInMore
import Derived.LoopNIn
import Derived.LoopIn
namespace Go.Rv
open Go.RowKit
set_option linter.unusedVariables false
/-- new blocks; of those that lay from B on whatever is no cells may have turned; the channels of a list keep what lies in them; all else is as it was -/
structure Turn (B : Nat) (C : List Nat) (A W : World) : Prop where
  os : W.os = A.os
  tape : W.tape = A.tape
  output : W.output = A.output
  size : A.heap.size ≤ W.heap.size
  block : ∀ (k : Nat) (o : Obj), A.heap[k]? = some o → k ∉ C → (k < B ∨ o.isCells = true) → W.heap[k]? = some o
  chan : ∀ k ∈ C, ∀ cap buf s r, A.heap[k]? = some (.chan cap buf false s r false) → ∃ s' r', W.heap[k]? = some (.chan cap buf false s' r' false)
theorem Turn.refl (B : Nat) (C : List Nat) (w : World) : Turn B C w w := ⟨rfl, rfl, rfl, Nat.le_refl _, fun _ _ h _ _ => h, fun _ _ _ _ s r h => ⟨s, r, h⟩⟩
theorem Turn.trans {B : Nat} {C : List Nat} {a b c : World} (h : Turn B C a b) (k : Turn B C b c) : Turn B C a c :=
  ⟨k.os.trans h.os, k.tape.trans h.tape, k.output.trans h.output, Nat.le_trans h.size k.size, fun i o hi hn hc => k.block i o (h.block i o hi hn hc) hn hc,
    fun i hi cap buf s r hh => by obtain ⟨s', r', h'⟩ := h.chan i hi cap buf s r hh; exact k.chan i hi cap buf s' r' h'⟩
theorem Turn.of_only {B : Nat} {C : List Nat} {a w : World} (h : Only [] a w) : Turn B C a w :=
  ⟨h.os, h.tape, h.output, h.size, fun k o hk _ _ => (h.block k (Array.getElem?_eq_some_iff.1 hk).1 (by simp)).trans hk,
    fun k _ cap buf s r hk => ⟨s, r, (h.block k (Array.getElem?_eq_some_iff.1 hk).1 (by simp)).trans hk⟩⟩
theorem Turn.of_below {B : Nat} {C : List Nat} {a w : World} (h : Below a.heap.size a w) : Turn B C a w := Turn.of_only (Only.of_below h)
theorem Turn.alloc {B : Nat} {C : List Nat} {a w : World} (h : Turn B C a w) (o : Obj) : Turn B C a (w.alloc o) := h.trans (Turn.of_only ((Only.refl [] w).alloc o))
theorem Turn.drew {B : Nat} {C : List Nat} {a w : World} (h : Turn B C a w) : Turn B C a w.drew := h.trans (Turn.of_only (Only.refl [] w).drew)
theorem Turn.putObj {B : Nat} {C : List Nat} {a w : World} (h : Turn B C a w) {l : Nat} {o : Obj} (hB : B ≤ l) (hl : w.heap[l]? = some o) (ho : o.isCells = false) (hC : l ∉ C) (o' : Obj) : Turn B C a (w.putObj l o') := by
  refine h.trans ⟨rfl, rfl, rfl, by simp, fun k x hk hn hc => ?_, fun k hk cap buf s r hh => ⟨s, r, ?_⟩⟩
  · rw [World.putObj_heap_other]
    · exact hk
    · intro e
      subst e
      rw [hl] at hk
      cases hk
      rcases hc with hc | hc
      · omega
      · rw [ho] at hc; cases hc
  · rw [World.putObj_heap_other]
    · exact hh
    · intro e
      subst e
      exact hC hk
theorem Turn.mono {B B' : Nat} {C C' : List Nat} {a w : World} (h : Turn B' C' a w) (hB : B ≤ B') (hC : ∀ k ∈ C', k ∈ C) (hCB : ∀ k ∈ C, k < B') : Turn B C a w := by
  refine ⟨h.os, h.tape, h.output, h.size, fun k o hk hn hc => h.block k o hk (fun e => hn (hC k e)) (hc.imp (fun e => Nat.lt_of_lt_of_le e hB) id), fun k hk cap buf s r hh => ?_⟩
  by_cases hm : k ∈ C'
  · exact h.chan k hm cap buf s r hh
  · exact ⟨s, r, h.block k _ hh hm (.inl (hCB k hk))⟩
theorem Only.putObj {S : List Nat} {a w : World} (h : Only S a w) {l : Nat} (hl : l ∈ S ∨ a.heap.size ≤ l) (o : Obj) : Only S a (w.putObj l o) :=
  ⟨h.os, h.tape, h.output, by simpa using h.size, fun i hi hn => by
    rw [World.putObj_heap_other]
    · exact h.block i hi hn
    · intro e; subst e; rcases hl with h1 | h1
      · exact hn h1
      · omega⟩
theorem Only.get {S : List Nat} {a w : World} (h : Only S a w) {k : Nat} {o : Obj} (hk : a.heap[k]? = some o) (hn : k ∉ S) : w.heap[k]? = some o := (h.block k (Array.getElem?_eq_some_iff.1 hk).1 hn).trans hk
theorem alloc_get (w : World) (o : Obj) (k : Nat) : (w.alloc o).heap[k]? = if k = w.heap.size then some o else w.heap[k]? := by
  show (w.heap.push o)[k]? = _
  rw [Array.getElem?_push]
theorem alloc_new (w : World) (o : Obj) {k : Nat} (h : k = w.heap.size) : (w.alloc o).heap[k]? = some o := by rw [alloc_get, if_pos h]
theorem alloc_old (w : World) (o : Obj) {k : Nat} (h : k < w.heap.size) : (w.alloc o).heap[k]? = w.heap[k]? := by rw [alloc_get, if_neg (by omega)]
/-- an assertion that abides such turns -/
def AbT {β : Type} (B : Nat) (C : List Nat) (J : β → World → Prop) : Prop := ∀ s A W, J s A → Turn B C A W → J s W
theorem AbT.and {β : Type} {B : Nat} {C : List Nat} {I J : β → World → Prop} (h : AbT B C I) (k : AbT B C J) : AbT B C (fun s W => I s W ∧ J s W) := fun s A W hs ht => ⟨h s A W hs.1 ht, k s A W hs.2 ht⟩
theorem AbT.pure {β : Type} (B : Nat) (C : List Nat) (p : β → Prop) : AbT B C (fun s (_ : World) => p s) := fun _ _ _ hs _ => hs
theorem AbT.mono {β : Type} {B B' : Nat} {C C' : List Nat} {J : β → World → Prop} (h : AbT B C J) (hB : B ≤ B') (hC : ∀ k ∈ C', k ∈ C) (hCB : ∀ k ∈ C, k < B') : AbT B' C' J := fun s A W hs ht => h s A W hs (ht.mono hB hC hCB)
theorem AbT.heap {β : Type} {B : Nat} {C : List Nat} {b : Nat} (X : β → Obj) (hb : b ∉ C) (hX : ∀ s, b < B ∨ (X s).isCells = true) : AbT B C (fun s W => W.heap[b]? = some (X s)) := fun s A W hs ht => ht.block b _ hs hb (hX s)
theorem AbT.row {β : Type} {B : Nat} {C : List Nat} {b : Nat} {t : TypeId} {fr : Nat × Nat} (X : β → Array Value) (hb : b ∉ C) : AbT B C (fun s W => W.heap[b]? = some (.cells (X s) t fr)) := AbT.heap (fun s => .cells (X s) t fr) hb (fun _ => .inr rfl)
theorem AbT.only {β : Type} {B : Nat} {C S : List Nat} {w₀ : World} (hB : w₀.heap.size ≤ B) (hS : ∀ k ∈ C, k ∈ S) : AbT B C (fun (_ : β) W => Only S w₀ W) :=
  fun s A W h t => ⟨t.os.trans h.os, t.tape.trans h.tape, t.output.trans h.output, Nat.le_trans h.size t.size, fun b hb hn => by
    obtain ⟨o, ho⟩ : ∃ o, w₀.heap[b]? = some o := ⟨_, Array.getElem?_eq_getElem hb⟩
    rw [ho]
    exact t.block b o (h.get ho hn) (fun e => hn (hS b e)) (.inl (by omega))⟩
/-- AN ITERATOR's WORD: R: the blocks that it reads; C: the channels that it turns -/
def SeqT {α : Type} (F : Fence) (n : Nat) (P : Program) (g : Nat) (lb : Array Value) (encs : α → Array Value) (R C : List Nat) (S Sp : List α → Prop) (N : Nat) (w : World) : Prop :=
  ∀ (l : Nat) (T : List Nat) (J Jx : List α → World → Prop) (W : World), Below w.heap.size w W → w.heap.size ≤ l → l < W.heap.size → (∀ k ∈ T, k < W.heap.size ∧ k ∉ R) → AbT W.heap.size C J → AbT W.heap.size C Jx →
    (∀ pre x W1, J pre W1 → pre.length < N → Sp (pre ++ [x]) → YieldAt F (n - 1) P l (encs x) W1 fun e W' =>
      Only (l :: T) W1 W' ∧ ((e = .returned (.bool true) ∧ J (pre ++ [x]) W') ∨ (e = .returned (.bool false) ∧ Jx (pre ++ [x]) W'))) →
    J [] W →
    CallsIn F n P g (#[.func (.yield l) #[] #[]] ++ lb) W fun e W' => (∃ v, e = .returned v) ∧ ((∃ xs, S xs ∧ J xs W') ∨ (∃ pre, Sp pre ∧ Jx pre W'))
theorem SeqT.inRound {α : Type} {F : Fence} {n : Nat} {P : Program} {g : Nat} {lb : Array Value} {encs : α → Array Value} {R C : List Nat} {S Sp : List α → Prop} {N : Nat} {w : World} (l : Nat) (h : SeqT F n P g lb encs R C S Sp N w) : SeqT (F.inRound l) n P g lb encs R C S Sp N w := h
/-- how a round's body may be left -/
def postT {α : Type} (T : List Nat) (I : List α → World → Prop) (Ix : Code → List α → World → Prop) (xs : List α) (W : World) : Exit → Act → World → Prop
  | .normal, _, W' => Only T W W' ∧ I xs W'
  | .ret, _, W' => Only T W W' ∧ Ix .ret xs W'
  | .exit id, _, W' => Only T W W' ∧ Ix (.exit id) xs W'
  | .goto t, _, W' => Only T W W' ∧ Ix (.goto t) xs W'
  | .panic _, _, _ => False
  | .outgrown, _, _ => False
theorem postT_mono {α : Type} {T T' : List Nat} {I I' : List α → World → Prop} {Ix Ix' : Code → List α → World → Prop} {xs ys : List α} {W W0 : World} (hI : ∀ W', Only T W W' → I xs W' → Only T' W0 W' ∧ I' ys W') (hIx : ∀ c W', Only T W W' → Ix c xs W' → Only T' W0 W' ∧ Ix' c ys W') :
    ∀ e a W', postT T I Ix xs W e a W' → postT T' I' Ix' ys W0 e a W' := by
  intro e a W' h
  cases e with
  | normal => exact hI W' h.1 h.2
  | ret => exact hIx _ W' h.1 h.2
  | exit id => exact hIx _ W' h.1 h.2
  | goto t => exact hIx _ W' h.1 h.2
  | panic _ => exact h.elim
  | outgrown => exact h.elim
variable {F : Fence} {n : Nat} {P : Program}
/-- the iterator's word, for the loop's record l -/
theorem rangeT_core {α : Type} {ps : Array Tmp} {assign body : Code} {fn : FuncId} {tmps : Array Value} {l : Nat} {W1 w0 : World} (hF : F.fn fn) {gf : Nat} {lb : Array Value} {encs : α → Array Value} {R C : List Nat} {S Sp : List α → Prop} {N : Nat}
    (rec : LoopState → Option Code → Loop) (hrec : ∃ dfr, rec = fun st pe => { state := st, pending := pe, fn, tmps, params := ps, assign, body, defers := dfr })
    (hseq : SeqT F n P gf lb encs R C S Sp N w0) (hb : Below w0.heap.size w0 W1) (hps : ∀ x, (encs x).size = ps.size) (hw0 : w0.heap.size ≤ l) (hl1 : W1.heap[l]? = some (.loop (rec .ready none)))
    (T : List Nat) (hT : ∀ k ∈ T, k < l ∧ k ∉ R) (hC : ∀ k ∈ C, k < l)
    (I : List α → World → Prop) (Ix : Code → List α → World → Prop) (hI : AbT l C I) (hIx : ∀ c, AbT l C (Ix c)) (h0 : I [] W1) (Ax : α → Act → World → Prop) (hAx : ∀ x a', AbT l C (fun (_ : Unit) W => Ax x a' W))
    (hassign : ∀ (pre : List α) (x : α) (W : World) (K : Act → World → Prop), I pre W → (∀ a' W', Only [] W W' → Ax x a' W' → K a' W') →
      assign.wpIn (F.inRound l) (n - 1) P (Exit.then K (fun _ _ _ => False)) { tmps := (ps.zip (encs x)).foldl (fun t (p, v) => t.setIfInBounds p v) tmps, defers := [] } W)
    (hbody : ∀ (pre : List α) (x : α) (a' : Act) (W : World), (∃ r, W.heap[l]? = some (.loop r)) → I pre W → Ax x a' W → pre.length < N → Sp (pre ++ [x]) → body.wpIn (F.inRound l) (n - 1) P (postT T I Ix (pre ++ [x]) W) a' W) :
    CallsIn F n P gf (#[.func (.yield l) #[] #[]] ++ lb) W1 fun e W2 => (∃ v, e = .returned v) ∧ ((∃ xs, S xs ∧ I xs W2 ∧ W2.heap[l]? = some (.loop (rec .ready none))) ∨ (∃ pre, Sp pre ∧ ∃ c, Ix c pre W2 ∧ W2.heap[l]? = some (.loop (rec .done (some c))))) := by
  obtain ⟨dfr, hrec⟩ := hrec
  have hlt : l < W1.heap.size := (Array.getElem?_eq_some_iff.1 hl1).1
  have hlC : l ∉ C := fun e => by have := hC l e; omega
  have hlT : l ∉ T := fun e => by have := (hT l e).1; omega
  have hmono : ∀ {A W : World}, Turn W1.heap.size C A W → Turn l C A W := fun ht => ht.mono (by omega) (fun _ h => h) (fun k hk => by have := hC k hk; omega)
  refine (hseq l T (fun pre W => I pre W ∧ W.heap[l]? = some (.loop (rec .ready none))) (fun pre W => ∃ c, Ix c pre W ∧ W.heap[l]? = some (.loop (rec .done (some c)))) W1 hb hw0 hlt (fun k hk => ⟨by have := (hT k hk).1; omega, (hT k hk).2⟩)
    (fun s A W hs ht => ⟨hI s A W hs.1 (hmono ht), ht.block l _ hs.2 hlC (.inl hlt)⟩) (fun s A W hs ht => by
      obtain ⟨c, hc, hl⟩ := hs
      exact ⟨c, hIx c s A W hc (hmono ht), ht.block l _ hl hlC (.inl hlt)⟩) ?_ ⟨h0, hl1⟩)
  rintro pre x W ⟨hi, hl⟩ hlen hsp
  have hy := run_yield (P := P) (args := encs x) hl (by rw [hrec]; exact hps x)
  rw [hrec] at hy
  refine ⟨fn, _, assign, body, hy, roundIn_of_wpIn hF (hassign pre x W _ hi ?_)⟩
  clear hy
  intro a' Wa hOa hax
  have hla := hOa.get hl (by simp)
  have hia := hI pre W Wa hi (Turn.of_only hOa)
  refine ⟨_, run_beginRound hla (by rw [hrec]), ?_⟩
  have hlt2 : l < Wa.heap.size := (Array.getElem?_eq_some_iff.1 hla).1
  have hl2 : (Wa.putObj l (.loop { rec .ready none with state := .busy })).heap[l]? = some (.loop { rec .ready none with state := .busy }) := World.putObj_heap_same hlt2
  have ht2 : Turn l C Wa (Wa.putObj l (.loop { rec .ready none with state := .busy })) := (Turn.refl l C Wa).putObj (Nat.le_refl _) hla rfl hlC _
  refine wpIn_mono (hbody pre x a' _ ⟨_, hl2⟩ (hI pre _ _ hia ht2) (hAx x a' () _ _ hax ht2) hlen hsp) ?_
  have fin : ∀ (jump : Option Code) (W3 : World), Only T (Wa.putObj l (.loop { rec .ready none with state := .busy })) W3 →
      (Instr.endRound l jump).run P W3 = .ok (.bool jump.isNone) (W3.putObj l (.loop (rec (if jump.isNone then .ready else .done) jump))) ∧
      (W3.putObj l (.loop (rec (if jump.isNone then .ready else .done) jump))).heap[l]? = some (.loop (rec (if jump.isNone then .ready else .done) jump)) ∧
      Turn l C W3 (W3.putObj l (.loop (rec (if jump.isNone then .ready else .done) jump))) ∧ Only (l :: T) W (W3.putObj l (.loop (rec (if jump.isNone then .ready else .done) jump))) := fun jump W3 hO3 => by
    have hl3 := hO3.get hl2 hlT
    have h4 := run_endRound (P := P) jump hl3
    have h5 := (Turn.refl l C W3).putObj (o' := .loop (rec (if jump.isNone then .ready else .done) jump)) (Nat.le_refl _) hl3 rfl hlC
    have h6 : Only (l :: T) W W3 := ((hOa.mono (T := l :: T) (by simp)).putObj (.inl (by simp)) _).trans (hO3.mono (fun k hk => .inl (by simp [hk])))
    rw [hrec] at h4 h5 ⊢
    exact ⟨h4, World.putObj_heap_same (Array.getElem?_eq_some_iff.1 hl3).1, h5, h6.putObj (.inl (by simp)) _⟩
  rintro e a3 W3 hp
  cases e with
  | normal =>
    obtain ⟨hk3, hi3⟩ := hp
    obtain ⟨hr, hl4, ht4, hO4⟩ := fin none W3 hk3
    exact ⟨_, _, hr, hO4, .inl ⟨rfl, hI _ _ _ hi3 ht4, hl4⟩⟩
  | ret =>
    obtain ⟨hk3, hi3⟩ := hp
    obtain ⟨hr, hl4, ht4, hO4⟩ := fin (some .ret) W3 hk3
    exact ⟨_, _, hr, hO4, .inr ⟨rfl, .ret, hIx _ _ _ _ hi3 ht4, hl4⟩⟩
  | exit id =>
    obtain ⟨hk3, hi3⟩ := hp
    obtain ⟨hr, hl4, ht4, hO4⟩ := fin (some (.exit id)) W3 hk3
    exact ⟨_, _, hr, hO4, .inr ⟨rfl, .exit id, hIx _ _ _ _ hi3 ht4, hl4⟩⟩
  | goto t =>
    obtain ⟨hk3, hi3⟩ := hp
    obtain ⟨hr, hl4, ht4, hO4⟩ := fin (some (.goto t)) W3 hk3
    exact ⟨_, _, hr, hO4, .inr ⟨rfl, .goto t, hIx _ _ _ _ hi3 ht4, hl4⟩⟩
  | panic ch => exact hp.elim
  | outgrown => exact hp.elim
/-- THE LAW, at an outermost loop -/
theorem wpIn_rangeT {α : Type} {g : Operand} {ps : Array Tmp} {assign body : Code} {Q : Exit → Act → World → Prop} {a : Act} {w : World}
    (hro : F.round = none) (h1 : 1 ≤ n) {gf : Nat} {lb : Array Value} (hg : a.eval g = .func (.func gf) #[] lb) (hFg : F.fn gf) (eg : ∀ args w, (callFunc gf args).run P w = .ok (.enter gf args) w)
    {encs : α → Array Value} {R C : List Nat} {S Sp : List α → Prop} {N : Nat} {w0 : World} (hseq : SeqT F (n - 1) P gf lb encs R C S Sp N w0) (hb0 : Below w0.heap.size w0 w) (hps : ∀ x, (encs x).size = ps.size)
    (T : List Nat) (hT : ∀ k ∈ T, k < w.heap.size ∧ k ∉ R) (hC : ∀ k ∈ C, k < w.heap.size)
    (I : List α → World → Prop) (Ix : Code → List α → World → Prop) (hI : AbT w.heap.size C I) (hIx : ∀ c, AbT w.heap.size C (Ix c)) (h0 : I [] w) (Ax : α → Act → World → Prop) (hAx : ∀ x a', AbT w.heap.size C (fun (_ : Unit) W => Ax x a' W))
    (hassign : ∀ (l : Nat) (pre : List α) (x : α) (W : World) (K : Act → World → Prop), w.heap.size ≤ l → I pre W → (∀ a' W', Only [] W W' → Ax x a' W' → K a' W') →
      assign.wpIn (F.inRound l) (n - 1 - 1) P (Exit.then K (fun _ _ _ => False)) { tmps := (ps.zip (encs x)).foldl (fun t (p, v) => t.setIfInBounds p v) a.tmps, defers := [] } W)
    (hbody : ∀ (l : Nat) (pre : List α) (x : α) (a' : Act) (W : World), w.heap.size ≤ l → (∃ r, W.heap[l]? = some (.loop r)) → I pre W → Ax x a' W → pre.length < N → Sp (pre ++ [x]) → body.wpIn (F.inRound l) (n - 1 - 1) P (postT T I Ix (pre ++ [x]) W) a' W)
    (hdone : ∀ (D : Nat) (xs : List α) (W : World), w.heap.size ≤ D → S xs → I xs W → W.heap[D]? = some (.deferred (some [])) → Q .normal { a with defers := { target := .collected D, args := #[] } :: a.defers } W)
    (hstop : ∀ (D : Nat) (c : Code) (pre : List α) (W : World), w.heap.size ≤ D → Sp pre → Ix c pre W → W.heap[D]? = some (.deferred (some [])) → c.wpIn F n P Q { a with defers := { target := .collected D, args := #[] } :: a.defers } W) :
    (Code.rangeFunc g ps assign body).wpIn F n P Q a w := by
  refine wpIn_rangeFunc ?_
  intro fn hfn
  rw [hro]
  obtain ⟨rec, hrec⟩ : ∃ rec : LoopState → Option Code → Loop, rec = fun st pe => { state := st, pending := pe, fn, tmps := a.tmps, params := ps, assign, body, defers := w.heap.size } := ⟨_, rfl⟩
  obtain ⟨W1, hW1⟩ : ∃ W1, (w.alloc (.deferred (some []))).alloc (.loop (rec .ready none)) = W1 := ⟨_, rfl⟩
  have hL1 : W1.heap[w.heap.size + 1]? = some (.loop (rec .ready none)) := by
    rw [← hW1]; have := World.alloc_heap_new (w.alloc (.deferred (some []))) (.loop (rec .ready none)); rwa [World.size_alloc] at this
  have hK1 : W1.heap[w.heap.size]? = some (.deferred (some [])) := by
    rw [← hW1]; exact (Below.heap_alloc _ _ _ (by simp)).trans (World.alloc_heap_new w _)
  have hO1 : Only [] w W1 := by rw [← hW1]; exact ((Only.refl [] w).alloc _).alloc _
  have hb1 : Below w0.heap.size w0 W1 := hb0.trans ((hO1.below (B := w.heap.size) (by simp) (Nat.le_refl _)).mono hb0.size)
  have hmono : ∀ {β : Type} {J : β → World → Prop}, AbT w.heap.size C J → AbT (w.heap.size + 1) C J := fun h => h.mono (by omega) (fun _ h => h) (fun k hk => by have := hC k hk; omega)
  have hDT : w.heap.size ∉ T := fun e => by have := (hT _ e).1; omega
  have hDC : w.heap.size ∉ C := fun e => by have := hC _ e; omega
  have hLC : w.heap.size + 1 ∉ C := fun e => by have := hC _ e; omega
  refine ⟨w.heap.size + 1, [{ target := .collected w.heap.size, args := #[] }], W1, { target := .fn (.func gf) lb, args := #[.func (.yield (w.heap.size + 1)) #[] #[]] }, W1, gf,
    #[.func (.yield (w.heap.size + 1)) #[] #[]] ++ lb, W1, ?_, ?_, ?_, ?_, fun _ => h1, ?_⟩
  · rw [← hW1, hrec]; exact run_enterLoop_outer _ _ _ _ _
  · simp only [resolve, hg]
    simp [go_sem]
  · intro f' hf'; simp [Target.leads] at hf'; subst hf'; exact hFg
  · simp [invoke, go_sem, eg]
  · refine (rangeT_core (l := w.heap.size + 1) hfn rec ⟨_, hrec⟩ hseq hb1 hps (by have := hb0.size; omega) hL1 T (fun k hk => ⟨by have := (hT k hk).1; omega, (hT k hk).2⟩) (fun k hk => by have := hC k hk; omega)
      (fun pre W => I pre W ∧ W.heap[w.heap.size]? = some (.deferred (some []))) (fun c pre W => Ix c pre W ∧ W.heap[w.heap.size]? = some (.deferred (some [])))
      ((hmono hI).and (AbT.heap (fun _ => .deferred (some [])) hDC (fun _ => .inl (by omega)))) (fun c => (hmono (hIx c)).and (AbT.heap (fun _ => .deferred (some [])) hDC (fun _ => .inl (by omega))))
      ⟨hI _ _ _ h0 (Turn.of_only hO1), hK1⟩ Ax (fun x a' => hmono (hAx x a')) (fun pre x W K hi hK => hassign _ pre x W K (by omega) hi.1 hK) ?_).mono ?_
    · rintro pre x a' W hr ⟨hi, hk⟩ hax hlen hsp
      exact wpIn_mono (hbody _ pre x a' W (by omega) hr hi hax hlen hsp) (postT_mono (fun W' hO h => ⟨hO, h, hO.get hk hDT⟩) (fun c W' hO h => ⟨hO, h, hO.get hk hDT⟩))
    · rintro e W2 ⟨⟨v, rfl⟩, (⟨xs, hS, ⟨hi, hk⟩, hl⟩ | ⟨pre, hSp, c, ⟨hi, hk⟩, hl⟩)⟩
      · exact ⟨none, _, by have := run_endLoop (P := P) hl (by rw [hrec]; simp); rw [hrec] at this; exact this, hdone _ xs _ (Nat.le_refl _) hS (hI _ _ _ hi ((Turn.refl _ C W2).putObj (by omega) hl rfl hLC _)) ((World.putObj_heap_other (by omega)).trans hk)⟩
      · exact ⟨some c, _, by have := run_endLoop (P := P) hl (by rw [hrec]; simp); rw [hrec] at this; exact this, hstop _ c pre _ (Nat.le_refl _) hSp (hIx c _ _ _ hi ((Turn.refl _ C W2).putObj (by omega) hl rfl hLC _)) ((World.putObj_heap_other (by omega)).trans hk)⟩
/-- THE LAW, at a loop within a round of loop l₀ -/
theorem wpIn_rangeTN {α : Type} {g : Operand} {ps : Array Tmp} {assign body : Code} {Q : Exit → Act → World → Prop} {a : Act} {w : World}
    {l₀ : Nat} {r₀ : Loop} (hro : F.round = some l₀) (hl₀ : w.heap[l₀]? = some (.loop r₀)) (h1 : 1 ≤ n) {gf : Nat} {lb : Array Value} (hg : a.eval g = .func (.func gf) #[] lb) (hFg : F.fn gf) (eg : ∀ args w, (callFunc gf args).run P w = .ok (.enter gf args) w)
    {encs : α → Array Value} {R C : List Nat} {S Sp : List α → Prop} {N : Nat} {w0 : World} (hseq : SeqT F (n - 1) P gf lb encs R C S Sp N w0) (hb0 : Below w0.heap.size w0 w) (hps : ∀ x, (encs x).size = ps.size)
    (T : List Nat) (hT : ∀ k ∈ T, k < w.heap.size ∧ k ∉ R) (hC : ∀ k ∈ C, k < w.heap.size)
    (I : List α → World → Prop) (Ix : Code → List α → World → Prop) (hI : AbT w.heap.size C I) (hIx : ∀ c, AbT w.heap.size C (Ix c)) (h0 : I [] w) (Ax : α → Act → World → Prop) (hAx : ∀ x a', AbT w.heap.size C (fun (_ : Unit) W => Ax x a' W))
    (hassign : ∀ (l : Nat) (pre : List α) (x : α) (W : World) (K : Act → World → Prop), w.heap.size ≤ l → I pre W → (∀ a' W', Only [] W W' → Ax x a' W' → K a' W') →
      assign.wpIn (F.inRound l) (n - 1 - 1) P (Exit.then K (fun _ _ _ => False)) { tmps := (ps.zip (encs x)).foldl (fun t (p, v) => t.setIfInBounds p v) a.tmps, defers := [] } W)
    (hbody : ∀ (l : Nat) (pre : List α) (x : α) (a' : Act) (W : World), w.heap.size ≤ l → (∃ r, W.heap[l]? = some (.loop r)) → I pre W → Ax x a' W → pre.length < N → Sp (pre ++ [x]) → body.wpIn (F.inRound l) (n - 1 - 1) P (postT T I Ix (pre ++ [x]) W) a' W)
    (hdone : ∀ (xs : List α) (W : World), S xs → I xs W → Q .normal a W)
    (hstop : ∀ (c : Code) (pre : List α) (W : World), Sp pre → Ix c pre W → c.wpIn F n P Q a W) :
    (Code.rangeFunc g ps assign body).wpIn F n P Q a w := by
  refine wpIn_rangeFunc ?_
  intro fn hfn
  rw [hro]
  obtain ⟨rec, hrec⟩ : ∃ rec : LoopState → Option Code → Loop, rec = fun st pe => { state := st, pending := pe, fn, tmps := a.tmps, params := ps, assign, body, defers := r₀.defers } := ⟨_, rfl⟩
  obtain ⟨W1, hW1⟩ : ∃ W1, w.alloc (.loop (rec .ready none)) = W1 := ⟨_, rfl⟩
  have hL1 : W1.heap[w.heap.size]? = some (.loop (rec .ready none)) := by rw [← hW1]; exact World.alloc_heap_new w _
  have hO1 : Only [] w W1 := by rw [← hW1]; exact (Only.refl [] w).alloc _
  have hb1 : Below w0.heap.size w0 W1 := hb0.trans ((hO1.below (B := w.heap.size) (by simp) (Nat.le_refl _)).mono hb0.size)
  have hLC : w.heap.size ∉ C := fun e => by have := hC _ e; omega
  refine ⟨w.heap.size, [], W1, { target := .fn (.func gf) lb, args := #[.func (.yield w.heap.size) #[] #[]] }, W1, gf,
    #[.func (.yield w.heap.size) #[] #[]] ++ lb, W1, ?_, ?_, ?_, ?_, fun _ => h1, ?_⟩
  · rw [← hW1, hrec]; exact run_enterLoop_inner hl₀ _ _ _ _ _
  · simp only [resolve, hg]
    simp [go_sem]
  · intro f' hf'; simp [Target.leads] at hf'; subst hf'; exact hFg
  · simp [invoke, go_sem, eg]
  · refine (rangeT_core (l := w.heap.size) hfn rec ⟨_, hrec⟩ hseq hb1 hps hb0.size hL1 T hT hC I Ix hI hIx (hI _ _ _ h0 (Turn.of_only hO1)) Ax hAx (fun pre x W K hi hK => hassign _ pre x W K (Nat.le_refl _) hi hK)
      (fun pre x a' W hr hi hax hlen hsp => hbody _ pre x a' W (Nat.le_refl _) hr hi hax hlen hsp)).mono ?_
    rintro e W2 ⟨⟨v, rfl⟩, (⟨xs, hS, hi, hl⟩ | ⟨pre, hSp, c, hi, hl⟩)⟩
    · exact ⟨none, _, by have := run_endLoop (P := P) hl (by rw [hrec]; simp); rw [hrec] at this; exact this, hdone xs _ hS (hI _ _ _ hi ((Turn.refl _ C W2).putObj (Nat.le_refl _) hl rfl hLC _))⟩
    · exact ⟨some c, _, by have := run_endLoop (P := P) hl (by rw [hrec]; simp); rw [hrec] at this; exact this, hstop c pre _ hSp (hIx c _ _ _ hi ((Turn.refl _ C W2).putObj (Nat.le_refl _) hl rfl hLC _))⟩
/-- the laws, where the frame of a round is known ahead -/
theorem wpIn_rangeT1 {α : Type} {g : Operand} {ps : Array Tmp} {assign body : Code} {Q : Exit → Act → World → Prop} {a : Act} {w : World}
    (hro : F.round = none) (h1 : 1 ≤ n) {gf : Nat} {lb : Array Value} (hg : a.eval g = .func (.func gf) #[] lb) (hFg : F.fn gf) (eg : ∀ args w, (callFunc gf args).run P w = .ok (.enter gf args) w)
    {encs : α → Array Value} {R C : List Nat} {S Sp : List α → Prop} {N : Nat} {w0 : World} (hseq : SeqT F (n - 1) P gf lb encs R C S Sp N w0) (hb0 : Below w0.heap.size w0 w) (hps : ∀ x, (encs x).size = ps.size)
    (T : List Nat) (hT : ∀ k ∈ T, k < w.heap.size ∧ k ∉ R) (hC : ∀ k ∈ C, k < w.heap.size)
    (I : List α → World → Prop) (Ix : Code → List α → World → Prop) (hI : AbT w.heap.size C I) (hIx : ∀ c, AbT w.heap.size C (Ix c)) (h0 : I [] w) (a₁ : α → Act)
    (hassign : ∀ (l : Nat) (pre : List α) (x : α) (W : World) (K : Act → World → Prop), w.heap.size ≤ l → I pre W → (∀ W', Only [] W W' → K (a₁ x) W') →
      assign.wpIn (F.inRound l) (n - 1 - 1) P (Exit.then K (fun _ _ _ => False)) { tmps := (ps.zip (encs x)).foldl (fun t (p, v) => t.setIfInBounds p v) a.tmps, defers := [] } W)
    (hbody : ∀ (l : Nat) (pre : List α) (x : α) (W : World), w.heap.size ≤ l → (∃ r, W.heap[l]? = some (.loop r)) → I pre W → pre.length < N → Sp (pre ++ [x]) → body.wpIn (F.inRound l) (n - 1 - 1) P (postT T I Ix (pre ++ [x]) W) (a₁ x) W)
    (hdone : ∀ (D : Nat) (xs : List α) (W : World), w.heap.size ≤ D → S xs → I xs W → W.heap[D]? = some (.deferred (some [])) → Q .normal { a with defers := { target := .collected D, args := #[] } :: a.defers } W)
    (hstop : ∀ (D : Nat) (c : Code) (pre : List α) (W : World), w.heap.size ≤ D → Sp pre → Ix c pre W → W.heap[D]? = some (.deferred (some [])) → c.wpIn F n P Q { a with defers := { target := .collected D, args := #[] } :: a.defers } W) :
    (Code.rangeFunc g ps assign body).wpIn F n P Q a w :=
  wpIn_rangeT hro h1 hg hFg eg hseq hb0 hps T hT hC I Ix hI hIx h0 (fun x a' _ => a' = a₁ x) (fun _ _ _ _ _ h _ => h) (fun l pre x W K hl hi hK => hassign l pre x W K hl hi (fun W' hO => hK _ W' hO rfl))
    (fun l pre x a' W hl hr hi e hlen hsp => by subst e; exact hbody l pre x W hl hr hi hlen hsp) hdone hstop
theorem wpIn_rangeTN1 {α : Type} {g : Operand} {ps : Array Tmp} {assign body : Code} {Q : Exit → Act → World → Prop} {a : Act} {w : World}
    {l₀ : Nat} {r₀ : Loop} (hro : F.round = some l₀) (hl₀ : w.heap[l₀]? = some (.loop r₀)) (h1 : 1 ≤ n) {gf : Nat} {lb : Array Value} (hg : a.eval g = .func (.func gf) #[] lb) (hFg : F.fn gf) (eg : ∀ args w, (callFunc gf args).run P w = .ok (.enter gf args) w)
    {encs : α → Array Value} {R C : List Nat} {S Sp : List α → Prop} {N : Nat} {w0 : World} (hseq : SeqT F (n - 1) P gf lb encs R C S Sp N w0) (hb0 : Below w0.heap.size w0 w) (hps : ∀ x, (encs x).size = ps.size)
    (T : List Nat) (hT : ∀ k ∈ T, k < w.heap.size ∧ k ∉ R) (hC : ∀ k ∈ C, k < w.heap.size)
    (I : List α → World → Prop) (Ix : Code → List α → World → Prop) (hI : AbT w.heap.size C I) (hIx : ∀ c, AbT w.heap.size C (Ix c)) (h0 : I [] w) (a₁ : α → Act)
    (hassign : ∀ (l : Nat) (pre : List α) (x : α) (W : World) (K : Act → World → Prop), w.heap.size ≤ l → I pre W → (∀ W', Only [] W W' → K (a₁ x) W') →
      assign.wpIn (F.inRound l) (n - 1 - 1) P (Exit.then K (fun _ _ _ => False)) { tmps := (ps.zip (encs x)).foldl (fun t (p, v) => t.setIfInBounds p v) a.tmps, defers := [] } W)
    (hbody : ∀ (l : Nat) (pre : List α) (x : α) (W : World), w.heap.size ≤ l → (∃ r, W.heap[l]? = some (.loop r)) → I pre W → pre.length < N → Sp (pre ++ [x]) → body.wpIn (F.inRound l) (n - 1 - 1) P (postT T I Ix (pre ++ [x]) W) (a₁ x) W)
    (hdone : ∀ (xs : List α) (W : World), S xs → I xs W → Q .normal a W)
    (hstop : ∀ (c : Code) (pre : List α) (W : World), Sp pre → Ix c pre W → c.wpIn F n P Q a W) :
    (Code.rangeFunc g ps assign body).wpIn F n P Q a w :=
  wpIn_rangeTN hro hl₀ h1 hg hFg eg hseq hb0 hps T hT hC I Ix hI hIx h0 (fun x a' _ => a' = a₁ x) (fun _ _ _ _ _ h _ => h) (fun l pre x W K hl hi hK => hassign l pre x W K hl hi (fun W' hO => hK _ W' hO rfl))
    (fun l pre x a' W hl hr hi e hlen hsp => by subst e; exact hbody l pre x W hl hr hi hlen hsp) hdone hstop
/-- a function whose body holds ranges over functions, walked as everywhere -/
theorem calls_of_marks {f : FuncId} {fn : Func} {c : Code} {args : Array Value} {w : World} {R : Ending → World → Prop} (hf : P.funcs[f]? = some fn) (hb : fn.body = some c)
    (h : c.wp P (bodyPostM Fence.wide 8 P fn R) { tmps := args ++ Array.replicate (fn.ntmps - args.size) undef, defers := [] } w) : Calls P f args w R :=
  (callsIn_wide (n := 8)).1 (callsIn_of_wp_marks hf hb trivial (wpIn_wide.2 h) rfl)
def marks (ds : List Nat) : List Deferred := ds.map fun D => { target := .collected D, args := #[] }
theorem leave_marks {fn : Func} {tmps : Array Value} {R : Ending → World → Prop} {v : Value} : ∀ (ds : List Nat) (W : World), ds.Nodup → (∀ D ∈ ds, W.heap[D]? = some (.deferred (some []))) →
    (∀ W', Only ds W W' → (results fn tmps).run P W' = .ok v W' ∧ R (.returned v) W') → LeavesInM F n P fn tmps R (marks ds) .returning W
  | [], W, _, _, h => ⟨v, h W (Only.refl _ _)⟩
  | D :: ds, W, hn, hk, h => by
    have hD := hk D (by simp)
    refine ⟨by simp, .inl ⟨D, _, rfl, run_takeDeferred hD, leave_marks ds _ (List.nodup_cons.1 hn).2 (fun E hE => ?_) (fun W' hO => h W' ?_)⟩⟩
    · rw [World.putObj_heap_other (fun e => (List.nodup_cons.1 hn).1 (by rw [← e]; exact hE))]
      exact hk E (by simp [hE])
    · exact ((Only.refl (D :: ds) W).putObj (.inl (by simp)) _).trans (hO.mono (fun k hk => .inl (by simp [hk])))
end Go.Rv
