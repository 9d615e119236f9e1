/- Proved here: Laws over any program: a range over a function whose iterator reads some blocks and keeps no cells of its own from round to round; a round may write cells wherever it likes but in those blocks; a map's entries, one by one (slices.All), for rounds that write cells of their own; Laws over any program, inside a round: things are appended to a row of the call's own; a slice is built out of its parts. -/
import Derived.LoopTactic
import Derived.Maps.OwnIn
import Derived.Great.BuildSlice
import Derived.Test.YtoiephmngdecaaaKae
import Derived.Test.YtoiephmngdecaaaKaj
import Derived.Test.YtoiephmngdecaaaKao
namespace Go.Rv
open Go.RowKit
set_option linter.unusedVariables false
/-- the blocks of a list are as they were, and so is whatever is no cells, but for block l -/
structure KeepsL (l : Nat) (R : List Nat) (A W : World) : Prop where
  size : A.heap.size ≤ W.heap.size
  rows : ∀ k ∈ R, W.heap[k]? = A.heap[k]?
  others : ∀ (k : Nat) (o : Obj), A.heap[k]? = some o → o.isCells = false → k ≠ l → W.heap[k]? = some o
/-- a round's word -/
structure Keeps (R : List Nat) (A W : World) : Prop where
  size : A.heap.size ≤ W.heap.size
  rows : ∀ k ∈ R, W.heap[k]? = A.heap[k]?
  others : ∀ (k : Nat) (o : Obj), A.heap[k]? = some o → o.isCells = false → W.heap[k]? = some o
theorem Keeps.refl (R : List Nat) (w : World) : Keeps R w w := ⟨Nat.le_refl _, fun _ _ => rfl, fun _ _ h _ => h⟩
theorem Keeps.trans {R : List Nat} {a b c : World} (h : Keeps R a b) (k : Keeps R b c) : Keeps R a c := ⟨Nat.le_trans h.size k.size, fun x hx => (k.rows x hx).trans (h.rows x hx), fun x o hx ho => k.others x o (h.others x o hx ho) ho⟩
/-- blocks of cells turn, none of which is of the list -/
theorem Keeps.of_only {S R : List Nat} {a w : World} (h : Only S a w) (hR : ∀ k ∈ R, k < a.heap.size ∧ k ∉ S) (hS : ∀ k ∈ S, ∀ o, a.heap[k]? = some o → o.isCells = true) : Keeps R a w :=
  ⟨h.size, fun k hk => h.block k (hR k hk).1 (hR k hk).2, fun k o hk ho => h.get hk (fun hm => by have := hS k hm o hk; rw [ho] at this; cases this)⟩
/-- AN ITERATOR's WORD: R: the blocks that it reads -/
def SeqK {α : Type} (F : Fence) (n : Nat) (P : Program) (g : Nat) (lb : Array Value) (encs : α → Array Value) (R : List Nat) (S Sp : List α → Prop) (N : Nat) (w : World) : Prop :=
  ∀ (l : Nat) (J Jx : List α → World → Prop) (W : World), Below w.heap.size w W → w.heap.size ≤ l → l < W.heap.size → AbT W.heap.size [] J → AbT W.heap.size [] Jx →
    (∀ pre x W1, J pre W1 → pre.length < N → Sp (pre ++ [x]) → YieldAt F (n - 1) P l (encs x) W1 fun e W' =>
      KeepsL l R W1 W' ∧ ((e = .returned (.bool true) ∧ J (pre ++ [x]) W') ∨ (e = .returned (.bool false) ∧ Jx (pre ++ [x]) W'))) →
    J [] W →
    CallsIn F n P g (#[.func (.yield l) #[] #[]] ++ lb) W fun e W' => (∃ v, e = .returned v) ∧ ((∃ xs, S xs ∧ J xs W') ∨ (∃ pre, Sp pre ∧ Jx pre W'))
/-- how a round's body may be left -/
def postK {α : Type} (R : List Nat) (I : List α → World → Prop) (Ix : Code → List α → World → Prop) (xs : List α) (W : World) : Exit → Act → World → Prop
  | .normal, _, W' => Keeps R W W' ∧ I xs W'
  | .ret, _, W' => Keeps R W W' ∧ Ix .ret xs W'
  | .exit id, _, W' => Keeps R W W' ∧ Ix (.exit id) xs W'
  | .goto t, _, W' => Keeps R W W' ∧ Ix (.goto t) xs W'
  | .panic _, _, _ => False
  | .outgrown, _, _ => False
theorem postK_mono {α : Type} {R : List Nat} {I I' : List α → World → Prop} {Ix Ix' : Code → List α → World → Prop} {xs ys : List α} {W W0 : World} (hI : ∀ W', Keeps R W W' → I xs W' → Keeps R W0 W' ∧ I' ys W') (hIx : ∀ c W', Keeps R W W' → Ix c xs W' → Keeps R W0 W' ∧ Ix' c ys W') :
    ∀ e a W', postK R I Ix xs W e a W' → postK R I' Ix' ys W0 e a W' := by
  intro e a W' h
  cases e with
  | normal => exact hI W' h.1 h.2
  | ret => exact hIx _ W' h.1 h.2
  | exit id => exact hIx _ W' h.1 h.2
  | goto t => exact hIx _ W' h.1 h.2
  | panic _ => exact h.elim
  | outgrown => exact h.elim
variable {F : Fence} {n : Nat} {P : Program}
/-- the iterator's word, for the loop's record l -/
theorem rangeK_core {α : Type} {ps : Array Tmp} {assign body : Code} {fn : FuncId} {tmps : Array Value} {l : Nat} {W1 w0 : World} (hF : F.fn fn) {gf : Nat} {lb : Array Value} {encs : α → Array Value} {R : List Nat} {S Sp : List α → Prop} {N : Nat}
    (rec : LoopState → Option Code → Loop) (hrec : ∃ dfr, rec = fun st pe => { state := st, pending := pe, fn, tmps, params := ps, assign, body, defers := dfr })
    (hseq : SeqK F n P gf lb encs R S Sp N w0) (hb : Below w0.heap.size w0 W1) (hps : ∀ x, (encs x).size = ps.size) (hw0 : w0.heap.size ≤ l) (hl1 : W1.heap[l]? = some (.loop (rec .ready none)))
    (hR : ∀ k ∈ R, k < l)
    (I : List α → World → Prop) (Ix : Code → List α → World → Prop) (hI : AbT l [] I) (hIx : ∀ c, AbT l [] (Ix c)) (h0 : I [] W1) (Ax : α → Act → World → Prop) (hAx : ∀ x a', AbT l [] (fun (_ : Unit) W => Ax x a' W))
    (hassign : ∀ (pre : List α) (x : α) (W : World) (K : Act → World → Prop), I pre W → (∀ a' W', Only [] W W' → Ax x a' W' → K a' W') →
      assign.wpIn (F.inRound l) (n - 1) P (Exit.then K (fun _ _ _ => False)) { tmps := (ps.zip (encs x)).foldl (fun t (p, v) => t.setIfInBounds p v) tmps, defers := [] } W)
    (hbody : ∀ (pre : List α) (x : α) (a' : Act) (W : World), (∃ r, W.heap[l]? = some (.loop r)) → I pre W → Ax x a' W → pre.length < N → Sp (pre ++ [x]) → body.wpIn (F.inRound l) (n - 1) P (postK R I Ix (pre ++ [x]) W) a' W) :
    CallsIn F n P gf (#[.func (.yield l) #[] #[]] ++ lb) W1 fun e W2 => (∃ v, e = .returned v) ∧ ((∃ xs, S xs ∧ I xs W2 ∧ W2.heap[l]? = some (.loop (rec .ready none))) ∨ (∃ pre, Sp pre ∧ ∃ c, Ix c pre W2 ∧ W2.heap[l]? = some (.loop (rec .done (some c))))) := by
  obtain ⟨dfr, hrec⟩ := hrec; have hlt : l < W1.heap.size := (Array.getElem?_eq_some_iff.1 hl1).1; have hmono : ∀ {A W : World}, Turn W1.heap.size [] A W → Turn l [] A W := fun ht => ht.mono (by omega) (fun _ h => h) (fun k hk => by cases hk); refine (hseq l (fun pre W => I pre W ∧ W.heap[l]? = some (.loop (rec .ready none))) (fun pre W => ∃ c, Ix c pre W ∧ W.heap[l]? = some (.loop (rec .done (some c)))) W1 hb hw0 hlt
    (fun s A W hs ht => ⟨hI s A W hs.1 (hmono ht), ht.block l _ hs.2 (by simp) (.inl hlt)⟩) (fun s A W hs ht => by
      obtain ⟨c, hc, hl⟩ := hs; exact ⟨c, hIx c s A W hc (hmono ht), ht.block l _ hl (by simp) (.inl hlt)⟩) ?_ ⟨h0, hl1⟩)
  rintro pre x W ⟨hi, hl⟩ hlen hsp; have hy := run_yield (P := P) (args := encs x) hl (by rw [hrec]; exact hps x); rw [hrec] at hy; refine ⟨fn, _, assign, body, hy, roundIn_of_wpIn hF (hassign pre x W _ hi ?_)⟩; clear hy; intro a' Wa hOa hax; have hla := hOa.get hl (by simp); have hia := hI pre W Wa hi (Turn.of_only hOa); refine ⟨_, run_beginRound hla (by rw [hrec]), ?_⟩; have hlt2 : l < Wa.heap.size := (Array.getElem?_eq_some_iff.1 hla).1; have hl2 : (Wa.putObj l (.loop { rec .ready none with state := .busy })).heap[l]? = some (.loop { rec .ready none with state := .busy }) := World.putObj_heap_same hlt2; have ht2 : Turn l [] Wa (Wa.putObj l (.loop { rec .ready none with state := .busy })) := (Turn.refl l [] Wa).putObj (Nat.le_refl _) hla rfl (by simp) _; refine wpIn_mono (hbody pre x a' _ ⟨_, hl2⟩ (hI pre _ _ hia ht2) (hAx x a' () _ _ hax ht2) hlen hsp) ?_; have fin : ∀ (jump : Option Code) (W3 : World), Keeps R (Wa.putObj l (.loop { rec .ready none with state := .busy })) W3 →
      (Instr.endRound l jump).run P W3 = .ok (.bool jump.isNone) (W3.putObj l (.loop (rec (if jump.isNone then .ready else .done) jump))) ∧
      (W3.putObj l (.loop (rec (if jump.isNone then .ready else .done) jump))).heap[l]? = some (.loop (rec (if jump.isNone then .ready else .done) jump)) ∧
      Turn l [] W3 (W3.putObj l (.loop (rec (if jump.isNone then .ready else .done) jump))) ∧ KeepsL l R W (W3.putObj l (.loop (rec (if jump.isNone then .ready else .done) jump))) := fun jump W3 hO3 => by
    have hl3 := hO3.others l _ hl2 rfl; have h4 := run_endRound (P := P) jump hl3; have h5 := (Turn.refl l [] W3).putObj (o' := .loop (rec (if jump.isNone then .ready else .done) jump)) (Nat.le_refl _) hl3 rfl (by simp); rw [hrec] at h4 h5 ⊢; refine ⟨h4, World.putObj_heap_same (Array.getElem?_eq_some_iff.1 hl3).1, h5, ⟨?_, fun k hk => ?_, fun k o hk ho hne => ?_⟩⟩
    · have h1 := hOa.size; have h2 := hO3.size; simp only [World.putObj_size] at h2 ⊢; omega
    · have hkl := hR k hk; have hlW : l < W.heap.size := (Array.getElem?_eq_some_iff.1 hl).1; rw [World.putObj_heap_other (by omega), hO3.rows k hk, World.putObj_heap_other (by omega)]; exact hOa.block k (by omega) (by simp)
    · rw [World.putObj_heap_other hne]; refine hO3.others k o ?_ ho; rw [World.putObj_heap_other hne]; exact hOa.get hk (by simp)
  rintro e a3 W3 hp
  cases e with
  | normal =>
    obtain ⟨hk3, hi3⟩ := hp; obtain ⟨hr, hl4, ht4, hO4⟩ := fin none W3 hk3; exact ⟨_, _, hr, hO4, .inl ⟨rfl, hI _ _ _ hi3 ht4, hl4⟩⟩
  | ret =>
    obtain ⟨hk3, hi3⟩ := hp; obtain ⟨hr, hl4, ht4, hO4⟩ := fin (some .ret) W3 hk3; exact ⟨_, _, hr, hO4, .inr ⟨rfl, .ret, hIx _ _ _ _ hi3 ht4, hl4⟩⟩
  | exit id =>
    obtain ⟨hk3, hi3⟩ := hp; obtain ⟨hr, hl4, ht4, hO4⟩ := fin (some (.exit id)) W3 hk3; exact ⟨_, _, hr, hO4, .inr ⟨rfl, .exit id, hIx _ _ _ _ hi3 ht4, hl4⟩⟩
  | goto t =>
    obtain ⟨hk3, hi3⟩ := hp; obtain ⟨hr, hl4, ht4, hO4⟩ := fin (some (.goto t)) W3 hk3; exact ⟨_, _, hr, hO4, .inr ⟨rfl, .goto t, hIx _ _ _ _ hi3 ht4, hl4⟩⟩
  | panic ch => exact hp.elim
  | outgrown => exact hp.elim
/-- THE LAW, at an outermost loop, where a round's frame is known but for one block that its assignment has laid -/
theorem wpIn_rangeK2 {α : Type} {g : Operand} {ps : Array Tmp} {assign body : Code} {Q : Exit → Act → World → Prop} {a : Act} {w : World}
    (hro : F.round = none) (h1 : 1 ≤ n) {gf : Nat} {lb : Array Value} (hg : a.eval g = .func (.func gf) #[] lb) (hFg : F.fn gf) (eg : ∀ args w, (callFunc gf args).run P w = .ok (.enter gf args) w)
    {encs : α → Array Value} {R : List Nat} {S Sp : List α → Prop} {N : Nat} {w0 : World} (hseq : SeqK F (n - 1) P gf lb encs R S Sp N w0) (hb0 : Below w0.heap.size w0 w) (hps : ∀ x, (encs x).size = ps.size)
    (hR : ∀ k ∈ R, k < w.heap.size)
    (I : List α → World → Prop) (Ix : Code → List α → World → Prop) (hI : AbT w.heap.size [] I) (hIx : ∀ c, AbT w.heap.size [] (Ix c)) (h0 : I [] w) (fr : α → Nat → Act) (Bx : α → Nat → World → Prop) (hBx : ∀ x b, AbT w.heap.size [] (fun (_ : Unit) W => Bx x b W))
    (hassign : ∀ (l : Nat) (pre : List α) (x : α) (W : World) (K : Act → World → Prop), w.heap.size ≤ l → I pre W → (∀ b W', Only [] W W' → Bx x b W' → K (fr x b) W') →
      assign.wpIn (F.inRound l) (n - 1 - 1) P (Exit.then K (fun _ _ _ => False)) { tmps := (ps.zip (encs x)).foldl (fun t (p, v) => t.setIfInBounds p v) a.tmps, defers := [] } W)
    (hbody : ∀ (l : Nat) (pre : List α) (x : α) (b : Nat) (W : World), w.heap.size ≤ l → (∃ r, W.heap[l]? = some (.loop r)) → I pre W → Bx x b W → pre.length < N → Sp (pre ++ [x]) → body.wpIn (F.inRound l) (n - 1 - 1) P (postK R I Ix (pre ++ [x]) W) (fr x b) W)
    (hdone : ∀ (D : Nat) (xs : List α) (W : World), w.heap.size ≤ D → S xs → I xs W → W.heap[D]? = some (.deferred (some [])) → Q .normal { a with defers := { target := .collected D, args := #[] } :: a.defers } W)
    (hstop : ∀ (D : Nat) (c : Code) (pre : List α) (W : World), w.heap.size ≤ D → Sp pre → Ix c pre W → W.heap[D]? = some (.deferred (some [])) → c.wpIn F n P Q { a with defers := { target := .collected D, args := #[] } :: a.defers } W) :
    (Code.rangeFunc g ps assign body).wpIn F n P Q a w := by
  refine wpIn_rangeFunc ?_; intro fn hfn; rw [hro]; obtain ⟨rec, hrec⟩ : ∃ rec : LoopState → Option Code → Loop, rec = fun st pe => { state := st, pending := pe, fn, tmps := a.tmps, params := ps, assign, body, defers := w.heap.size } := ⟨_, rfl⟩
  obtain ⟨W1, hW1⟩ : ∃ W1, (w.alloc (.deferred (some []))).alloc (.loop (rec .ready none)) = W1 := ⟨_, rfl⟩
  have hL1 : W1.heap[w.heap.size + 1]? = some (.loop (rec .ready none)) := by
    rw [← hW1]; have := World.alloc_heap_new (w.alloc (.deferred (some []))) (.loop (rec .ready none)); rwa [World.size_alloc] at this
  have hK1 : W1.heap[w.heap.size]? = some (.deferred (some [])) := by
    rw [← hW1]; exact (Below.heap_alloc _ _ _ (by simp)).trans (World.alloc_heap_new w _)
  have hO1 : Only [] w W1 := by rw [← hW1]; exact ((Only.refl [] w).alloc _).alloc _
  have hb1 : Below w0.heap.size w0 W1 := hb0.trans ((hO1.below (B := w.heap.size) (by simp) (Nat.le_refl _)).mono hb0.size); have hmono : ∀ {β : Type} {J : β → World → Prop}, AbT w.heap.size [] J → AbT (w.heap.size + 1) [] J := fun h => h.mono (by omega) (fun _ h => h) (fun k hk => by cases hk)
  refine ⟨w.heap.size + 1, [{ target := .collected w.heap.size, args := #[] }], W1, { target := .fn (.func gf) lb, args := #[.func (.yield (w.heap.size + 1)) #[] #[]] }, W1, gf,
    #[.func (.yield (w.heap.size + 1)) #[] #[]] ++ lb, W1, ?_, ?_, ?_, ?_, fun _ => h1, ?_⟩
  · rw [← hW1, hrec]; exact run_enterLoop_outer _ _ _ _ _
  · simp only [resolve, hg]; simp [go_sem]
  · intro f' hf'; simp [Target.leads] at hf'; subst hf'; exact hFg
  · simp [invoke, go_sem, eg]
  · refine (rangeK_core (l := w.heap.size + 1) hfn rec ⟨_, hrec⟩ hseq hb1 hps (by have := hb0.size; omega) hL1 (fun k hk => by have := hR k hk; omega)
      (fun pre W => I pre W ∧ W.heap[w.heap.size]? = some (.deferred (some []))) (fun c pre W => Ix c pre W ∧ W.heap[w.heap.size]? = some (.deferred (some [])))
      ((hmono hI).and (AbT.heap (fun _ => .deferred (some [])) (by simp) (fun _ => .inl (by omega)))) (fun c => (hmono (hIx c)).and (AbT.heap (fun _ => .deferred (some [])) (by simp) (fun _ => .inl (by omega))))
      ⟨hI _ _ _ h0 (Turn.of_only hO1), hK1⟩ (fun x a' W => ∃ b, a' = fr x b ∧ Bx x b W) (fun x a' => hmono (fun s A W h ht => by obtain ⟨b, h1, h2⟩ := h; exact ⟨b, h1, hBx x b s A W h2 ht⟩)) (fun pre x W K hi hK => hassign _ pre x W K (by omega) hi.1 (fun b W' hO hb => hK _ W' hO ⟨b, rfl, hb⟩)) ?_).mono ?_
    · rintro pre x a' W hr ⟨hi, hk⟩ ⟨b, rfl, hb⟩ hlen hsp; exact wpIn_mono (hbody _ pre x b W (by omega) hr hi hb hlen hsp) (postK_mono (fun W' hO h => ⟨hO, h, hO.others _ _ hk rfl⟩) (fun c W' hO h => ⟨hO, h, hO.others _ _ hk rfl⟩))
    · rintro e W2 ⟨⟨v, rfl⟩, (⟨xs, hS, ⟨hi, hk⟩, hl⟩ | ⟨pre, hSp, c, ⟨hi, hk⟩, hl⟩)⟩
      · exact ⟨none, _, by have := run_endLoop (P := P) hl (by rw [hrec]; simp); rw [hrec] at this; exact this, hdone _ xs _ (Nat.le_refl _) hS (hI _ _ _ hi ((Turn.refl _ [] W2).putObj (by omega) hl rfl (by simp) _)) ((World.putObj_heap_other (by omega)).trans hk)⟩
      · exact ⟨some c, _, by have := run_endLoop (P := P) hl (by rw [hrec]; simp); rw [hrec] at this; exact this, hstop _ c pre _ (Nat.le_refl _) hSp (hIx c _ _ _ hi ((Turn.refl _ [] W2).putObj (by omega) hl rfl (by simp) _)) ((World.putObj_heap_other (by omega)).trans hk)⟩
end Go.Rv
namespace Go.Proofs.Ytoiephmngdecaaa
open Go.RowKit Go.Rv Go.Shelf
set_option linter.unusedVariables false
attribute [local go_sem] Oper.semAt_some
set_option maxRecDepth 100000 in
set_option maxHeartbeats 4000000 in
theorem eallK_stops (n : Nat) (hn : 1 ≤ n) (B rb : Nat) (a : Option Addr) (cp : Nat) (es : List BE) (w : World) (hB : w.cell? ⟨B, 0, none⟩ = some (.slice a es.length cp)) (hR : RowOf w 6 BEC (fun _ => True) a es) (hrb : ∀ x, a = some x → x.block = rb) (hrl : rb < w.heap.size) (hl : es.length ≤ 100000) :
    SeqK Fence.wide n Try.prog 57 #[.pointer (some ⟨B, 0, none⟩)] ieV [rb] (fun ys => ys = es.zipIdx) (fun pre => pre <+: es.zipIdx) es.length w := by
  intro r J Jx W hW hr0 hrW hJ hJx hY h0; have hBW : W.cell? ⟨B, 0, none⟩ = some (.slice a es.length cp) := (hW.cell (p := ⟨B, 0, none⟩) (block_lt_of_cell hB)).trans hB; have HR := Lib.hid (hR.below hW); have hz := (zero_of_info Try.infoEnt).1; have HIE := Lib.hid (fun e => esize e); have HON := Lib.hid (fun e => BEC_one e); have HSZ : Hid (∀ e : BE, (BEC BE.zero).size = (BEC e).size) := Lib.hid (fun e => by rw [BEC_size, BEC_size]); have hzW := hW.size; clear hR hB hW; refine callsIn_of_wp Try.func57 rfl trivial ?_ rfl; simp only [Try.ntmps57, List.size_toArray, List.length_cons, List.length_nil, Nat.reduceAdd, Nat.reduceSub, Array.replicate_succ, Array.replicate_zero, List.push_toArray, List.append_toArray, List.nil_append, List.cons_append]; gi_wp2
  gi_loopw [7] (fun i wr => ∃ k : Nat, k ≤ es.length ∧ i = .int .i64 k ∧ J (es.take k).zipIdx wr ∧ RowOf wr 6 BEC (fun _ => True) a es ∧ W.heap.size ≤ wr.heap.size) (fun i _ => es.length - (intOf i).toNat)
  case atStart => exact ⟨0, Nat.zero_le _, rfl, h0, HR.out, Nat.le_refl _⟩
  case round =>
    obtain ⟨k, hk, rfl, hJk, hrow, hzr⟩ := hrel; by_cases hlt : k < es.length
    · obtain ⟨x, hx⟩ : ∃ x, es[k]? = some x := ⟨_, List.getElem?_eq_getElem hlt⟩; obtain ⟨b, o, rfl, hbl, -, d0, d1, d2, d3, d4, d5⟩ := hrow.ent6 hx; have HBB : Hid (b = rb) := Lib.hid (hrb _ rfl); have HS := Lib.hid (zip_take es hx); have HP : Hid ((es.take k).zipIdx ++ [(x, k)] <+: es.zipIdx) := Lib.hid (by rw [← HS.out]; exact zip_full es _); obtain ⟨WA, hWA⟩ : ∃ WA, wr.alloc (.cells (BEC x) 54) = WA := ⟨_, rfl⟩; have hba : Below wr.heap.size wr WA := by rw [← hWA]; exact (Below.refl wr.heap.size wr).alloc (Nat.le_refl _) _
      have hop : WA.heap[wr.heap.size]? = some (.cells (BEC x) 54 (0, 0)) := by rw [← hWA]; exact heap_alloc_new wr _
      have hJA := hJ _ _ _ hJk ((Turn.of_below hba : Turn W.heap.size [] wr WA)); have HRA := Lib.hid (hrow.below hba); have zA := hba.size; obtain ⟨fn, tmps, assign, body, hy', hRd⟩ := hY (es.take k).zipIdx (x, k) WA hJA (by rw [zip_len _ hk]; exact hlt) HP.out; have hy : (Instr.yield r #[.int .i64 (k : Nat), .agg (BEC x)]).run Try.prog WA = .ok (.round r fn tmps assign body) WA := hy'; have HWA := Lib.hid hWA; have HOP := Lib.hid hop; have HRD := Lib.hid hRd; clear hx hy' hJk hrow hba hop hJA hWA hRd; gi_wp2_with (first | (refine wpListIn_store_row (by rfl) 54 _ _ rfl wr.heap.size (BEC x) rfl rfl 54 (BEC BE.zero) (heap_alloc_new wr _) (HIE.out _) (HSZ.out _) (HON.out _) ?_; rw [World.setRow_alloc_new, HWA.out]; clear d0 d1 d2 d3 d4 d5) | (refine wpListIn_row_on (by rfl) 54 _ rfl wr.heap.size rfl 54 _ _ _ HOP.out Try.underlying54 rfl (HIE.out _) ?_)); refine HRD.out.mono ?_; rintro e W3 ⟨hO3, (⟨rfl, hJ3⟩ | ⟨rfl, hJx3⟩)⟩
      · have HRW : Hid (RowOf W3 6 BEC (fun _ => True) (some ⟨b, o, none⟩) es) := Lib.hid (by
          rcases HRA.out with h | ⟨b', o', e, hb', hc⟩
          · exact .inl h
          · cases e; refine .inr ⟨b, o, rfl, Nat.lt_of_lt_of_le hb' hO3.size, fun k x hk => ⟨fun j hj => ?_, trivial⟩⟩
            rw [← (hc k x hk).1 j hj]; exact World.cell?_of_block (hO3.rows b (by simp [HBB.out])))
        have z3 := hO3.size; clear hy; gi_wp2; go_roundw
        case rel => exact ⟨k + 1, by omega, by go_num, by rw [HS.out]; exact hJ3, HRW.out, by omega⟩
        case measure => simp [intOf]; omega
      · clear hy; gi_wp2; refine bodyPost_ret (results_none rfl _ _ _) rfl ?_; exact ⟨⟨_, rfl⟩, .inr ⟨_, HP.out, hJx3⟩⟩
    · obtain rfl : k = es.length := by omega
      rw [List.take_length] at hJk; gi_wp2
      go_end0
      exact ⟨⟨_, rfl⟩, .inl ⟨_, rfl, hJk⟩⟩
end Go.Proofs.Ytoiephmngdecaaa
namespace Go.Rv
open Go.RowKit
set_option linter.unusedVariables false
theorem wpListIn_appendM {α : Type} {F : Fence} {m : Nat} {P : Program} {w : World} {ops : Array Oper} {rest : List Oper} {o : Oper} {a : Act} {Q' : Exit → Act → World → Prop} (hgd : o.guard = none) (s x : Operand) (t : TypeId)
    (ho : o.op = .call { callee := .builtin .append, args := #[s, x], argTypes := #[t, t] })
    (e : TypeId) (n : Nat) (X : α → Array Value) (Q : α → Prop) (hK : Kin n X Q) (h0 : 0 < n) (z : Value) (bytes : Nat) (ht : P.underlying t = some (.slice e)) (hinfo : (P.info? e).map (fun i => (i.zero, i.size, i.bytes)) = some (some z, n, bytes)) (hzs : z.cells.size = n)
    (base : Nat) (v : Value) (xs : List α) (hs : a.eval s = v) (hown : OwnM w e n X Q base v xs) (ad : Addr) (cap : Nat) (ms : List α) (hx : a.eval x = .slice (some ad) ms.length cap) (hm : RowOf w n X Q (some ad) ms)
    (h63 : xs.length + ms.length ≤ maxLen) (hbytes : (xs.length + ms.length) * bytes ≤ 140737488355328) (hbase : base ≤ w.heap.size)
    (h : ∀ v' w', OwnM w' e n X Q base v' (xs ++ ms) → w.grownBy w' v.ownBlock → (v'.ownBlock = v.ownBlock ∨ v'.ownBlock = some w.heap.size) → wpListIn F m P ops Q' rest (a.put o.dst v') w') : wpListIn F m P ops Q' (o :: rest) a w := by
  obtain ⟨i0, hi, hz0, hz1, hz2⟩ := info_parts hinfo; have hq : ∀ y ∈ ms, Q y := hm.all; refine wpListIn_append_own_at w hgd s x t ho base e i0 z n bytes ht hi hz0 hz1 hz2 hzs h0 v xs.length _ hs hown.1 ad ms.length cap (flatM X ms) hx (flatM_length fun y hy => hK.size y (hq y hy)) ?_ ?_ h63 hbytes hbase ?_
  · intro j u hu
    have hj : j < ms.length * n := by
      have := (List.getElem?_eq_some_iff.1 hu).1
      rwa [flatM_length fun y hy => hK.size y (hq y hy)] at this
    obtain ⟨y, hy⟩ : ∃ y, ms[j / n]? = some y := ⟨_, List.getElem?_eq_getElem (by rwa [Nat.div_lt_iff_lt_mul h0])⟩; obtain ⟨b, o, e, hb, hc, -⟩ := hm.at hy; cases e; have h1 := hc (j % n) (Nat.mod_lt _ h0); have h2 := flatM_at (fun y hy => hK.size y (hq y hy)) hy (Nat.mod_lt j h0); rw [Nat.div_add_mod' j n] at h2; rw [add_lit, ← hu, h2, ← h1, Nat.add_assoc, Nat.div_add_mod' j n]
  · intro u hu; simp only [flatM, List.mem_flatMap] at hu; obtain ⟨y, hy, hu⟩ := hu; have := hK.one y (hq y hy); rw [Array.all_eq_true_iff_forall_mem] at this; exact this u (by simpa using hu)
  · intro v' w' h1 h2 _ h4; refine h v' w' ⟨by rw [List.length_append, flatM_app]; exact h1, fun y hy => ?_⟩ h2 h4
    rcases List.mem_append.1 hy with hy | hy
    · exact hown.2 y hy
    · exact hq y hy
theorem wpListIn_buildSlice {F : Fence} {m : Nat} {P : Program} {ops : Array Oper} {rest : List Oper} {o : Oper} {a : Act} {w : World} {Q : Exit → Act → World → Prop} (hg : o.guard = none) (t e : TypeId) (len : Nat) (parts : Array (Nat × Operand)) (ho : o.op = .buildSlice t len parts)
    (cells : Array Value) (ie : TypeInfo) (z : Value)
    (hu : P.underlying t = some (.slice e)) (hie : P.info? e = some ie) (hz : ie.zero = some z) (hsmall : ¬ len * ie.size > 2 ^ 24) (hpos : ¬ len * ie.size = 0)
    (hf : Instr.fill (fun i => some (i * ie.size, ie.size)) ((Array.range (len * ie.size)).map (z.cells[· % z.cells.size]!)) (parts.map fun (i, x) => (i, a.eval x)).toList = some cells)
    (h : wpListIn F m P ops Q rest (a.put o.dst (.slice (some ⟨w.heap.size, 0, none⟩) len len)) (w.alloc (.cells cells e))) : wpListIn F m P ops Q (o :: rest) a w := by
  refine wpListIn_plain hg fun K hK => ?_
  unfold Oper.wpIn; refine ⟨by simp [Oper.about, ho], ?_⟩; rw [Oper.semAt_plain F _ _ (by rw [ho]; intro c hc'; cases hc')]; simp only [execOp, ho, Sem.run_bind, run_buildSlice w t e len _ cells ie z hu hie hz hsmall hpos hf, Result.andThen_ok]; exact hK _ _ h
/-- a row of the call's own abides turns -/
theorem OwnM.turn {α : Type} {B : Nat} {a w : World} {e : TypeId} {n : Nat} {X : α → Array Value} {Q : α → Prop} {base : Nat} {v : Value} {xs : List α} (h : OwnM a e n X Q base v xs) (ht : Turn B [] a w) : OwnM w e n X Q base v xs := by
  obtain ⟨⟨h1, hr⟩, hl⟩ := h; refine ⟨⟨h1, ?_⟩, hl⟩; rcases hr with hr | ⟨g, cap, cur, rfl, hg, hh, r⟩
  · exact .inl hr
  · exact .inr ⟨g, cap, cur, rfl, hg, ht.block g _ hh (by simp) (.inr rfl), r⟩
end Go.Rv
