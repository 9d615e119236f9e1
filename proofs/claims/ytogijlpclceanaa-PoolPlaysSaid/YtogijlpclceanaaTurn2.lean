/- Laws over any program: ranges over functions (Turn), where a round's frame is known but for one block that its assignment has laid. -/
import Derived.Test.YtogijlpclceanaaTurn
namespace Go.Rv
open Go.RowKit
set_option linter.unusedVariables false
variable {F : Fence} {n : Nat} {P : Program}
theorem wpIn_rangeT2 {α : Type} {g : Operand} {ps : Array Tmp} {assign body : Code} {Q : Exit → Act → World → Prop} {a : Act} {w : World}
    (hro : F.round = none) (h1 : 1 ≤ n) {gf : Nat} {lb : Array Value} (hg : a.eval g = .func (.func gf) #[] lb) (hFg : F.fn gf) (eg : ∀ args w, (callFunc gf args).run P w = .ok (.enter gf args) w)
    {encs : α → Array Value} {R C : List Nat} {S Sp : List α → Prop} {N : Nat} {w0 : World} (hseq : SeqT F (n - 1) P gf lb encs R C S Sp N w0) (hb0 : Below w0.heap.size w0 w) (hps : ∀ x, (encs x).size = ps.size)
    (T : List Nat) (hT : ∀ k ∈ T, k < w.heap.size ∧ k ∉ R) (hC : ∀ k ∈ C, k < w.heap.size)
    (I : List α → World → Prop) (Ix : Code → List α → World → Prop) (hI : AbT w.heap.size C I) (hIx : ∀ c, AbT w.heap.size C (Ix c)) (h0 : I [] w) (fr : α → Nat → Act) (Bx : α → Nat → World → Prop) (hBx : ∀ x b, AbT w.heap.size C (fun (_ : Unit) W => Bx x b W))
    (hassign : ∀ (l : Nat) (pre : List α) (x : α) (W : World) (K : Act → World → Prop), w.heap.size ≤ l → I pre W → (∀ b W', Only [] W W' → Bx x b W' → K (fr x b) W') →
      assign.wpIn (F.inRound l) (n - 1 - 1) P (Exit.then K (fun _ _ _ => False)) { tmps := (ps.zip (encs x)).foldl (fun t (p, v) => t.setIfInBounds p v) a.tmps, defers := [] } W)
    (hbody : ∀ (l : Nat) (pre : List α) (x : α) (b : Nat) (W : World), w.heap.size ≤ l → (∃ r, W.heap[l]? = some (.loop r)) → I pre W → Bx x b W → pre.length < N → Sp (pre ++ [x]) → body.wpIn (F.inRound l) (n - 1 - 1) P (postT T I Ix (pre ++ [x]) W) (fr x b) W)
    (hdone : ∀ (D : Nat) (xs : List α) (W : World), w.heap.size ≤ D → S xs → I xs W → W.heap[D]? = some (.deferred (some [])) → Q .normal { a with defers := { target := .collected D, args := #[] } :: a.defers } W)
    (hstop : ∀ (D : Nat) (c : Code) (pre : List α) (W : World), w.heap.size ≤ D → Sp pre → Ix c pre W → W.heap[D]? = some (.deferred (some [])) → c.wpIn F n P Q { a with defers := { target := .collected D, args := #[] } :: a.defers } W) :
    (Code.rangeFunc g ps assign body).wpIn F n P Q a w :=
  wpIn_rangeT hro h1 hg hFg eg hseq hb0 hps T hT hC I Ix hI hIx h0 (fun x a' W => ∃ b, a' = fr x b ∧ Bx x b W) (fun x a' s A W h ht => by obtain ⟨b, h1, h2⟩ := h; exact ⟨b, h1, hBx x b s A W h2 ht⟩) (fun l pre x W K hl hi hK => hassign l pre x W K hl hi (fun b W' hO hb => hK _ W' hO ⟨b, rfl, hb⟩))
    (fun l pre x a' W hl hr hi e hlen hsp => by obtain ⟨b, rfl, hb⟩ := e; exact hbody l pre x b W hl hr hi hb hlen hsp) hdone hstop
theorem wpIn_rangeTN2 {α : Type} {g : Operand} {ps : Array Tmp} {assign body : Code} {Q : Exit → Act → World → Prop} {a : Act} {w : World}
    {l₀ : Nat} {r₀ : Loop} (hro : F.round = some l₀) (hl₀ : w.heap[l₀]? = some (.loop r₀)) (h1 : 1 ≤ n) {gf : Nat} {lb : Array Value} (hg : a.eval g = .func (.func gf) #[] lb) (hFg : F.fn gf) (eg : ∀ args w, (callFunc gf args).run P w = .ok (.enter gf args) w)
    {encs : α → Array Value} {R C : List Nat} {S Sp : List α → Prop} {N : Nat} {w0 : World} (hseq : SeqT F (n - 1) P gf lb encs R C S Sp N w0) (hb0 : Below w0.heap.size w0 w) (hps : ∀ x, (encs x).size = ps.size)
    (T : List Nat) (hT : ∀ k ∈ T, k < w.heap.size ∧ k ∉ R) (hC : ∀ k ∈ C, k < w.heap.size)
    (I : List α → World → Prop) (Ix : Code → List α → World → Prop) (hI : AbT w.heap.size C I) (hIx : ∀ c, AbT w.heap.size C (Ix c)) (h0 : I [] w) (fr : α → Nat → Act) (Bx : α → Nat → World → Prop) (hBx : ∀ x b, AbT w.heap.size C (fun (_ : Unit) W => Bx x b W))
    (hassign : ∀ (l : Nat) (pre : List α) (x : α) (W : World) (K : Act → World → Prop), w.heap.size ≤ l → I pre W → (∀ b W', Only [] W W' → Bx x b W' → K (fr x b) W') →
      assign.wpIn (F.inRound l) (n - 1 - 1) P (Exit.then K (fun _ _ _ => False)) { tmps := (ps.zip (encs x)).foldl (fun t (p, v) => t.setIfInBounds p v) a.tmps, defers := [] } W)
    (hbody : ∀ (l : Nat) (pre : List α) (x : α) (b : Nat) (W : World), w.heap.size ≤ l → (∃ r, W.heap[l]? = some (.loop r)) → I pre W → Bx x b W → pre.length < N → Sp (pre ++ [x]) → body.wpIn (F.inRound l) (n - 1 - 1) P (postT T I Ix (pre ++ [x]) W) (fr x b) W)
    (hdone : ∀ (xs : List α) (W : World), S xs → I xs W → Q .normal a W)
    (hstop : ∀ (c : Code) (pre : List α) (W : World), Sp pre → Ix c pre W → c.wpIn F n P Q a W) :
    (Code.rangeFunc g ps assign body).wpIn F n P Q a w :=
  wpIn_rangeTN hro hl₀ h1 hg hFg eg hseq hb0 hps T hT hC I Ix hI hIx h0 (fun x a' W => ∃ b, a' = fr x b ∧ Bx x b W) (fun x a' s A W h ht => by obtain ⟨b, h1, h2⟩ := h; exact ⟨b, h1, hBx x b s A W h2 ht⟩) (fun l pre x W K hl hi hK => hassign l pre x W K hl hi (fun b W' hO hb => hK _ W' hO ⟨b, rfl, hb⟩))
    (fun l pre x a' W hl hr hi e hlen hsp => by obtain ⟨b, rfl, hb⟩ := e; exact hbody l pre x b W hl hr hi hb hlen hsp) hdone hstop
/-- behind the end of a loop: its block of deferred calls alone has turned -/
theorem Turn.of_mark {B : Nat} {C : List Nat} {D : Nat} {x : Option (List Deferred)} {a w : World} (h : Only [D] a w) (hD : B ≤ D) (hK : a.heap[D]? = some (.deferred x)) (hC : D ∉ C) : Turn B C a w := by
  refine ⟨h.os, h.tape, h.output, h.size, fun k o hk _ hc => ?_, fun k hk cap buf s r hh => ⟨s, r, h.get hh (fun hm => ?_)⟩⟩
  · refine h.get hk (fun hm => ?_)
    obtain rfl : k = D := by simpa using hm
    rw [hK] at hk
    cases hk
    rcases hc with hc | hc
    · omega
    · simp [Obj.isCells] at hc
  · obtain rfl : k = D := by simpa using hm
    exact hC hk
end Go.Rv
