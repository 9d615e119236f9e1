/- Proved here, one behind the other: Proved here: snap's part: the body of another frame; Proved here: the map's All; Laws over any program: ranges over functions (Turn), where a round's frame is known but for one block that its assignment has laid; Proved here: snap's Right; A law over any program: a region that draws its order, of which two operations' values are told together (that what the one has made is not what the other has); Proved here: small laws on what Run makes: the roller, the result; Proved here: the walk of the roller's data. -/
import Derived.Test.YtoiephmngdecaaaQa
import Derived.Test.YtoiephmngdecaaaQb
import Derived.Test.YtoiephmngdecaaaQc
import Derived.Test.YtoiephmngdecaaaQd
import Derived.Test.YtoiephmngdecaaaQe
import Derived.Test.YtoiephmngdecaaaQf
namespace Sn
open Go.Proofs.Ytoiephmngdecaaa
/-- the k-th entry, or none -/
def entAt (es : List BE) (j : Nat) : BE := (es[j]?).getD BE.zero
/-- another frame's bytes, up to k entries -/
def partK (es : List BE) (i k : Nat) : List Nat := Cod.leN 1 i ++ (List.range k).flatMap fun t => entB (entAt es (2 * (i - 1) + t))
def partB (es : List BE) (i : Nat) : List Nat := partK es i 2
theorem partK_zero (es : List BE) (i : Nat) : partK es i 0 = Cod.leN 1 i := by simp [partK]
theorem partK_succ (es : List BE) (i k : Nat) : partK es i (k + 1) = partK es i k ++ entB (entAt es (2 * (i - 1) + k)) := by simp [partK, List.range_succ]
theorem partK_length (es : List BE) (i : Nat) : ∀ k, (partK es i k).length = 1 + 16 * k
  | 0 => by simp [partK, Cod.leN_length]
  | k + 1 => by rw [partK_succ, List.length_append, partK_length es i k, entB_length]; omega
theorem zero_room : Room BE.zero := by unfold Room BE.zero; simp
theorem entAt_room {es : List BE} (h : ∀ e ∈ es, Room e) (j : Nat) : Room (entAt es j) := by
  unfold entAt
  by_cases hj : j < es.length
  · rw [List.getElem?_eq_getElem hj]; exact h _ (List.getElem_mem _)
  · rw [List.getElem?_eq_none (by omega)]; exact zero_room
end Sn
namespace Go.Proofs.Ytoiephmngdecaaa
open Go.RowKit Go.Rv
set_option linter.unusedVariables false
attribute [local go_sem] Oper.semAt_some
/-- Get, wherever -/
theorem bget_at (w : World) (p le ll ce cl : Nat) (g : Geo.G) (es : List BE) (lv : List Int) (h : BmIs w p le ll ce cl g es lv) (j : Int) (h0 : 0 ≤ j) (hn : es.length ≤ 100000) :
    Calls Try.prog 19 #[.pointer (some ⟨p, 0, none⟩), .int .i64 j] w fun x w' => ∃ k, x = .returned (.tuple #[.agg (BEC (Sn.entAt es j.toNat)), .int .i64 k]) ∧ Below w.heap.size w w' := by
  by_cases hj : j < es.length
  · obtain ⟨k, rfl⟩ : ∃ k : Nat, j = k := ⟨j.toNat, by omega⟩
    have hk : k < es.length := by omega
    refine (bget_in w p le ll ce cl g es lv h k es[k] (List.getElem?_eq_getElem hk) hn).mono ?_
    rintro e w' ⟨rfl, hB⟩
    refine ⟨0, ?_, hB⟩
    rw [Int.toNat_natCast, Sn.entAt, List.getElem?_eq_getElem hk]
    rfl
  · refine (bget_out w p le ll ce cl g es lv h j (.inr (by omega))).mono ?_
    rintro e w' ⟨rfl, hB⟩
    refine ⟨13, ?_, hB⟩
    rw [Sn.entAt, List.getElem?_eq_none (by omega)]
    rfl
end Go.Proofs.Ytoiephmngdecaaa
namespace Go.Proofs.Ytoiephmngdecaaa
open Go.RowKit Go.Rv Go.Shelf
set_option linter.unusedVariables false
attribute [local go_sem] Oper.semAt_some
set_option maxRecDepth 100000 in
theorem eall_any (a : Option Addr) (n c : Nat) (w : World) :
    Calls Try.prog 38 #[.slice a n c] w fun e w' => e = .returned (.func (.func 57) #[] #[.pointer (some ⟨w.heap.size, 0, none⟩)]) ∧ w' = w.alloc (.cells #[.slice a n c] 115) := by
  go_enter Try.func38, Try.ntmps38
  go_wp2
  go_ret
  exact ⟨rfl, rfl⟩
set_option maxRecDepth 100000 in
theorem ball_any (w : World) (p : Nat) (a : Option Addr) (n c : Nat) (h : w.cell? ⟨p, 6, none⟩ = some (.slice a n c)) :
    Calls Try.prog 16 #[.pointer (some ⟨p, 0, none⟩)] w fun e w' => e = .returned (.func (.func 57) #[] #[.pointer (some ⟨w.heap.size, 0, none⟩)]) ∧ w' = w.alloc (.cells #[.slice a n c] 115) := by
  have HA := Lib.hid (eall_any a n c w)
  go_enter Try.func16, Try.ntmps16
  go_wp2_with fail
  refine HA.out.mono ?_
  rintro e w1 ⟨rfl, rfl⟩
  go_wp2
  go_ret
  exact ⟨rfl, rfl⟩
end Go.Proofs.Ytoiephmngdecaaa
namespace Go.Rv
open Go.RowKit
set_option linter.unusedVariables false
variable {F : Fence} {n : Nat} {P : Program}
theorem wpIn_rangeT2 {α : Type} {g : Operand} {ps : Array Tmp} {assign body : Code} {Q : Exit → Act → World → Prop} {a : Act} {w : World}
    (hro : F.round = none) (h1 : 1 ≤ n) {gf : Nat} {lb : Array Value} (hg : a.eval g = .func (.func gf) #[] lb) (hFg : F.fn gf) (eg : ∀ args w, (callFunc gf args).run P w = .ok (.enter gf args) w)
    {encs : α → Array Value} {R C : List Nat} {S Sp : List α → Prop} {N : Nat} {w0 : World} (hseq : SeqT F (n - 1) P gf lb encs R C S Sp N w0) (hb0 : Below w0.heap.size w0 w) (hps : ∀ x, (encs x).size = ps.size)
    (T : List Nat) (hT : ∀ k ∈ T, k < w.heap.size ∧ k ∉ R) (hC : ∀ k ∈ C, k < w.heap.size)
    (I : List α → World → Prop) (Ix : Code → List α → World → Prop) (hI : AbT w.heap.size C I) (hIx : ∀ c, AbT w.heap.size C (Ix c)) (h0 : I [] w) (fr : α → Nat → Act) (Bx : α → Nat → World → Prop) (hBx : ∀ x b, AbT w.heap.size C (fun (_ : Unit) W => Bx x b W))
    (hassign : ∀ (l : Nat) (pre : List α) (x : α) (W : World) (K : Act → World → Prop), w.heap.size ≤ l → I pre W → (∀ b W', Only [] W W' → Bx x b W' → K (fr x b) W') →
      assign.wpIn (F.inRound l) (n - 1 - 1) P (Exit.then K (fun _ _ _ => False)) { tmps := (ps.zip (encs x)).foldl (fun t (p, v) => t.setIfInBounds p v) a.tmps, defers := [] } W)
    (hbody : ∀ (l : Nat) (pre : List α) (x : α) (b : Nat) (W : World), w.heap.size ≤ l → (∃ r, W.heap[l]? = some (.loop r)) → I pre W → Bx x b W → pre.length < N → Sp (pre ++ [x]) → body.wpIn (F.inRound l) (n - 1 - 1) P (postT T I Ix (pre ++ [x]) W) (fr x b) W)
    (hdone : ∀ (D : Nat) (xs : List α) (W : World), w.heap.size ≤ D → S xs → I xs W → W.heap[D]? = some (.deferred (some [])) → Q .normal { a with defers := { target := .collected D, args := #[] } :: a.defers } W)
    (hstop : ∀ (D : Nat) (c : Code) (pre : List α) (W : World), w.heap.size ≤ D → Sp pre → Ix c pre W → W.heap[D]? = some (.deferred (some [])) → c.wpIn F n P Q { a with defers := { target := .collected D, args := #[] } :: a.defers } W) :
    (Code.rangeFunc g ps assign body).wpIn F n P Q a w :=
  wpIn_rangeT hro h1 hg hFg eg hseq hb0 hps T hT hC I Ix hI hIx h0 (fun x a' W => ∃ b, a' = fr x b ∧ Bx x b W) (fun x a' s A W h ht => by obtain ⟨b, h1, h2⟩ := h; exact ⟨b, h1, hBx x b s A W h2 ht⟩) (fun l pre x W K hl hi hK => hassign l pre x W K hl hi (fun b W' hO hb => hK _ W' hO ⟨b, rfl, hb⟩))
    (fun l pre x a' W hl hr hi e hlen hsp => by obtain ⟨b, rfl, hb⟩ := e; exact hbody l pre x b W hl hr hi hb hlen hsp) hdone hstop
theorem wpIn_rangeTN2 {α : Type} {g : Operand} {ps : Array Tmp} {assign body : Code} {Q : Exit → Act → World → Prop} {a : Act} {w : World}
    {l₀ : Nat} {r₀ : Loop} (hro : F.round = some l₀) (hl₀ : w.heap[l₀]? = some (.loop r₀)) (h1 : 1 ≤ n) {gf : Nat} {lb : Array Value} (hg : a.eval g = .func (.func gf) #[] lb) (hFg : F.fn gf) (eg : ∀ args w, (callFunc gf args).run P w = .ok (.enter gf args) w)
    {encs : α → Array Value} {R C : List Nat} {S Sp : List α → Prop} {N : Nat} {w0 : World} (hseq : SeqT F (n - 1) P gf lb encs R C S Sp N w0) (hb0 : Below w0.heap.size w0 w) (hps : ∀ x, (encs x).size = ps.size)
    (T : List Nat) (hT : ∀ k ∈ T, k < w.heap.size ∧ k ∉ R) (hC : ∀ k ∈ C, k < w.heap.size)
    (I : List α → World → Prop) (Ix : Code → List α → World → Prop) (hI : AbT w.heap.size C I) (hIx : ∀ c, AbT w.heap.size C (Ix c)) (h0 : I [] w) (fr : α → Nat → Act) (Bx : α → Nat → World → Prop) (hBx : ∀ x b, AbT w.heap.size C (fun (_ : Unit) W => Bx x b W))
    (hassign : ∀ (l : Nat) (pre : List α) (x : α) (W : World) (K : Act → World → Prop), w.heap.size ≤ l → I pre W → (∀ b W', Only [] W W' → Bx x b W' → K (fr x b) W') →
      assign.wpIn (F.inRound l) (n - 1 - 1) P (Exit.then K (fun _ _ _ => False)) { tmps := (ps.zip (encs x)).foldl (fun t (p, v) => t.setIfInBounds p v) a.tmps, defers := [] } W)
    (hbody : ∀ (l : Nat) (pre : List α) (x : α) (b : Nat) (W : World), w.heap.size ≤ l → (∃ r, W.heap[l]? = some (.loop r)) → I pre W → Bx x b W → pre.length < N → Sp (pre ++ [x]) → body.wpIn (F.inRound l) (n - 1 - 1) P (postT T I Ix (pre ++ [x]) W) (fr x b) W)
    (hdone : ∀ (xs : List α) (W : World), S xs → I xs W → Q .normal a W)
    (hstop : ∀ (c : Code) (pre : List α) (W : World), Sp pre → Ix c pre W → c.wpIn F n P Q a W) :
    (Code.rangeFunc g ps assign body).wpIn F n P Q a w :=
  wpIn_rangeTN hro hl₀ h1 hg hFg eg hseq hb0 hps T hT hC I Ix hI hIx h0 (fun x a' W => ∃ b, a' = fr x b ∧ Bx x b W) (fun x a' s A W h ht => by obtain ⟨b, h1, h2⟩ := h; exact ⟨b, h1, hBx x b s A W h2 ht⟩) (fun l pre x W K hl hi hK => hassign l pre x W K hl hi (fun b W' hO hb => hK _ W' hO ⟨b, rfl, hb⟩))
    (fun l pre x a' W hl hr hi e hlen hsp => by obtain ⟨b, rfl, hb⟩ := e; exact hbody l pre x b W hl hr hi hb hlen hsp) hdone hstop
/-- behind the end of a loop: its block of deferred calls alone has turned -/
theorem Turn.of_mark {B : Nat} {C : List Nat} {D : Nat} {x : Option (List Deferred)} {a w : World} (h : Only [D] a w) (hD : B ≤ D) (hK : a.heap[D]? = some (.deferred x)) (hC : D ∉ C) : Turn B C a w := by
  refine ⟨h.os, h.tape, h.output, h.size, fun k o hk _ hc => ?_, fun k hk cap buf s r hh => ⟨s, r, h.get hh (fun hm => ?_)⟩⟩
  · refine h.get hk (fun hm => ?_)
    obtain rfl : k = D := by simpa using hm
    rw [hK] at hk
    cases hk
    rcases hc with hc | hc
    · omega
    · simp [Obj.isCells] at hc
  · obtain rfl : k = D := by simpa using hm
    exact hC hk
end Go.Rv
namespace Sn
open Go.Proofs.Ytoiephmngdecaaa
/-- may the numbers be? -/
def nums (gen epoch next : Int) : Bool := Geo.inB gen 1 281474976710655 && (Geo.inB epoch 1 4294967295 && Geo.inB next 1 281474976710655)
def right (gen epoch next : Int) (es : List BE) : Bool := nums gen epoch next && es.all fun e => decide (e.q < next)
end Sn
namespace Go.Proofs.Ytoiephmngdecaaa
open Go.RowKit Go.Rv Go.Shelf
set_option linter.unusedVariables false
attribute [local go_sem] Oper.semAt_some
set_option maxRecDepth 100000 in
theorem swithin_any (n m : Int) (w : World) :
    Calls Try.prog 49 #[.int .i64 n, .int .i64 m] w fun e w' => e = .returned (.bool (Geo.inB n 1 m)) ∧ w = w' := by
  go_enter Try.func49, Try.ntmps49
  unfold Geo.inB
  by_cases h1 : 1 ≤ n
  · have t1 : decide (1 ≤ n) = true := decide_eq_true h1
    rw [t1]
    go_wp2
    go_ret
    exact ⟨by simp, rfl⟩
  · have t1 : decide (1 ≤ n) = false := decide_eq_false h1
    rw [t1]
    go_wp2
    go_ret
    exact ⟨by simp, rfl⟩
set_option maxRecDepth 100000 in
set_option maxHeartbeats 4000000 in
theorem sright_no (w : World) (gen epoch next : Int) (p : Nat) (b1 b2 b3 : Bool) (h1 : Geo.inB gen 1 281474976710655 = b1) (h2 : Geo.inB epoch 1 4294967295 = b2) (h3 : Geo.inB next 1 281474976710655 = b3) (hc : b1 = false ∨ (b1 = true ∧ b2 = false) ∨ (b1 = true ∧ b2 = true ∧ b3 = false)) :
    Calls Try.prog 26 #[.agg (SnC gen epoch next p)] w fun e w' => e = .returned (.bool false) ∧ Below w.heap.size w w' := by
  have HW1 : Hid (∀ W, Calls Try.prog 49 #[.int .i64 gen, .int .i64 281474976710655] W fun e w' => e = .returned (.bool b1) ∧ W = w') := Lib.hid (fun W => by have := swithin_any gen 281474976710655 W; rwa [h1] at this)
  have HW2 : Hid (∀ W, Calls Try.prog 49 #[.int .i64 epoch, .int .i64 4294967295] W fun e w' => e = .returned (.bool b2) ∧ W = w') := Lib.hid (fun W => by have := swithin_any epoch 4294967295 W; rwa [h2] at this)
  have HW3 : Hid (∀ W, Calls Try.prog 49 #[.int .i64 next, .int .i64 281474976710655] W fun e w' => e = .returned (.bool b3) ∧ W = w') := Lib.hid (fun W => by have := swithin_any next 281474976710655 W; rwa [h3] at this)
  have HSC := Lib.hid (fun (W : World) hh => sn_cells (w := W) (b := w.heap.size) (gen := gen) (epoch := epoch) (next := next) (p := p) (t := 29) hh)
  clear h1 h2 h3
  generalize hC : SnC gen epoch next p = C at *
  clear hC
  have hB0 : Below w.heap.size w ((w.alloc (.cells C 29)).alloc (.cells #[.bool false] 4)) := ((Below.refl _ _).alloc (Nat.le_refl _) _).alloc (by simp) _
  obtain ⟨W0, hW0⟩ : ∃ W0, (w.alloc (.cells C 29)).alloc (.cells #[.bool false] 4) = W0 := ⟨_, rfl⟩
  have hS0 : W0.heap[w.heap.size]? = some (.cells C 29 (0, 0)) := by rw [← hW0]; exact heap_alloc2_old w _ _
  have hO0 : W0.heap[w.heap.size + 1]? = some (.cells #[.bool false] 4 (0, 0)) := by rw [← hW0]; exact heap_alloc2_new w _ _
  rw [hW0] at hB0
  have HW0 := Lib.hid hW0
  have HB0 := Lib.hid hB0
  have HO0 := Lib.hid hO0
  obtain ⟨c0, c1, c2, c3⟩ := HSC.out _ hS0
  have hc1 := cell_of_one hO0
  have hf1 := free_of_one hO0
  clear hW0 hB0 hO0 hS0
  go_enter Try.func26, Try.ntmps26
  go_upto_region 1 with (fail)
  rw [HW0.out]
  have hfin : ∀ W', W' = W0.setCell ⟨w.heap.size + 1, 0, none⟩ (.bool false) → W'.cell? ⟨w.heap.size + 1, 0, none⟩ = some (.bool false) ∧ Below w.heap.size w W' := by
    rintro W' rfl
    have h2 : Only [w.heap.size + 1] W0 (W0.setCell ⟨w.heap.size + 1, 0, none⟩ (.bool false)) := (Only.refl _ _).setCell (.inl (by simp)) _
    exact ⟨cell_of_one (one_setCell HO0.out), HB0.out.trans (h2.below (by simp) HB0.out.size)⟩
  have HFIN := Lib.hid hfin
  clear hfin
  rcases hc with rfl | ⟨rfl, rfl⟩ | ⟨rfl, rfl, rfl⟩
  · go_wp2_with fail
    refine (HW1.out _).mono ?_
    rintro e1 w1 ⟨rfl, rfl⟩
    go_wp2
    obtain ⟨hc', hB'⟩ := HFIN.out _ rfl
    refine bodyPost_ret (v := .bool false) (by simp [results, Try.results26, go_sem, hc']) rfl ?_
    exact ⟨rfl, hB'⟩
  · go_wp2_with fail
    refine (HW1.out _).mono ?_
    rintro e1 w1 ⟨rfl, rfl⟩
    go_wp2_with fail
    refine (HW2.out _).mono ?_
    rintro e2 w2 ⟨rfl, rfl⟩
    go_wp2
    obtain ⟨hc', hB'⟩ := HFIN.out _ rfl
    refine bodyPost_ret (v := .bool false) (by simp [results, Try.results26, go_sem, hc']) rfl ?_
    exact ⟨rfl, hB'⟩
  · go_wp2_with fail
    refine (HW1.out _).mono ?_
    rintro e1 w1 ⟨rfl, rfl⟩
    go_wp2_with fail
    refine (HW2.out _).mono ?_
    rintro e2 w2 ⟨rfl, rfl⟩
    go_wp2_with fail
    refine (HW3.out _).mono ?_
    rintro e3 w3 ⟨rfl, rfl⟩
    go_wp2
    obtain ⟨hc', hB'⟩ := HFIN.out _ rfl
    refine bodyPost_ret (v := .bool false) (by simp [results, Try.results26, go_sem, hc']) rfl ?_
    exact ⟨rfl, hB'⟩
theorem pre_all {next : Int} {pre : List (BE × Nat)} {x : BE × Nat} (h : ∀ y ∈ pre, y.1.q < next) (hx : x.1.q < next) : ∀ y ∈ pre ++ [x], y.1.q < next := by
  intro y hy
  rcases List.mem_append.1 hy with hy | hy
  · exact h y hy
  · obtain rfl : y = x := by simpa using hy
    exact hx
set_option maxRecDepth 100000 in
set_option maxHeartbeats 8000000 in
theorem sright_in (w : World) (p le ll ce cl : Nat) (g : Geo.G) (es : List BE) (lv : List Int) (h : BmIs w p le ll ce cl g es lv) (hn : es.length ≤ 100000) (gen epoch next : Int) (hnum : Sn.nums gen epoch next = true) :
    Calls Try.prog 26 #[.agg (SnC gen epoch next p)] w fun e w' => e = .returned (.bool (es.all fun e => decide (e.q < next))) ∧ Below w.heap.size w w' := by
  simp only [Sn.nums, Bool.and_eq_true] at hnum
  obtain ⟨h1, h2, h3⟩ := hnum
  have HW1 : Hid (∀ W, Calls Try.prog 49 #[.int .i64 gen, .int .i64 281474976710655] W fun e w' => e = .returned (.bool true) ∧ W = w') := Lib.hid (fun W => by have := swithin_any gen 281474976710655 W; rwa [h1] at this)
  have HW2 : Hid (∀ W, Calls Try.prog 49 #[.int .i64 epoch, .int .i64 4294967295] W fun e w' => e = .returned (.bool true) ∧ W = w') := Lib.hid (fun W => by have := swithin_any epoch 4294967295 W; rwa [h2] at this)
  have HW3 : Hid (∀ W, Calls Try.prog 49 #[.int .i64 next, .int .i64 281474976710655] W fun e w' => e = .returned (.bool true) ∧ W = w') := Lib.hid (fun W => by have := swithin_any next 281474976710655 W; rwa [h3] at this)
  have HBM := Lib.hid h
  have HIE := Lib.hid (fun e => esize e)
  have HON := Lib.hid (fun e => BEC_one e)
  have hz := (zero_of_info Try.infoEnt).1
  have HSZ : Hid (∀ e : BE, (BEC BE.zero).size = (BEC e).size) := Lib.hid (fun e => by rw [BEC_size, BEC_size])
  have HSC := Lib.hid (fun (W : World) hh => sn_cells (w := W) (b := w.heap.size) (gen := gen) (epoch := epoch) (next := next) (p := p) (t := 29) hh)
  clear h1 h2 h3 h
  obtain ⟨C, hC⟩ : ∃ C, SnC gen epoch next p = C := ⟨_, rfl⟩
  rw [hC] at HSC ⊢
  clear hC
  have hB0 : Below w.heap.size w ((w.alloc (.cells C 29)).alloc (.cells #[.bool false] 4)) := ((Below.refl _ _).alloc (Nat.le_refl _) _).alloc (by simp) _
  obtain ⟨W0, hW0⟩ : ∃ W0, (w.alloc (.cells C 29)).alloc (.cells #[.bool false] 4) = W0 := ⟨_, rfl⟩
  have hS0 : W0.heap[w.heap.size]? = some (.cells C 29 (0, 0)) := by rw [← hW0]; exact heap_alloc2_old w _ _
  have hO0 : W0.heap[w.heap.size + 1]? = some (.cells #[.bool false] 4 (0, 0)) := by rw [← hW0]; exact heap_alloc2_new w _ _
  have z0 : w.heap.size + 1 < W0.heap.size := (Array.getElem?_eq_some_iff.1 hO0).1
  rw [hW0] at hB0
  have HW0 := Lib.hid hW0
  obtain ⟨c0, c1, c2, c3⟩ := HSC.out _ hS0
  have hm0 := HBM.out.below hB0
  have HAL := Lib.hid (ball_any W0 p _ _ _ hm0.cells.1)
  obtain ⟨W1, hW1⟩ : ∃ W1, W0.alloc (.cells #[.slice (some ⟨le, 0, none⟩) es.length ce] 115) = W1 := ⟨_, rfl⟩
  have hb1 : Below W0.heap.size W0 W1 := by rw [← hW1]; exact (Below.refl _ _).alloc (Nat.le_refl _) _
  have hsl : W1.heap[W0.heap.size]? = some (.cells #[.slice (some ⟨le, 0, none⟩) es.length ce] 115 (0, 0)) := by rw [← hW1]; exact heap_alloc_new W0 _
  have hB1 : Below w.heap.size w W1 := hB0.trans (hb1.mono hB0.size)
  have k0 := (hb1.block w.heap.size (by omega)).trans hS0
  have k1 := (hb1.block (w.heap.size + 1) z0).trans hO0
  have hm1 := HBM.out.below hB1
  have hlt := hm1.lt
  have hlw := HBM.out.lt
  have HS := Lib.hid (eall1_stops 7 (by omega) W0.heap.size le (some ⟨le, 0, none⟩) ce es W1 (cell_of_one hsl) hm1.rows (fun x e => by cases e; rfl) hlt.2.1 hn)
  have z1 : W0.heap.size < W1.heap.size := (Array.getElem?_eq_some_iff.1 hsl).1
  have HW1' := Lib.hid hW1
  have HB1 := Lib.hid hB1
  have HK0 := Lib.hid k0
  have HK1 := Lib.hid k1
  clear hW0 hW1 hB0 hS0 hO0 hm0 hb1 hsl hm1 hlt hB1
  refine calls_of_marks Try.func26 rfl ?_
  simp only [Try.ntmps26, List.size_toArray, List.length_cons, List.length_nil, Nat.reduceAdd, Nat.reduceSub, Array.replicate_succ, Array.replicate_zero, List.push_toArray, List.append_toArray, List.nil_append, List.cons_append]
  go_upto_region 1 with (fail)
  rw [HW0.out]
  go_wp2_with fail
  refine (HW1.out _).mono ?_
  rintro e1 w1 ⟨rfl, rfl⟩
  go_wp2_with fail
  refine (HW2.out _).mono ?_
  rintro e2 w2 ⟨rfl, rfl⟩
  go_wp2_with fail
  refine (HW3.out _).mono ?_
  rintro e3 w3 ⟨rfl, rfl⟩
  go_wp2_with fail
  refine HAL.out.mono ?_
  rintro e4 w4 ⟨rfl, rfl⟩
  rw [HW1'.out]
  clear c0 c1 c2 c3
  go_wp2
  refine (wpIn_wide (n := 8)).1 (wpIn_rangeT2 (encs := ieV) rfl (by omega) (gf := 57) (lb := #[.pointer (some ⟨W0.heap.size, 0, none⟩)]) rfl trivial (enters_of Try.func57 (by kernel_rfl) rfl)
    HS.out (Below.refl _ _) (fun _ => rfl)
    [w.heap.size + 1] (by simp; omega) (by simp)
    (fun pre W => (∀ y ∈ pre, y.1.q < next) ∧ W.heap[w.heap.size]? = some (.cells C 29 (0, 0)) ∧ W.heap[w.heap.size + 1]? = some (.cells #[.bool false] 4 (0, 0)) ∧ Only [w.heap.size + 1] W1 W)
    (fun cx pre W => (cx = Code.ret ∧ ∃ e ∈ es, ¬ e.q < next) ∧ W.heap[w.heap.size + 1]? = some (.cells #[.bool false] 4 (0, 0)) ∧ Only [w.heap.size + 1] W1 W)
    (AbT.and (AbT.pure _ _ (fun (pre : List (BE × Nat)) => ∀ y ∈ pre, y.1.q < next)) (AbT.and (AbT.row (fun _ => C) (by simp)) (AbT.and (AbT.row (fun _ => #[.bool false]) (by simp)) (AbT.only (Nat.le_refl _) (by simp)))))
    (fun cx => AbT.and (AbT.pure _ _ (fun (pre : List (BE × Nat)) => cx = Code.ret ∧ ∃ e ∈ es, ¬ e.q < next)) (AbT.and (AbT.row (fun _ => #[.bool false]) (by simp)) (AbT.only (Nat.le_refl _) (by simp)))) ⟨by simp, HK0.out, HK1.out, Only.refl _ _⟩
    ?fr (fun x Be W' => W'.heap[Be]? = some (.cells (BEC x.1) 54 (0, 0))) (fun x Be => AbT.row (fun _ => BEC x.1) (by simp)) ?assign ?body ?done ?stop)
  case assign =>
    intro rr pre x W2 K _ hI hK
    have HK2 := Lib.hid hK
    clear hK
    unfold ieV
    gi_wp2_with (refine wpListIn_store_row (by rfl) 54 _ _ rfl W2.heap.size (BEC x.1) rfl rfl 54 (BEC BE.zero) (heap_alloc_new W2 _) (HIE.out _) (HSZ.out _) (HON.out _) ?_; rw [World.setRow_alloc_new])
    obtain ⟨Be, hBe⟩ : ∃ Be, W2.heap.size = Be := ⟨_, rfl⟩
    have hn := heap_alloc_new W2 (.cells (BEC x.1) 54)
    rw [hBe] at hn ⊢
    exact HK2.out Be _ ((Only.refl _ _).alloc _) hn
  case body =>
    rintro rr pre x Be W2 _ hr ⟨ha, hS, hO, hO2⟩ hE hlen hsp
    obtain ⟨e1, e2, e3, e4⟩ := zip_next hsp
    have hmem := List.mem_of_getElem? e2
    have cq : W2.cell? ⟨Be, 4, none⟩ = some (.int .i64 x.1.q) := (cell_of_row _ _ _ _ _ _ hE).trans rfl
    obtain ⟨s0, s1, s2, s3⟩ := HSC.out _ hS
    have hc := cell_of_one hO
    have hf := free_of_one hO
    have HA := Lib.hid ha
    have HS2 := Lib.hid hS
    have HO := Lib.hid hO
    have HO2 := Lib.hid hO2
    have HME := Lib.hid hmem
    clear ha hS hO hO2 hE hlen hsp e1 e2 e3 e4 hmem
    by_cases hq : x.1.q < next
    · have t1 : decide (next ≤ x.1.q) = false := decide_eq_false (by omega)
      have HA2 := Lib.hid (pre_all HA.out hq)
      clear hq
      gi_wp2
      exact ⟨Only.refl _ _, fun a b h => HA2.out (a, b) h, HS2.out, HO.out, HO2.out⟩
    · have t1 : decide (next ≤ x.1.q) = true := decide_eq_true (by omega)
      have HQ := Lib.hid hq
      clear hq
      gi_wp2
      exact ⟨(Only.refl _ _).setCell (.inl (by simp)) _, ⟨rfl, _, HME.out, HQ.out⟩, one_setCell HO.out, HO2.out.setCell (.inl (by simp)) _⟩
  case done =>
    rintro D ys W2 hD rfl ⟨ha, hS, hO, hO2⟩ hKD
    have hall : (es.all fun e => decide (e.q < next)) = true := List.all_eq_true.2 (fun e he => by
      obtain ⟨k, hk, rfl⟩ := List.getElem_of_mem he
      exact decide_eq_true (ha (es[k], k) (List.mem_zipIdx_iff_getElem?.2 (List.getElem?_eq_getElem hk))))
    have hc := cell_of_one hO
    have hf := free_of_one hO
    have HALL := Lib.hid hall
    have HO := Lib.hid hO
    have HB2 : Hid (Below w.heap.size w W2) := Lib.hid (HB1.out.trans (hO2.below (B := w.heap.size) (by simp) HB1.out.size))
    have HKD := Lib.hid hKD
    have hDz : W0.heap.size < D := by omega
    clear ha hS hO hO2 hKD hall
    go_wp2
    refine leave_marks (v := .bool true) [D] _ (by simp) ?_ ?_
    · intro E hE
      obtain rfl : E = D := by simpa using hE
      exact ((Only.refl [w.heap.size + 1] _).setCell (.inl (by simp)) _).get HKD.out (by simp; omega)
    · intro W' hO'
      have hr' := hO'.get (one_setCell HO.out) (by simp; omega)
      have hc' := cell_of_one hr'
      have h2 : Only [w.heap.size + 1] W2 (W2.setCell ⟨w.heap.size + 1, 0, none⟩ (.bool true)) := (Only.refl _ _).setCell (.inl (by simp)) _
      have h3 := HB2.out.trans (h2.below (B := w.heap.size) (by simp) HB2.out.size)
      exact ⟨by simp [results, Try.results26, go_sem, hc'], by rw [HALL.out], h3.trans (hO'.below (by simp; omega) h3.size)⟩
  case stop =>
    rintro D cx pre W2 hD hsp ⟨⟨rfl, hex⟩, hO, hO2⟩ hKD
    refine wpIn_wide.2 ?_
    obtain ⟨e, he, hq⟩ := hex
    have hall : (es.all fun e => decide (e.q < next)) = false := by
      rw [List.all_eq_false]
      exact ⟨e, he, by simpa using hq⟩
    have HALL := Lib.hid hall
    have HO := Lib.hid hO
    have HB2 : Hid (Below w.heap.size w W2) := Lib.hid (HB1.out.trans (hO2.below (B := w.heap.size) (by simp) HB1.out.size))
    have HKD := Lib.hid hKD
    have hDz : W0.heap.size < D := by omega
    clear hO hO2 hKD hall he hq
    go_wp2
    refine leave_marks (v := .bool false) [D] _ (by simp) (by simpa using HKD.out) ?_
    intro W' hO'
    have hr' := hO'.get HO.out (by simp; omega)
    have hc' := cell_of_one hr'
    exact ⟨by simp [results, Try.results26, go_sem, hc'], by rw [HALL.out], HB2.out.trans (hO'.below (by simp; omega) HB2.out.size)⟩
theorem sright_any (w : World) (p le ll ce cl : Nat) (g : Geo.G) (es : List BE) (lv : List Int) (h : BmIs w p le ll ce cl g es lv) (hn : es.length ≤ 100000) (gen epoch next : Int) :
    Calls Try.prog 26 #[.agg (SnC gen epoch next p)] w fun e w' => e = .returned (.bool (Sn.right gen epoch next es)) ∧ Below w.heap.size w w' := by
  unfold Sn.right
  cases hnum : Sn.nums gen epoch next
  · simp only [Bool.false_and]
    refine sright_no w gen epoch next p _ _ _ rfl rfl rfl ?_
    unfold Sn.nums at hnum
    cases h1 : Geo.inB gen 1 281474976710655
    · exact .inl rfl
    · cases h2 : Geo.inB epoch 1 4294967295
      · exact .inr (.inl ⟨rfl, rfl⟩)
      · rw [h1, h2] at hnum
        exact .inr (.inr ⟨rfl, rfl, by simpa using hnum⟩)
  · simp only [Bool.true_and]
    exact sright_in w p le ll ce cl g es lv h hn gen epoch next hnum
end Go.Proofs.Ytoiephmngdecaaa
namespace Go.Rv
open Go.RowKit
set_option linter.unusedVariables false
def Obl12 (P : Program) (ops : Array Oper) (Q : Exit → Act → World → Prop) (A : (Nat → Value) → Act) (w0 : World) (Φ : List Fact) (i1 i2 : Nat) (D : Value → Value → World → Prop) (i : Nat) (o : Oper) : Prop :=
  cond (i == i1) (∀ (v : Nat → Value) (w : World) (K : Act → World → Prop), Below w0.heap.size w0 w → Deps Φ v w o.after.toList →
      Hid (∀ u w', Below w.heap.size w w' → (Φ.getD i Fact.any).p u w' → (∀ u2, (Φ.getD i2 Fact.any).p u2 w → D u u2 w') → K ((A v).put o.dst u) w') → wpList P ops (Exit.then K Q) [o] (A v) w)
    (cond (i == i2) (∀ (v : Nat → Value) (w : World) (K : Act → World → Prop), Below w0.heap.size w0 w → Deps Φ v w o.after.toList →
      Hid (∀ u w', Below w.heap.size w w' → (Φ.getD i Fact.any).p u w' → (∀ u1, (Φ.getD i1 Fact.any).p u1 w → D u1 u w') → K ((A v).put o.dst u) w') → wpList P ops (Exit.then K Q) [o] (A v) w)
      (Obl2 P ops Q A w0 Φ i o))
def Obls12 (P : Program) (ops : Array Oper) (Q : Exit → Act → World → Prop) (A : (Nat → Value) → Act) (w0 : World) (Φ : List Fact) (i1 i2 : Nat) (D : Value → Value → World → Prop) : Nat → List Oper → Prop
  | _, [] => True
  | i, o :: r => Obl12 P ops Q A w0 Φ i1 i2 D i o ∧ Obls12 P ops Q A w0 Φ i1 i2 D (i + 1) r
theorem Obls12.at {P : Program} {ops : Array Oper} {Q : Exit → Act → World → Prop} {A : (Nat → Value) → Act} {w0 : World} {Φ : List Fact} {i1 i2 : Nat} {D : Value → Value → World → Prop} : ∀ {k : Nat} {l : List Oper}, Obls12 P ops Q A w0 Φ i1 i2 D k l → ∀ {i : Nat} {o : Oper}, l[i]? = some o → Obl12 P ops Q A w0 Φ i1 i2 D (k + i) o
  | _, [], _, _, _, h => by simp at h
  | k, _ :: r, h, 0, _, ho => by simp at ho; subst ho; exact h.1
  | k, _ :: r, h, i + 1, _, ho => by
    have := Obls12.at h.2 (i := i) (by simpa using ho)
    rwa [show k + 1 + i = k + (i + 1) by omega] at this
theorem wp_region_conf12 {P : Program} {ops : Array Oper} {Q : Exit → Act → World → Prop} {a0 : Act} {w0 : World} {id : Nat} (n : Nat) (Φ : List Fact) (i1 i2 : Nat) (D : Value → Value → World → Prop) (A : (Nat → Value) → Act) (hm : P.follows .mixedOrders = true) (hok : confOk ops n = true)
    (hi : (decide (i1 < n) && decide (i2 < n) && !(i1 == i2)) = true) (hA : ∀ v, putAll v 0 (ops.toList.take n) a0 = A v) (hD : ∀ u1 u2 w w', D u1 u2 w → Below w.heap.size w w' → D u1 u2 w') (ho : Obls12 P ops Q A w0 Φ i1 i2 D 0 (ops.toList.take n))
    (hend : ∀ v w, Below w0.heap.size w0 w → (∀ j, j < n → (Φ.getD j Fact.any).p (v j) w) → D (v i1) (v i2) w → wpList P ops Q (ops.toList.drop n) (A v) w) : (Code.region id ops true).wp P Q a0 w0 := by
  simp only [Bool.and_eq_true, decide_eq_true_eq, Bool.not_eq_true', beq_eq_false_iff_ne] at hi
  obtain ⟨⟨h1n, h2n⟩, h12⟩ := hi
  refine wp_region_conf3 n (fun L v w => (∀ j, j < n → L.getD j false = true → (Φ.getD j Fact.any).p (v j) w) ∧ Below w0.heap.size w0 w ∧ (L.getD i1 false = true → L.getD i2 false = true → D (v i1) (v i2) w)) A hm hok hA ?_ ?_ ?_
  · intro i o hin hoi L v w K hui hdep ⟨hv, hB0, hDD⟩ HK
    have hilt : i < L.size := by
      rcases Nat.lt_or_ge i L.size with h | h
      · exact h
      · simp [Array.getElem?_eq_none h] at hui
    have hit : (L.setIfInBounds i true).getD i false = true := by simp [hilt]
    have hdv : ∀ l : List Edge, (∀ e ∈ l, e ∈ o.after) → Deps Φ v w l := by
      intro l
      induction l with
      | nil => intro _; exact trivial
      | cons e r ihl =>
        intro hl
        refine ⟨fun hb => hv e.on ?_ (hdep e (hl e (by simp)) hb), ihl fun x hx => hl x (by simp [hx])⟩
        have hbk : edgesBack 0 ops.toList = true := by
          simp only [confOk, Bool.and_eq_true] at hok
          exact hok.1.1.1.1.2
        have := edgesBack_spec hbk (i := i) (o := o) (by simpa using hoi) e (hl e (by simp)) hb
        omega
    have hdv := hdv o.after.toList (fun e he => by simpa using he)
    have ob := ho.at (i := i) (o := o) (by simp [hin, hoi])
    rw [Nat.zero_add] at ob
    have hfacts : ∀ u w', Below w.heap.size w w' → (Φ.getD i Fact.any).p u w' → ∀ j, j < n → (L.setIfInBounds i true).getD j false = true → (Φ.getD j Fact.any).p (upd v i u j) w' := by
      intro u w' hB hu j hj hl
      by_cases hji : j = i
      · subst hji
        rw [show upd v j u j = u by simp [upd]]
        exact hu
      · rw [show upd v i u j = v j by simp [upd, hji]]
        rw [getD_set_ne false (Ne.symm hji)] at hl
        exact (Φ.getD j Fact.any).st _ _ _ (hv j hj hl) hB
    have hBB : ∀ w', Below w.heap.size w w' → Below w0.heap.size w0 w' := fun w' hB => hB0.trans (hB.mono hB0.size)
    unfold Obl12 at ob
    cases hc1 : i == i1
    · have hn1 : i ≠ i1 := by simpa using hc1
      rw [hc1] at ob
      cases hc2 : i == i2
      · have hn2 : i ≠ i2 := by simpa using hc2
        rw [hc2] at ob
        refine ob v w K hB0 hdv (Lib.hid fun u w' hB hu => HK.out u w' ⟨hfacts u w' hB hu, hBB w' hB, fun a b => ?_⟩)
        rw [getD_set_ne false hn1] at a
        rw [getD_set_ne false hn2] at b
        rw [show upd v i u i1 = v i1 by simp [upd, Ne.symm hn1], show upd v i u i2 = v i2 by simp [upd, Ne.symm hn2]]
        exact hD _ _ _ _ (hDD a b) hB
      · have he : i = i2 := by simpa using hc2
        subst he
        rw [hc2] at ob
        refine ob v w K hB0 hdv (Lib.hid fun u w' hB hu hd => HK.out u w' ⟨hfacts u w' hB hu, hBB w' hB, fun a _ => ?_⟩)
        rw [getD_set_ne false hn1] at a
        rw [show upd v i u i1 = v i1 by simp [upd, Ne.symm hn1], show upd v i u i = u by simp [upd]]
        exact hd _ (hv i1 h1n a)
    · have he : i = i1 := by simpa using hc1
      subst he
      rw [hc1] at ob
      refine ob v w K hB0 hdv (Lib.hid fun u w' hB hu hd => HK.out u w' ⟨hfacts u w' hB hu, hBB w' hB, fun _ b => ?_⟩)
      rw [getD_set_ne false h12] at b
      rw [show upd v i u i = u by simp [upd], show upd v i u i2 = v i2 by simp [upd, Ne.symm h12]]
      exact hd _ (hv i2 h2n b)
  · intro v
    exact ⟨fun j hj hl => (by rw [getD_replicate_false] at hl; cases hl), (Below.refl _ _).drew, fun h => (by rw [getD_replicate_false] at h; cases h)⟩
  · intro v w ⟨hv, hB, hDD⟩
    have hall : ∀ j, j < n → (headListed n (ops.size - n)).getD j false = true := fun j hj => by
      simp only [headListed]
      rw [Array.getD_eq_getD_getElem?, List.getElem?_toArray, List.getElem?_append_left (by simpa using hj)]
      simp [hj]
    exact hend v w hB (fun j hj => hv j hj (hall j hj)) (hDD (hall i1 h1n) (hall i2 h2n))
end Go.Rv
namespace Go.Proofs.Ytoiephmngdecaaa
open Go.RowKit Go.Rv Rl Frm
set_option linter.unusedVariables false
/-- the cells of a result -/
def resC (p : Nat) (next applied : Int) (v u : Value) : Array Value := #[.pointer (some ⟨p, 0, none⟩), .int .i64 next, .int .i64 applied, v, u]
def ResZ : Array Value := #[.pointer none, .int .i64 0, .int .i64 0, .slice none 0 0, .slice none 0 0]
theorem Try.infoRes : (Try.prog.info? 35).map (fun i => (i.zero, i.size)) = some (some (.agg ResZ), 5) := by kernel_rfl
theorem ressize (p : Nat) (next applied : Int) (v u : Value) : (Try.prog.info? 35).map (·.size) = some (resC p next applied v u).size := (zero_of_info Try.infoRes).2
theorem built_resz : Try.prog.built 35 [] = some ResZ := by kernel_rfl
theorem built_res (p : Nat) (next applied : Int) (a b : Option Addr) (n m c d : Nat) : Try.prog.built 35 [(0, .pointer (some ⟨p, 0, none⟩)), (1, .int .i64 next), (2, .int .i64 applied), (3, .slice a n c), (4, .slice b m d)] = some (resC p next applied (.slice a n c) (.slice b m d)) := by kernel_rfl
theorem built_rol (p sb n : Nat) : Try.prog.built 99 [(0, .agg Tb.tabV), (1, .pointer (some ⟨p, 0, none⟩)), (3, .slice (some ⟨sb, 0, none⟩) n n)] = some (rolC p 0 0 (.slice none 0 0) sb n 0) := by kernel_rfl
theorem mk_sing (n : Nat) (hn : n ≤ 1000) (w : World) : (Instr.makeSlice 33 (.int .i64 (n : Nat)) (.int .i64 (n : Nat))).run Try.prog w = .ok (.slice (some ⟨w.heap.size, 0, none⟩) n n) (w.alloc (.cells (sgC (List.replicate n 0)) 3)) := by
  have h := mk_live n hn w
  rwa [show madeCells #[.int .i64 0] n = sgC (List.replicate n 0) by
    apply Array.toList_inj.1
    rw [made_ints]
    unfold sgC
    simp] at h
theorem gfield_bR (g : Geo.G) (w : World) : (Instr.field 23 (.agg (GC g)) 3).run Try.prog w = .ok (.int .i64 g.b) w := by kernel_rfl
/-- a copy of the map -/
def CpQ (B : Nat) (g : Geo.G) (es : List BE) (u : Value) (w : World) : Prop := ∃ p le ll ce cl, u = .pointer (some ⟨p, 0, none⟩) ∧ BmIs w p le ll ce cl g es (liveL (nz g) es) ∧ B ≤ p ∧ B ≤ le ∧ B ≤ ll
theorem CpQ.st (B : Nat) (g : Geo.G) (es : List BE) : ∀ u w w', CpQ B g es u w → Below w.heap.size w w' → CpQ B g es u w' := fun u w w' ⟨p, le, ll, ce, cl, e, h, r⟩ hB => ⟨p, le, ll, ce, cl, e, h.below hB, r⟩
/-- a row of zeros -/
def SlQ (B n : Nat) (u : Value) (w : World) : Prop := ∃ sb, u = .slice (some ⟨sb, 0, none⟩) n n ∧ B ≤ sb ∧ w.heap[sb]? = some (.cells (sgC (List.replicate n 0)) 3 (0, 0))
theorem SlQ.st (B n : Nat) : ∀ u w w', SlQ B n u w → Below w.heap.size w w' → SlQ B n u w' := fun u w w' ⟨sb, e, hb, h⟩ hB => ⟨sb, e, hb, (hB.block sb (Array.getElem?_eq_some_iff.1 h).1).trans h⟩
/-- both, apart -/
def DQ (B : Nat) (g : Geo.G) (es : List BE) (n : Nat) (u v : Value) (w : World) : Prop := ∃ p le ll ce cl sb, u = .pointer (some ⟨p, 0, none⟩) ∧ v = .slice (some ⟨sb, 0, none⟩) n n ∧ BmIs w p le ll ce cl g es (liveL (nz g) es) ∧ (B ≤ p ∧ B ≤ le ∧ B ≤ ll ∧ B ≤ sb) ∧ w.heap[sb]? = some (.cells (sgC (List.replicate n 0)) 3 (0, 0)) ∧ sb ≠ ll
theorem DQ.st (B : Nat) (g : Geo.G) (es : List BE) (n : Nat) : ∀ u v w w', DQ B g es n u v w → Below w.heap.size w w' → DQ B g es n u v w' := fun u v w w' ⟨p, le, ll, ce, cl, sb, e, e', h, r, hs, hne⟩ hB => ⟨p, le, ll, ce, cl, sb, e, e', h.below hB, r, (hB.block sb (Array.getElem?_eq_some_iff.1 hs).1).trans hs, hne⟩
theorem bm_ll_lt {w : World} {p le ll ce cl : Nat} {g : Geo.G} {es : List BE} {lv : List Int} (h : BmIs w p le ll ce cl g es lv) : ll < w.heap.size := by
  obtain ⟨V, hV, -⟩ := h.hl
  exact (Array.getElem?_eq_some_iff.1 hV).1
/-- singles, as what the call made -/
def OwQ (B : Nat) (l : List Int) (u : Value) (w : World) : Prop := ∃ a c, u = .slice a l.length c ∧ OwnM w 3 1 iC (fun _ => True) B (.slice a l.length c) l
theorem OwQ.st (B : Nat) (l : List Int) : ∀ u w w', OwQ B l u w → Below w.heap.size w w' → OwQ B l u w' := fun u w w' ⟨a, c, e, h⟩ hB => ⟨a, c, e, h.below hB⟩
theorem runRules : (∀ B g es u w, (Fact.of (CpQ B g es) (CpQ.st B g es)).p u w = (∃ p le ll ce cl, u = .pointer (some ⟨p, 0, none⟩) ∧ BmIs w p le ll ce cl g es (liveL (nz g) es) ∧ B ≤ p ∧ B ≤ le ∧ B ≤ ll)) ∧ (∀ B n u w, (Fact.of (SlQ B n) (SlQ.st B n)).p u w = (∃ sb, u = .slice (some ⟨sb, 0, none⟩) n n ∧ B ≤ sb ∧ w.heap[sb]? = some (.cells (sgC (List.replicate n 0)) 3 (0, 0)))) ∧ (∀ B l u w, (Fact.of (OwQ B l) (OwQ.st B l)).p u w = (∃ a c, u = .slice a l.length c ∧ OwnM w 3 1 iC (fun _ => True) B (.slice a l.length c) l)) :=
  ⟨fun _ _ _ _ _ => rfl, fun _ _ _ _ => rfl, fun _ _ _ _ => rfl⟩
theorem only_set1 (w : World) (g : Nat) (X : Array Value) : Only [g] w (w.setRow g X) := ⟨rfl, rfl, rfl, by simp [World.setRow], fun i hi hn => setRow_other w g i X (by simp at hn; omega)⟩
namespace Rl
def st0 (g : Geo.G) (es : List BE) : St := ⟨es, List.replicate g.b.toNat 0, 0, 0, 0, []⟩
theorem st0_ok (g : Geo.G) (es : List BE) : StOk g (st0 g es) 0 := ⟨⟨Int.le_refl _, Int.le_refl _⟩, ⟨by simp [st0], by simp [st0]⟩, Nat.le_refl _, by simp [st0]⟩
/-- where Run ends -/
def runSt (g : Geo.G) (es : List BE) (next : Int) (R : List (Int × Rec)) : St := after g R next (st0 g es) (runLen R next)
/-- the zones that Run tells -/
def zonesOf (R : List (Int × Rec)) : List Int := Lib.compact (sortedI (zones R))
end Rl
/-- what Run gives -/
def RunPost (w : World) (g : Geo.G) (es : List BE) (next : Int) (R : List (Int × Rec)) (e : Ending) (w' : World) : Prop :=
  ∃ p le ll ce cl av cv au cu, e = .returned (.tuple #[.agg (resC p (next + (runLen R next : Nat)) (runSt g es next R).applied (.slice av (Rl.singles (runSt g es next R).single 0).length cv) (.slice au (zonesOf R).length cu)), .int .i64 0]) ∧
    BmIs w' p le ll ce cl g (runSt g es next R).es (liveL (nz g) (runSt g es next R).es) ∧ MapOk g (runSt g es next R).es ∧ OwnM w' 3 1 iC (fun _ => True) w.heap.size (.slice av (Rl.singles (runSt g es next R).single 0).length cv) (Rl.singles (runSt g es next R).single 0) ∧ OwnM w' 3 1 iC (fun _ => True) w.heap.size (.slice au (zonesOf R).length cu) (zonesOf R) ∧ (w.heap.size ≤ p ∧ w.heap.size ≤ le ∧ w.heap.size ≤ ll) ∧ Below w.heap.size w w'
theorem RolIs.start {w : World} {B p le ll ce cl sb : Nat} {g : Geo.G} {es : List BE} (hm : BmIs w p le ll ce cl g es (liveL (nz g) es)) (hs : w.heap[sb]? = some (.cells (sgC (List.replicate g.b.toNat 0)) 3 (0, 0))) (hB : B ≤ p ∧ B ≤ le ∧ B ≤ ll ∧ B ≤ sb) (hBw : B ≤ w.heap.size) (hok : MapOk g es) (hne : sb ≠ ll) (X : Array Value) (hX : rolC p 0 0 (.slice none 0 0) sb g.b.toNat 0 = X) :
    RolIs (w.alloc (.cells X 99)) B w.heap.size p le ll ce cl sb g (.slice none 0 0) (st0 g es) := by
  have hb := (Below.refl w.heap.size w).alloc (Nat.le_refl _) (.cells X 99)
  refine ⟨?_, OwnM.nil _ _ _ _ _ _, hm.below hb, (hb.block sb (Array.getElem?_eq_some_iff.1 hs).1).trans hs, ⟨hBw, hB.1, hB.2.1, hB.2.2.1, hB.2.2.2, by simp; omega⟩, hok, by simp [st0], hne⟩
  rw [heap_alloc_new, ← hX]
  simp [st0]
end Go.Proofs.Ytoiephmngdecaaa
namespace Go.Proofs.Ytoiephmngdecaaa
open Go.RowKit Go.Rv Rl Frm
set_option linter.unusedVariables false
attribute [local go_sem] Oper.semAt_some
set_option maxRecDepth 100000 in
set_option maxHeartbeats 32000000 in
theorem rdata_any (w : World) (B q p le ll ce cl sb : Nat) (g : Geo.G) (v : Value) (st : St) (hr : Geo.right g = true) (h : RolIs w B q p le ll ce cl sb g v st) (c : Ch) (hq : ChQ c) (seq : Int) (hseq : 0 ≤ seq ∧ seq ≤ 1125899906842624) (hap : -1000000 ≤ st.applied ∧ st.applied ≤ 1000000)
    (hfi : -1125899906842624 ≤ st.first ∧ st.first ≤ 1125899906842624) (hol : st.ol.length ≤ 1000)
    (hok : ∀ (i : Nat) x, ((opened st seq c.r.e).ol ++ [c])[i]? = some x → ChQ x ∧ (0 ≤ x.r.e.block ∧ x.r.e.block < g.b) ∧ E64 (beOf ((opened st seq c.r.e).first + (i : Nat)) x)) :
    Calls Try.prog 31 #[.pointer (some ⟨q, 0, none⟩), .int .i64 seq, .agg (chC c)] w fun e w' => ∃ v', e = .returned (.tuple #[]) ∧ RolIs w' B q p le ll ce cl sb g v' (Rl.data g st seq c) ∧ Below B w w' := by
  have hz := (zero_of_info Try.infoEntry).1
  have hzc := (zero_of_info Try.infoCh).1
  have HLI := Lib.hid (fun (W : World) (v : Value) (st : St) hR (x : Ch) hx (sq : Int) hb hE => rlie_any W B q p le ll ce cl sb g v st hr hR x hx sq hb hE)
  have HOKK := Lib.hid hok
  have HBG := Lib.hid built_grp0
  have HBG2 := Lib.hid (fun f c => built_grp f c)
  have HIG : Hid (∀ (a b : Int), (Try.prog.info? 97).map (·.size) = some (#[.int .i64 a, .int .i64 b, .slice none 0 0] : Array Value).size) := Lib.hid (fun a b => (zero_of_info Try.infoGrp).2)
  have HQC := Lib.hid hq
  have HCI := Lib.hid (fun (x : Ch) (hx : ChQ x) => size_ch hx)
  have HCL : Hid (∀ (x : Ch), ChQ x → (Try.prog.info? 104).map (·.size) = some (chC x).toList.length) := Lib.hid (fun x hx => size_ch hx)
  have HCZ : Hid (∀ (x : Ch), ChQ x → (chC ch0).size = (chC x).size) := Lib.hid (fun x hx => by rw [kinCh.size x hx]; rfl)
  have HCO := Lib.hid (fun x h => kinCh.one x h)
  have HIE := Lib.hid (size_ent hq.1)
  have HIL : Hid ((Try.prog.info? 65).map (·.size) = some (EC c.r.e).toList.length) := Lib.hid (by rw [Array.length_toList]; exact size_ent hq.1)
  have HSE : Hid ((EC En.E.zero).size = (EC c.r.e).size) := Lib.hid (by rw [EC_size, EC_size, hq.1]; rfl)
  have HOE := Lib.hid (EC_one c.r.e)
  have hBs := h.hB.2.2.2.2.2
  have HLTS : Hid (q < w.heap.size ∧ ∀ k, v.ownBlock = some k → k < w.heap.size) := Lib.hid ⟨(Array.getElem?_eq_some_iff.1 h.hq).1, fun k hk => by obtain ⟨-, C, hC⟩ := h.hv.base_le hk; exact (Array.getElem?_eq_some_iff.1 hC).1⟩
  obtain ⟨W1, hW1⟩ : ∃ W, w.alloc (.cells (chC c) 104) = W := ⟨_, rfl⟩
  have hb1 : Below w.heap.size w W1 := by rw [← hW1]; exact (Below.refl _ _).alloc (Nat.le_refl _) _
  have hc1 : W1.heap[w.heap.size]? = some (.cells (chC c) 104 (0, 0)) := by rw [← hW1]; exact heap_alloc_new w _
  have zc1 : w.heap.size < W1.heap.size := (Array.getElem?_eq_some_iff.1 hc1).1
  have HRG := Lib.hid (ch_cells hq hc1).2.2.2.2.2.2
  obtain ⟨W2, hW2⟩ : ∃ W, W1.alloc (.cells (EC c.r.e) 65) = W := ⟨_, rfl⟩
  have hb2 : Below W1.heap.size W1 W2 := by rw [← hW2]; exact (Below.refl _ _).alloc (Nat.le_refl _) _
  have he2 : W2.heap[W1.heap.size]? = some (.cells (EC c.r.e) 65 (0, 0)) := by rw [← hW2]; exact heap_alloc_new W1 _
  have ze2 : W1.heap.size < W2.heap.size := (Array.getElem?_eq_some_iff.1 he2).1
  have hb12 := hb1.trans (hb2.mono (Nat.le_of_lt zc1))
  have HB2 := Lib.hid (hb12.mono hBs)
  have hR2 := h.below hb12
  have hc2 := (hb2.block _ zc1).trans hc1
  have HW1 := Lib.hid hW1
  have HW2 := Lib.hid hW2
  have HE2 := Lib.hid he2
  have HC2 := Lib.hid hc2
  have HR2 := Lib.hid hR2
  have HTH := Lib.hid hR2.there
  have HEC := Lib.hid (fun (W : World) (b : Nat) (hh : W.heap[b]? = some (.cells (EC c.r.e) 65 (0, 0))) => ent_cells hh)
  obtain ⟨res, hres⟩ : ∃ r, Rl.data g st seq c = r := ⟨_, rfl⟩
  have HRES := Lib.hid hres
  rw [hres]
  obtain ⟨X, hX⟩ : ∃ X, chC c = X := ⟨_, rfl⟩
  obtain ⟨CE, hCE⟩ : ∃ X, EC c.r.e = X := ⟨_, rfl⟩
  obtain ⟨Z, hZ⟩ : ∃ Z, EC En.E.zero = Z := ⟨_, rfl⟩
  rw [hX] at HW1 HC2 ⊢
  rw [hCE] at HIE HIL HSE HOE HW2 HE2 HEC HRG
  rw [hZ] at hz HSE
  have HX := Lib.hid hX
  obtain ⟨ef, hef⟩ : ∃ k, c.r.e.first = k := ⟨_, rfl⟩
  obtain ⟨ec, hec⟩ : ∃ k, c.r.e.count = k := ⟨_, rfl⟩
  have HEF := Lib.hid (And.intro hef hec)
  have HEE : Hid (∀ (W : World) (b : Nat), W.heap[b]? = some (.cells CE 65 (0, 0)) → W.cell? ⟨b, 1, none⟩ = some (.int .i64 ef) ∧ W.cell? ⟨b, 2, none⟩ = some (.int .i64 ec)) := Lib.hid (fun W b hh => by
    obtain ⟨-, h1, h2, -⟩ := HEC.out W b hh
    rw [hef] at h1
    rw [hec] at h2
    exact ⟨h1, h2⟩)
  clear h hq hok hb1 hc1 hW1 hW2 hb2 he2 hb12 hR2 hc2 hres hX hCE hZ hef hec HEC
  go_enter Try.func31, Try.ntmps31
  go_upto_region 1 with (fail)
  rw [HW1.out]
  go_upto_region 2 with (first | (refine wpList_load_mid rfl 65 _ rfl w.heap.size 0 rfl CE.toList _ HRG.out Try.underlying65 rfl HIL.out ?_) | (refine wpList_store_row rfl 65 _ _ rfl W1.heap.size CE rfl rfl 65 Z (heap_alloc_new W1 _) HIE.out HSE.out HOE.out ?_; rw [World.setRow_alloc_new]))
  rw [HW2.out, put_none]
  obtain ⟨E, hE⟩ : ∃ E, W1.heap.size = E := ⟨_, rfl⟩
  obtain ⟨C, hC⟩ : ∃ C, w.heap.size = C := ⟨_, rfl⟩
  have hEC : C < E := by omega
  have hBC : B ≤ C := by omega
  rw [hE] at HE2 ze2 ⊢
  rw [hC] at HC2 zc1 HLTS ⊢
  clear hE hC
  obtain ⟨e1, e2⟩ := HEE.out W2 E HE2.out
  by_cases hfs : ef = seq
  · have hop : opened st seq c.r.e = { st with first := seq, count := ec, ol := [] } := by
      unfold opened
      rw [if_pos (by rw [HEF.out.1]; exact hfs), HEF.out.2]
    have HOP := Lib.hid hop
    have hR3 := HR2.out.group seq ec (.slice none 0 0) [] (OwnM.nil _ _ _ _ _ _)
    obtain ⟨W3, hW3⟩ : ∃ W, W2.setCells q 257 [.int .i64 seq, .int .i64 ec, .slice none 0 0] = W := ⟨_, rfl⟩
    have hO3 : Only [q] W2 W3 := by rw [← hW3]; exact Only.of_setCells q _ _ _
    rw [hW3, ← hop] at hR3
    have HR3 := Lib.hid hR3
    have HE3 := Lib.hid (hO3.get HE2.out (by have := HLTS.out.1; simp; omega))
    have HC3 := Lib.hid (hO3.get HC2.out (by have := HLTS.out.1; simp; omega))
    have HB3 := Lib.hid (HB2.out.trans (hO3.below (by have := hR3.hB; simp; omega) (by omega)))
    have HW3 := Lib.hid hW3
    have t1 : (ef == seq) = true := by simp [hfs]
    clear hop hR3 hW3 hO3
    subst hfs
    go_upto_region 3 with (fail)
    go_upto_region 4 with (first | (refine wpList_build_on (by rfl) 97 _ rfl #[(0, .int .i64 ef), (1, .int .i64 ec)] (by simp [Act.eval, Act.put]) _ (HBG2.out ef ec) ?_) | (refine wpList_store_mid rfl 97 _ _ rfl q 257 #[.int .i64 ef, .int .i64 ec, .slice none 0 0] rfl rfl HTH.out (HIG.out _ _) (by simp [Value.oneCell']) ?_))
    rw [HW3.out, put_none]
    clear e1 e2
    obtain ⟨v1, hv1⟩ : ∃ u, (Value.slice none 0 0) = u := ⟨_, rfl⟩
    have HVB : Hid (∀ k, v1.ownBlock = some k → k < C) := Lib.hid (by rw [← hv1]; intro k hk; simp [Value.ownBlock] at hk)
    rw [hv1] at HR3
    clear hv1
    obtain ⟨st1, hst1⟩ : ∃ s, opened st ef c.r.e = s := ⟨_, rfl⟩
    rw [hst1] at HR3 HOKK
    have hap1 : st1.applied = st.applied := by rw [← hst1]; exact opened_applied _ _ _
    have HAP := Lib.hid hap1
    obtain ⟨f1, hf1⟩ : ∃ f, st1.first = f := ⟨_, rfl⟩
    obtain ⟨c1, hc1⟩ : ∃ f, st1.count = f := ⟨_, rfl⟩
    obtain ⟨a1, cap1, rfl, -, -, -, -, -⟩ := HR3.out.hv.shape kinCh
    obtain ⟨n1, hn1⟩ : ∃ f, st1.ol.length = f := ⟨_, rfl⟩
    have HKQ : Hid (∀ W, Below W3.heap.size W3 W → W.cell? ⟨q, 257, none⟩ = some (.int .i64 f1) ∧ W.cell? ⟨q, 258, none⟩ = some (.int .i64 c1) ∧ W.cell? ⟨q, 259, none⟩ = some (.slice a1 n1 cap1)) := Lib.hid (fun W hB => by
      obtain ⟨-, h1, h2, h3, -⟩ := (HR3.out.below hB).own
      rw [hf1] at h1
      rw [hc1] at h2
      rw [hn1] at h3
      exact ⟨h1, h2, h3⟩)
    have HKE : Hid (∀ W, Below W3.heap.size W3 W → W.cell? ⟨E, 1, none⟩ = some (.int .i64 ef) ∧ W.cell? ⟨E, 2, none⟩ = some (.int .i64 ec)) := Lib.hid (fun W hB => HEE.out W E ((hB.block E (Array.getElem?_eq_some_iff.1 HE3.out).1).trans HE3.out))
    have hB3s : B ≤ W3.heap.size := HR3.out.hB.2.2.2.2.2
    have HNF := Lib.hid (And.intro hf1 (And.intro hc1 hn1))
    have hgoes : goesOn st1 ef c.r.e = (decide (ef = f1) && (decide (ec = c1) && decide (ef = f1 + (n1 : Nat)))) := by unfold goesOn; rw [HEF.out.1, HEF.out.2, hf1, hc1, hn1]
    have HSHUT : Hid (goesOn st1 ef c.r.e = false → res = shut st1) := Lib.hid (fun hg => by rw [← HRES.out]; unfold Rl.data; simp only [hst1]; rw [if_pos hg])
    have HMORE : Hid (goesOn st1 ef c.r.e = true → res = if ((n1 + 1 : Nat) : Int) < ec then { st1 with ol := st1.ol ++ [c] } else { shut (lieAll g f1 (st1.ol ++ [c]) 0 st1) with applied := st1.applied + 1 }) := Lib.hid (fun hg => by rw [← HRES.out]; unfold Rl.data; simp only [hst1]; rw [if_neg (by rw [hg]; simp), hn1, hf1, HEF.out.2])
    have hfb : -1125899906842624 ≤ f1 ∧ f1 ≤ 1125899906842624 := by rw [← hf1, ← hst1]; unfold opened; split <;> (try simp only) <;> omega
    have hnb : n1 ≤ 1000 := by rw [← hn1, ← hst1]; unfold opened; split <;> (try simp) <;> omega
    have h1 : ef = f1 := by rw [← hf1, ← hst1, HOP.out]
    have h2 : ec = c1 := by rw [← hc1, ← hst1, HOP.out]
    have h3 : ef = f1 + (n1 : Nat) := by
      have h4 : n1 = 0 := by rw [← hn1, ← hst1, HOP.out]; rfl
      rw [h4, ← h1]
      simp
    clear hf1 hc1 hn1 hst1 hap1
    have hgo : goesOn st1 ef c.r.e = true := by rw [hgoes, decide_eq_true h1, decide_eq_true h2, decide_eq_true h3]; rfl
    have u1 : (ef != f1) = false := by simp [← h1]
    have u2 : (ec != c1) = false := by simp [← h2]
    have u3 : (ef != f1 + (n1 : Nat)) = false := by simp [← h3]
    clear hgoes h1 h2 h3 t1
    refine wp_region_conf2 33 [Fact.eq (.pointer (some ⟨E, 1, none⟩)), Fact.eq (.int .i64 ef), Fact.eq (.pointer (some ⟨q, 0, none⟩)), Fact.eq (.pointer (some ⟨q, 0, none⟩)), Fact.eq (.pointer (some ⟨q, 257, none⟩)), Fact.eq (.pointer (some ⟨q, 257, none⟩)), Fact.eq (.int .i64 f1), Fact.eq (.bool false), Fact.eq (.bool false), Fact.eq (.pointer (some ⟨E, 2, none⟩)), Fact.eq (.int .i64 ec), Fact.eq (.pointer (some ⟨q, 0, none⟩)), Fact.eq (.pointer (some ⟨q, 0, none⟩)), Fact.eq (.pointer (some ⟨q, 257, none⟩)), Fact.eq (.pointer (some ⟨q, 258, none⟩)), Fact.eq (.int .i64 c1), Fact.eq (.bool false), Fact.eq (.bool false), Fact.eq (.bool false), Fact.eq (.int .i64 ef), Fact.eq (.pointer (some ⟨q, 0, none⟩)), Fact.eq (.pointer (some ⟨q, 0, none⟩)), Fact.eq (.pointer (some ⟨q, 257, none⟩)), Fact.eq (.pointer (some ⟨q, 257, none⟩)), Fact.eq (.int .i64 f1), Fact.eq (.pointer (some ⟨q, 0, none⟩)), Fact.eq (.pointer (some ⟨q, 0, none⟩)), Fact.eq (.pointer (some ⟨q, 257, none⟩)), Fact.eq (.pointer (some ⟨q, 259, none⟩)), Fact.eq (.slice a1 n1 cap1), Fact.eq (.int .i64 (n1 : Nat)), Fact.eq (.int .i64 (f1 + (n1 : Nat))), Fact.eq (.bool false)] ?ydA (by kernel_rfl) (by kernel_rfl) ?ydhA ?ydho ?ydhend
    case ydhA =>
      intro vv
      simp only [putRules, Nat.reduceAdd]
      rfl
    case ydho =>
      refine ⟨?_, ?_, ?_, ?_, ?_, ?_, ?_, ?_, ?_, ?_, ?_, ?_, ?_, ?_, ?_, ?_, ?_, ?_, ?_, ?_, ?_, ?_, ?_, ?_, ?_, ?_, ?_, ?_, ?_, ?_, ?_, ?_, ?_, trivial⟩
      · intro vv W K hB hd HK
        simp only [confRules] at HK
        clear hd
        go_wp2
        refine HK.out _ _ (Below.refl _ _) ?_
        rfl
      · intro vv W K hB hd HK
        simp only [confRules] at hd HK
        have h0 := hd
        clear hd
        simp only [h0] at HK ⊢
        clear h0
        obtain ⟨c9, -⟩ := HKE.out W hB
        go_wp2
        refine HK.out _ _ (Below.refl _ _) ?_
        rfl
      · intro vv W K hB hd HK
        simp only [confRules] at HK
        clear hd
        go_wp2
        refine HK.out _ _ (Below.refl _ _) ?_
        rfl
      · intro vv W K hB hd HK
        simp only [confRules] at hd HK
        have h2 := hd
        clear hd
        simp only [h2] at HK ⊢
        clear h2
        go_wp2
        refine HK.out _ _ (Below.refl _ _) ?_
        rfl
      · intro vv W K hB hd HK
        simp only [confRules] at hd HK
        have h3 := hd
        clear hd
        simp only [h3] at HK ⊢
        clear h3
        go_wp2
        refine HK.out _ _ (Below.refl _ _) ?_
        rfl
      · intro vv W K hB hd HK
        simp only [confRules] at hd HK
        have h4 := hd
        clear hd
        simp only [h4] at HK ⊢
        clear h4
        go_wp2
        refine HK.out _ _ (Below.refl _ _) ?_
        rfl
      · intro vv W K hB hd HK
        simp only [confRules] at hd HK
        have h5 := hd
        clear hd
        simp only [h5] at HK ⊢
        clear h5
        obtain ⟨c9, -, -⟩ := HKQ.out W hB
        go_wp2
        refine HK.out _ _ (Below.refl _ _) ?_
        rfl
      · intro vv W K hB hd HK
        simp only [confRules] at hd HK
        obtain ⟨h1, h6⟩ := hd
        simp only [h1, h6] at HK ⊢
        clear h1 h6
        go_wp2
        refine HK.out _ _ (Below.refl _ _) ?_
        rfl
      · intro vv W K hB hd HK
        simp only [confRules] at hd HK
        have h7 := hd
        clear hd
        simp only [h7] at HK ⊢
        clear h7
        go_wp2
        refine HK.out _ _ (Below.refl _ _) ?_
        rfl
      · intro vv W K hB hd HK
        simp only [confRules] at hd HK
        have h8 := hd
        clear hd
        simp only [h8] at HK ⊢
        clear h8
        refine wpList_guard_yes (by rfl) ?_
        go_wp2
        refine HK.out _ _ (Below.refl _ _) ?_
        rfl
      · intro vv W K hB hd HK
        simp only [confRules] at hd HK
        obtain ⟨h9, h8⟩ := hd
        simp only [h9, h8] at HK ⊢
        clear h9 h8
        refine wpList_guard_yes (by rfl) ?_
        obtain ⟨-, c9⟩ := HKE.out W hB
        go_wp2
        refine HK.out _ _ (Below.refl _ _) ?_
        rfl
      · intro vv W K hB hd HK
        simp only [confRules] at hd HK
        have h8 := hd
        clear hd
        simp only [h8] at HK ⊢
        clear h8
        refine wpList_guard_yes (by rfl) ?_
        go_wp2
        refine HK.out _ _ (Below.refl _ _) ?_
        rfl
      · intro vv W K hB hd HK
        simp only [confRules] at hd HK
        obtain ⟨h11, h8⟩ := hd
        simp only [h11, h8] at HK ⊢
        clear h11 h8
        refine wpList_guard_yes (by rfl) ?_
        go_wp2
        refine HK.out _ _ (Below.refl _ _) ?_
        rfl
      · intro vv W K hB hd HK
        simp only [confRules] at hd HK
        obtain ⟨h12, h8⟩ := hd
        simp only [h12, h8] at HK ⊢
        clear h12 h8
        refine wpList_guard_yes (by rfl) ?_
        go_wp2
        refine HK.out _ _ (Below.refl _ _) ?_
        rfl
      · intro vv W K hB hd HK
        simp only [confRules] at hd HK
        obtain ⟨h13, h8⟩ := hd
        simp only [h13, h8] at HK ⊢
        clear h13 h8
        refine wpList_guard_yes (by rfl) ?_
        go_wp2
        refine HK.out _ _ (Below.refl _ _) ?_
        rfl
      · intro vv W K hB hd HK
        simp only [confRules] at hd HK
        obtain ⟨h14, h8⟩ := hd
        simp only [h14, h8] at HK ⊢
        clear h14 h8
        refine wpList_guard_yes (by rfl) ?_
        obtain ⟨-, c9, -⟩ := HKQ.out W hB
        go_wp2
        refine HK.out _ _ (Below.refl _ _) ?_
        rfl
      · intro vv W K hB hd HK
        simp only [confRules] at hd HK
        obtain ⟨h10, h15, h8⟩ := hd
        simp only [h10, h15, h8] at HK ⊢
        clear h10 h15 h8
        refine wpList_guard_yes (by rfl) ?_
        go_wp2
        refine HK.out _ _ (Below.refl _ _) ?_
        rfl
      · intro vv W K hB hd HK
        simp only [confRules] at hd HK
        obtain ⟨h8, h16⟩ := hd
        simp only [h8, h16] at HK ⊢
        clear h8 h16
        go_wp2
        refine HK.out _ _ (Below.refl _ _) ?_
        rfl
      · intro vv W K hB hd HK
        simp only [confRules] at hd HK
        obtain ⟨h17, h8⟩ := hd
        simp only [h17, h8] at HK ⊢
        clear h17 h8
        go_wp2
        refine HK.out _ _ (Below.refl _ _) ?_
        rfl
      · intro vv W K hB hd HK
        simp only [confRules] at hd HK
        have h18 := hd
        clear hd
        simp only [h18] at HK ⊢
        clear h18
        refine wpList_guard_yes (by rfl) ?_
        go_wp2
        refine HK.out _ _ (Below.refl _ _) ?_
        rfl
      · intro vv W K hB hd HK
        simp only [confRules] at hd HK
        have h18 := hd
        clear hd
        simp only [h18] at HK ⊢
        clear h18
        refine wpList_guard_yes (by rfl) ?_
        go_wp2
        refine HK.out _ _ (Below.refl _ _) ?_
        rfl
      · intro vv W K hB hd HK
        simp only [confRules] at hd HK
        obtain ⟨h20, h18⟩ := hd
        simp only [h20, h18] at HK ⊢
        clear h20 h18
        refine wpList_guard_yes (by rfl) ?_
        go_wp2
        refine HK.out _ _ (Below.refl _ _) ?_
        rfl
      · intro vv W K hB hd HK
        simp only [confRules] at hd HK
        obtain ⟨h21, h18⟩ := hd
        simp only [h21, h18] at HK ⊢
        clear h21 h18
        refine wpList_guard_yes (by rfl) ?_
        go_wp2
        refine HK.out _ _ (Below.refl _ _) ?_
        rfl
      · intro vv W K hB hd HK
        simp only [confRules] at hd HK
        obtain ⟨h22, h18⟩ := hd
        simp only [h22, h18] at HK ⊢
        clear h22 h18
        refine wpList_guard_yes (by rfl) ?_
        go_wp2
        refine HK.out _ _ (Below.refl _ _) ?_
        rfl
      · intro vv W K hB hd HK
        simp only [confRules] at hd HK
        obtain ⟨h23, h18⟩ := hd
        simp only [h23, h18] at HK ⊢
        clear h23 h18
        refine wpList_guard_yes (by rfl) ?_
        obtain ⟨c9, -, -⟩ := HKQ.out W hB
        go_wp2
        refine HK.out _ _ (Below.refl _ _) ?_
        rfl
      · intro vv W K hB hd HK
        simp only [confRules] at hd HK
        have h18 := hd
        clear hd
        simp only [h18] at HK ⊢
        clear h18
        refine wpList_guard_yes (by rfl) ?_
        go_wp2
        refine HK.out _ _ (Below.refl _ _) ?_
        rfl
      · intro vv W K hB hd HK
        simp only [confRules] at hd HK
        obtain ⟨h25, h18⟩ := hd
        simp only [h25, h18] at HK ⊢
        clear h25 h18
        refine wpList_guard_yes (by rfl) ?_
        go_wp2
        refine HK.out _ _ (Below.refl _ _) ?_
        rfl
      · intro vv W K hB hd HK
        simp only [confRules] at hd HK
        obtain ⟨h26, h18⟩ := hd
        simp only [h26, h18] at HK ⊢
        clear h26 h18
        refine wpList_guard_yes (by rfl) ?_
        go_wp2
        refine HK.out _ _ (Below.refl _ _) ?_
        rfl
      · intro vv W K hB hd HK
        simp only [confRules] at hd HK
        obtain ⟨h27, h18⟩ := hd
        simp only [h27, h18] at HK ⊢
        clear h27 h18
        refine wpList_guard_yes (by rfl) ?_
        go_wp2
        refine HK.out _ _ (Below.refl _ _) ?_
        rfl
      · intro vv W K hB hd HK
        simp only [confRules] at hd HK
        obtain ⟨h28, h18⟩ := hd
        simp only [h28, h18] at HK ⊢
        clear h28 h18
        refine wpList_guard_yes (by rfl) ?_
        obtain ⟨-, -, c9⟩ := HKQ.out W hB
        go_wp2
        refine HK.out _ _ (Below.refl _ _) ?_
        rfl
      · intro vv W K hB hd HK
        simp only [confRules] at hd HK
        obtain ⟨h29, h18⟩ := hd
        simp only [h29, h18] at HK ⊢
        clear h29 h18
        refine wpList_guard_yes (by rfl) ?_
        go_wp2
        refine HK.out _ _ (Below.refl _ _) ?_
        rfl
      · intro vv W K hB hd HK
        simp only [confRules] at hd HK
        obtain ⟨h24, h30, h18⟩ := hd
        simp only [h24, h30, h18] at HK ⊢
        clear h24 h30 h18
        refine wpList_guard_yes (by rfl) ?_
        go_wp2
        refine HK.out _ _ (Below.refl _ _) ?_
        rfl
      · intro vv W K hB hd HK
        simp only [confRules] at hd HK
        obtain ⟨h19, h31, h18⟩ := hd
        simp only [h19, h31, h18] at HK ⊢
        clear h19 h31 h18
        refine wpList_guard_yes (by rfl) ?_
        go_wp2
        refine HK.out _ _ (Below.refl _ _) ?_
        rfl
    case ydhend =>
      intro vv W hB hf
      have e18 := hf 18 (by decide)
      have e32 := hf 32 (by decide)
      simp only [endRules] at e18 e32
      simp only [e18, e32, dropRules]
      clear hf e18 e32
      have HMR := Lib.hid (HMORE.out hgo)
      obtain ⟨SB, hSB⟩ : ∃ s, (Value.slice a1 n1 cap1).ownBlock.toList = s := ⟨_, rfl⟩
      have HSBM : Hid (∀ x ∈ SB, (Value.slice a1 n1 cap1).ownBlock = some x) := Lib.hid (fun x hx => by rw [← hSB] at hx; simpa using hx)
      have HPB : Hid (∀ x ∈ SB, (Value.slice a1 st1.ol.length cap1).ownBlock = some x) := Lib.hid (fun x hx => by rw [HNF.out.2.2]; exact HSBM.out x hx)
      have HSBK : Hid (∀ x ∈ SB, x < C ∧ x ≠ q) := Lib.hid (fun x hx => by
        have h1 := HSBM.out x hx
        obtain ⟨-, -, -, -, -, -, nv⟩ := HR3.out.ne
        have h2 := h1
        rw [← HNF.out.2.2] at h2
        exact ⟨HVB.out x h2, (nv x h2).1⟩)
      have HGO : Hid (∀ V V', V.grownBy V' (Value.slice a1 n1 cap1).ownBlock → Only SB V V') := Lib.hid (fun V V' hg => (Only.refl _ _).grown hg (fun k hk => .inl (by rw [← hSB, hk]; simp)))
      have HRW := Lib.hid (HR3.out.below hB)
      have HEW := Lib.hid ((hB.block E (Array.getElem?_eq_some_iff.1 HE3.out).1).trans HE3.out)
      have HCW := Lib.hid ((hB.block C (Array.getElem?_eq_some_iff.1 HC3.out).1).trans HC3.out)
      have HBW := Lib.hid (HB3.out.trans (hB.mono hB3s))
      have zCW : C < W.heap.size := (Array.getElem?_eq_some_iff.1 HCW.out).1
      have zEW : E < W.heap.size := (Array.getElem?_eq_some_iff.1 HEW.out).1
      obtain ⟨W4, hW4⟩ : ∃ W4, W = W4 := ⟨_, rfl⟩
      rw [hW4] at HRW HEW HCW HBW zCW zEW ⊢
      clear hW4 hB hSB HKQ HKE
      have HKV : Hid (∀ V, Only SB W4 V → V.cell? ⟨q, 259, none⟩ = some (.slice a1 n1 cap1)) := Lib.hid (fun V hO => by
        have h1 := hO.get HRW.out.hq (fun hm => (HSBK.out q hm).2 rfl)
        have h2 := (rolC_cells h1).2.2.2.1
        rw [HNF.out.2.2] at h2
        exact h2)
      have HKC : Hid (∀ V, Only SB W4 V → V.heap[C]? = some (.cells X 104 (0, 0))) := Lib.hid (fun V hO => hO.get HCW.out (fun hm => by have := (HSBK.out C hm).1; omega))
      have HOL := HRW.out.hv
      rw [HNF.out.2.2] at HOL
      have HOLD := Lib.hid HOL
      clear HOL
      have hSW : ∀ x ∈ SB, x < W4.heap.size := fun x hx => Nat.lt_trans (HSBK.out x hx).1 zCW
      have hIC := HCI.out c HQC.out
      rw [HX.out] at hIC
      have HICC := Lib.hid hIC
      clear hIC
      go_upto_region 6 with (fail)
      refine wp_region_conf11 SB 9 [FactS.eq (.pointer (some ⟨q, 0, none⟩)), FactS.eq (.pointer (some ⟨q, 0, none⟩)), FactS.eq (.pointer (some ⟨q, 0, none⟩)), FactS.eq (.pointer (some ⟨q, 257, none⟩)), FactS.eq (.pointer (some ⟨q, 259, none⟩)), FactS.eq (.slice a1 n1 cap1), FactS.eq (.agg X), FactS.rowSl W4.heap.size X 104 hSW, FactS.eq undef] 8 (fun V => OwnM V 104 41 chC ChQ B (.slice a1 n1 cap1) st1.ol) (fun u V => OwnM V 104 41 chC ChQ B u (st1.ol ++ [c])) ?ydzA (by kernel_rfl) (by kernel_rfl) (by kernel_rfl) ?ydzhA ?ydzh0 ?ydzhb ?ydzhg ?ydzho ?ydzhend
      case ydzhA =>
        intro vv
        simp only [putRules, Nat.reduceAdd]
        rfl
      case ydzh0 =>
        exact HOLD.out.below (Below.refl _ _).drew
      case ydzhb =>
        intro V V' h1 h2
        exact h1.below h2
      case ydzhg =>
        intro u V V' h1 h2
        exact h1.below h2
      case ydzho =>
        refine ⟨?_, ?_, ?_, ?_, ?_, ?_, ?_, ?_, ?_, trivial⟩
        · intro vv W K hO hd HK
          simp only [confRules, conf6Rules] at HK
          clear hd
          go_wp2
          refine HK.out _ _ (Below.refl _ _) ?_
          rfl
        · intro vv W K hO hd HK
          simp only [confRules, conf6Rules] at HK
          clear hd
          go_wp2
          refine HK.out _ _ (Below.refl _ _) ?_
          rfl
        · intro vv W K hO hd HK
          simp only [confRules, conf6Rules] at hd HK
          have h1 := hd
          clear hd
          simp only [h1] at HK ⊢
          clear h1
          go_wp2
          refine HK.out _ _ (Below.refl _ _) ?_
          rfl
        · intro vv W K hO hd HK
          simp only [confRules, conf6Rules] at hd HK
          have h2 := hd
          clear hd
          simp only [h2] at HK ⊢
          clear h2
          go_wp2
          refine HK.out _ _ (Below.refl _ _) ?_
          rfl
        · intro vv W K hO hd HK
          simp only [confRules, conf6Rules] at hd HK
          have h3 := hd
          clear hd
          simp only [h3] at HK ⊢
          clear h3
          go_wp2
          refine HK.out _ _ (Below.refl _ _) ?_
          rfl
        · intro vv W K hO hd HK
          simp only [confRules, conf6Rules] at hd HK
          have h4 := hd
          clear hd
          simp only [h4] at HK ⊢
          clear h4
          have c9 := HKV.out W hO
          go_wp2
          refine HK.out _ _ (Below.refl _ _) ?_
          rfl
        · intro vv W K hO hd HK
          simp only [confRules, conf6Rules] at HK
          clear hd
          refine wpList_load_row rfl 104 _ rfl C rfl 104 _ _ _ (HKC.out W hO) Try.underlying104 rfl HICC.out ?_
          refine HK.out _ _ (Below.refl _ _) ?_
          rfl
        · intro vv W K hO hd HK
          simp only [confRules, conf6Rules] at hd HK
          have h6 := hd
          clear hd
          simp only [h6] at HK ⊢
          clear h6
          refine wpList_slice1h rfl (.tmp 67) rfl c HQC.out X HX.out rfl ?_
          refine HK.out _ _ ((Below.refl _ _).alloc (Nat.le_refl _) _) ?_
          exact ⟨_, rfl, hO.size, heap_alloc_new _ _⟩
        · intro vv W K hO hI hd HK
          simp only [confRules, conf6Rules] at hd HK
          obtain ⟨h5, ⟨g7, h7, b7, z7⟩⟩ := hd
          simp only [h5, h7] at HK ⊢
          clear h5 h7
          have HRX : Hid (RowOf W 41 chC ChQ (some ⟨g7, 0, none⟩) [c]) := Lib.hid (one_rowOf (t := 104) (fr := (0, 0)) (by rw [HX.out]; exact z7) HQC.out)
          have HI9 := Lib.hid hI
          go_wp2_with (at_builtin; refine wpList_appendM rfl (.tmp 66) (.tmp 68) 95 rfl 104 41 chC ChQ kinCh (by decide) (.agg (chC ch0)) 104 Try.underlying95 Try.infoCh3 rfl B _ st1.ol rfl HI9.out (some ⟨g7, 0, none⟩) 1 [c] (by rfl) HRX.out (by simp) (by have := HNF.out.2.2; unfold maxLen; simp; omega) (by have := HNF.out.2.2; simp; omega) (by have := hO.size; have := HRW.out.hB; omega) ?_; intro v9 w9 hv9 hg9 _)
          exact HK.out _ _ (HGO.out _ _ hg9) hv9
      case ydzhend =>
        intro vv W hO hf hG
        have e0 := hf 0 (by decide) (by rfl)
        simp only [conf6Rules] at e0
        simp only [e0, dropRules]
        clear hf e0
        obtain ⟨u6, hu6⟩ : ∃ u, vv 8 = u := ⟨_, rfl⟩
        rw [hu6] at hG ⊢
        clear hu6
        obtain ⟨a6, c6, rfl, -, -, -, -, -⟩ := hG.shape kinCh
        have hlen6 : (st1.ol ++ [c]).length = n1 + 1 := by rw [List.length_append, HNF.out.2.2]; rfl
        have hR6 := HRW.out.pushed hO HPB.out _ _ hG
        obtain ⟨ol2, hol2⟩ : ∃ o, st1.ol ++ [c] = o := ⟨_, rfl⟩
        rw [hol2] at hR6 hlen6 HMR HOKK ⊢
        obtain ⟨n2, hn2⟩ : ∃ n, n1 + 1 = n := ⟨_, rfl⟩
        rw [hn2] at hlen6 HMR
        rw [hlen6] at hR6 ⊢
        obtain ⟨W6, hW6⟩ : ∃ W6, W.setCell ⟨q, 259, none⟩ (.slice a6 n2 c6) = W6 := ⟨_, rfl⟩
        have hO6 : Only (q :: SB) W4 W6 := by rw [← hW6]; exact (hO.mono (fun x hx => .inl (by simp [hx]))).setCell (.inl (by simp)) _
        rw [hW6] at hR6
        have c9 := HKV.out W hO
        have f9 : W.frozen? ⟨q, 259, none⟩ = false := frozen_of_row _ _ _ _ _ (hO.get HRW.out.hq (fun hm => (HSBK.out q hm).2 rfl))
        have HR6 := Lib.hid hR6
        have HE6 := Lib.hid (hO6.get HEW.out (by simp only [List.mem_cons]; rintro (e | hm); have := HLTS.out.1; omega; have := (HSBK.out E hm).1; omega))
        have HB6 := Lib.hid (HBW.out.trans (hO6.below (by intro x hx; rcases List.mem_cons.1 hx with rfl | hx; exact hR6.hB.1; exact (HRW.out.hv.base_le (by have := HPB.out x hx; exact this)).1) HRW.out.hB.2.2.2.2.2))
        have HL6 := Lib.hid hlen6
        have HW6 := Lib.hid hW6
        have hn2b : n2 ≤ 1001 := by omega
        clear hG hR6 hO6 hlen6 hW6 hO hol2 hn2
        go_upto_region 7 with (fail)
        rw [HW6.out]
        clear c9 f9
        have HKQ6 : Hid (∀ V, Below W6.heap.size W6 V → V.cell? ⟨q, 259, none⟩ = some (.slice a6 n2 c6)) := Lib.hid (fun V hB => (HR6.out.below hB).own.2.2.2.1)
        have HKE6 : Hid (∀ V, Below W6.heap.size W6 V → V.cell? ⟨E, 2, none⟩ = some (.int .i64 ec)) := Lib.hid (fun V hB => (HEE.out V E ((hB.block E (Array.getElem?_eq_some_iff.1 HE6.out).1).trans HE6.out)).2)
        by_cases hlt : (n2 : Int) < ec
        · have u4 : decide ((n2 : Int) < ec) = true := decide_eq_true hlt
          have hres := HMR.out
          rw [if_pos hlt] at hres
          have HRS := Lib.hid hres
          clear hlt hres

          refine wp_region_conf2 8 [Fact.eq (.pointer (some ⟨q, 0, none⟩)), Fact.eq (.pointer (some ⟨q, 0, none⟩)), Fact.eq (.pointer (some ⟨q, 257, none⟩)), Fact.eq (.pointer (some ⟨q, 259, none⟩)), Fact.eq (.slice a6 n2 c6), Fact.eq (.int .i64 (n2 : Nat)), Fact.eq (.pointer (some ⟨E, 2, none⟩)), Fact.eq (.int .i64 ec)] ?yduA (by kernel_rfl) (by kernel_rfl) ?yduhA ?yduho ?yduhend
          case yduhA =>
            intro vv
            simp only [putRules, Nat.reduceAdd]
            rfl
          case yduho =>
            refine ⟨?_, ?_, ?_, ?_, ?_, ?_, ?_, ?_, trivial⟩
            · intro vv W K hB hd HK
              simp only [confRules] at HK
              clear hd
              go_wp2
              refine HK.out _ _ (Below.refl _ _) ?_
              rfl
            · intro vv W K hB hd HK
              simp only [confRules] at hd HK
              have h0 := hd
              clear hd
              simp only [h0] at HK ⊢
              clear h0
              go_wp2
              refine HK.out _ _ (Below.refl _ _) ?_
              rfl
            · intro vv W K hB hd HK
              simp only [confRules] at hd HK
              have h1 := hd
              clear hd
              simp only [h1] at HK ⊢
              clear h1
              go_wp2
              refine HK.out _ _ (Below.refl _ _) ?_
              rfl
            · intro vv W K hB hd HK
              simp only [confRules] at hd HK
              have h2 := hd
              clear hd
              simp only [h2] at HK ⊢
              clear h2
              go_wp2
              refine HK.out _ _ (Below.refl _ _) ?_
              rfl
            · intro vv W K hB hd HK
              simp only [confRules] at hd HK
              have h3 := hd
              clear hd
              simp only [h3] at HK ⊢
              clear h3
              have c9 := HKQ6.out W hB
              go_wp2
              refine HK.out _ _ (Below.refl _ _) ?_
              rfl
            · intro vv W K hB hd HK
              simp only [confRules] at hd HK
              have h4 := hd
              clear hd
              simp only [h4] at HK ⊢
              clear h4
              go_wp2
              refine HK.out _ _ (Below.refl _ _) ?_
              rfl
            · intro vv W K hB hd HK
              simp only [confRules] at HK
              clear hd
              go_wp2
              refine HK.out _ _ (Below.refl _ _) ?_
              rfl
            · intro vv W K hB hd HK
              simp only [confRules] at hd HK
              have h6 := hd
              clear hd
              simp only [h6] at HK ⊢
              clear h6
              have c9 := HKE6.out W hB
              go_wp2
              refine HK.out _ _ (Below.refl _ _) ?_
              rfl
          case yduhend =>
            intro vv W hB hf
            have e5 := hf 5 (by decide)
            have e7 := hf 7 (by decide)
            simp only [endRules] at e5 e7
            simp only [e5, e7, dropRules]
            clear hf e5 e7
            have HRF := Lib.hid (HR6.out.below hB)
            have HBF := Lib.hid (HB6.out.trans (hB.mono HR6.out.hB.2.2.2.2.2))
            clear hB
            go_wp2
            refine bodyPost_ret (results_none rfl _ _ _) rfl ?_
            rw [HRS.out]
            first | exact ⟨_, rfl, HRF.out, HBF.out⟩ | exact ⟨rfl, ⟨_, HRF.out⟩, HBF.out⟩
        · have u4 : decide ((n2 : Int) < ec) = false := decide_eq_false hlt
          have hres := HMR.out
          rw [if_neg hlt] at hres
          have HRS := Lib.hid hres
          clear hlt hres

          refine wp_region_conf2 8 [Fact.eq (.pointer (some ⟨q, 0, none⟩)), Fact.eq (.pointer (some ⟨q, 0, none⟩)), Fact.eq (.pointer (some ⟨q, 257, none⟩)), Fact.eq (.pointer (some ⟨q, 259, none⟩)), Fact.eq (.slice a6 n2 c6), Fact.eq (.int .i64 (n2 : Nat)), Fact.eq (.pointer (some ⟨E, 2, none⟩)), Fact.eq (.int .i64 ec)] ?ydvA (by kernel_rfl) (by kernel_rfl) ?ydvhA ?ydvho ?ydvhend
          case ydvhA =>
            intro vv
            simp only [putRules, Nat.reduceAdd]
            rfl
          case ydvho =>
            refine ⟨?_, ?_, ?_, ?_, ?_, ?_, ?_, ?_, trivial⟩
            · intro vv W K hB hd HK
              simp only [confRules] at HK
              clear hd
              go_wp2
              refine HK.out _ _ (Below.refl _ _) ?_
              rfl
            · intro vv W K hB hd HK
              simp only [confRules] at hd HK
              have h0 := hd
              clear hd
              simp only [h0] at HK ⊢
              clear h0
              go_wp2
              refine HK.out _ _ (Below.refl _ _) ?_
              rfl
            · intro vv W K hB hd HK
              simp only [confRules] at hd HK
              have h1 := hd
              clear hd
              simp only [h1] at HK ⊢
              clear h1
              go_wp2
              refine HK.out _ _ (Below.refl _ _) ?_
              rfl
            · intro vv W K hB hd HK
              simp only [confRules] at hd HK
              have h2 := hd
              clear hd
              simp only [h2] at HK ⊢
              clear h2
              go_wp2
              refine HK.out _ _ (Below.refl _ _) ?_
              rfl
            · intro vv W K hB hd HK
              simp only [confRules] at hd HK
              have h3 := hd
              clear hd
              simp only [h3] at HK ⊢
              clear h3
              have c9 := HKQ6.out W hB
              go_wp2
              refine HK.out _ _ (Below.refl _ _) ?_
              rfl
            · intro vv W K hB hd HK
              simp only [confRules] at hd HK
              have h4 := hd
              clear hd
              simp only [h4] at HK ⊢
              clear h4
              go_wp2
              refine HK.out _ _ (Below.refl _ _) ?_
              rfl
            · intro vv W K hB hd HK
              simp only [confRules] at HK
              clear hd
              go_wp2
              refine HK.out _ _ (Below.refl _ _) ?_
              rfl
            · intro vv W K hB hd HK
              simp only [confRules] at hd HK
              have h6 := hd
              clear hd
              simp only [h6] at HK ⊢
              clear h6
              have c9 := HKE6.out W hB
              go_wp2
              refine HK.out _ _ (Below.refl _ _) ?_
              rfl
          case ydvhend =>
            intro vv W hB hf
            have e5 := hf 5 (by decide)
            have e7 := hf 7 (by decide)
            simp only [endRules] at e5 e7
            simp only [e5, e7, dropRules]
            clear hf e5 e7
            have HR7 := Lib.hid (HR6.out.below hB)
            have HB7 := Lib.hid (HB6.out.trans (hB.mono HR6.out.hB.2.2.2.2.2))
            obtain ⟨W7, hW7⟩ : ∃ W7, W = W7 := ⟨_, rfl⟩
            have c259 := HKQ6.out W hB
            rw [hW7] at HR7 HB7 c259 ⊢
            clear hB hW7
            obtain ⟨st2, hst2⟩ : ∃ s, ({ st1 with ol := ol2 } : St) = s := ⟨_, rfl⟩
            rw [hst2] at HR7
            have H2F : Hid (st2.first = f1 ∧ st2.ol = ol2 ∧ st2.applied = st1.applied) := Lib.hid (by rw [← hst2]; exact ⟨HNF.out.1, rfl, rfl⟩)
            have HFINAL : Hid (({ lieAll g f1 ol2 0 st2 with first := 0, count := 0, applied := (lieAll g f1 ol2 0 st2).applied + 1, ol := [] } : St) = res) := Lib.hid (by
              rw [HRS.out, ← hst2, lieAll_ol, (lieAll_keeps g f1 ol2 0 st1).2.2.2]
              rfl)
            have hB7s : B ≤ W7.heap.size := HR7.out.hB.2.2.2.2.2
            clear hst2
            go_wp2
            clear c259
            go_loopw [88] (fun u wr => ∃ k : Nat, k ≤ n2 ∧ u = .int .i64 k ∧ RolIs wr B q p le ll ce cl sb g (.slice a6 n2 c6) (Rl.lieAll g f1 (ol2.take k) 0 st2) ∧ Below B W7 wr) (fun u _ => n2 - (intOf u).toNat)
            case atStart => exact ⟨0, Nat.zero_le _, rfl, HR7.out, Below.refl _ _⟩
            case round =>
              obtain ⟨k, hk, rfl, hRk, hBk⟩ := hrel
              have HRK := Lib.hid hRk
              have HBK := Lib.hid hBk
              clear hRk hBk
              by_cases hlt : k < n2
              · obtain ⟨x, hx⟩ : ∃ x, ol2[k]? = some x := ⟨_, List.getElem?_eq_getElem (by rw [HL6.out]; exact hlt)⟩
                obtain ⟨hqx, hbx, hEx⟩ := HOKK.out k x hx
                rw [HNF.out.1] at hEx
                obtain ⟨sk, hsk⟩ : ∃ s, Rl.lieAll g f1 (ol2.take k) 0 st2 = s := ⟨_, rfl⟩
                have hkeep := lieAll_keeps g f1 (ol2.take k) 0 st2
                rw [hsk] at hkeep HRK
                have hskf : sk.first = f1 := hkeep.1.trans H2F.out.1
                have hsko : sk.ol = ol2 := hkeep.2.2.1.trans H2F.out.2.1
                have hstep : Rl.lieAll g f1 (ol2.take (k + 1)) 0 st2 = Rl.lie g sk (f1 + (k : Nat)) x := by
                  rw [List.take_add_one, hx]
                  simp only [Option.toList_some]
                  rw [lieAll_snoc, hsk, List.length_take, HL6.out, Nat.min_eq_left hk, Nat.zero_add]
                have HSTEP := Lib.hid hstep
                have hov := HRK.out.hv
                rw [hsko] at hov
                obtain ⟨a', c', he, hrow, -, -, -, -⟩ := hov.shape kinCh
                rw [HL6.out] at he
                cases he
                obtain ⟨b, o, rfl, -, -, -⟩ := hrow.at hx
                have HGX := Lib.hid (Rl2.rowOf_range hrow kinCh.size hx)
                have HLX := Lib.hid (fun W hW => HLI.out W (Value.slice (some ⟨b, o, none⟩) n2 c6) sk hW x hqx (f1 + (k : Nat)) hbx hEx)
                have HQX := Lib.hid hqx
                obtain ⟨W8, hW8⟩ : ∃ W, wr.alloc (.cells (chC x) 104) = W := ⟨_, rfl⟩
                have hb8 : Below wr.heap.size wr W8 := by rw [← hW8]; exact (Below.refl _ _).alloc (Nat.le_refl _) _
                have hx8 : W8.heap[wr.heap.size]? = some (.cells (chC x) 104 (0, 0)) := by rw [← hW8]; exact heap_alloc_new wr _
                have HX8 := Lib.hid hx8
                have zX8 : wr.heap.size < W8.heap.size := (Array.getElem?_eq_some_iff.1 hx8).1
                have HR8 := Lib.hid (HRK.out.below hb8)
                have HB8 := Lib.hid (HBK.out.trans (hb8.mono HRK.out.hB.2.2.2.2.2))
                have HW8 := Lib.hid hW8
                have HSF := Lib.hid hskf
                clear hx hqx hbx hEx hsk hkeep hskf hsko hstep hov hrow hW8 hb8 hx8
                go_upto_region 11 with (first | (refine wpList_load_mid rfl 104 _ rfl b (o + k * 41) rfl (chC x).toList _ HGX.out Try.underlying104 rfl (HCL.out _ HQX.out) ?_) | (refine wpList_store_row rfl 104 _ _ rfl wr.heap.size (chC x) rfl rfl 104 (chC ch0) (heap_alloc_new wr _) (HCI.out _ HQX.out) (HCZ.out _ HQX.out) (HCO.out _ HQX.out) ?_; rw [World.setRow_alloc_new]))
                rw [HW8.out, put_none]
                obtain ⟨XB, hXB⟩ : ∃ X, wr.heap.size = X := ⟨_, rfl⟩
                rw [hXB] at HX8 zX8 ⊢
                clear hXB

                refine wp_region_conf2 9 [Fact.eq (.pointer (some ⟨q, 0, none⟩)), Fact.eq (.pointer (some ⟨q, 0, none⟩)), Fact.eq (.pointer (some ⟨q, 0, none⟩)), Fact.eq (.pointer (some ⟨q, 257, none⟩)), Fact.eq (.pointer (some ⟨q, 257, none⟩)), Fact.eq (.int .i64 f1), Fact.eq (.int .i64 (k : Nat)), Fact.eq (.int .i64 (f1 + (k : Nat))), Fact.eq (.agg (chC x))] ?ydwA (by kernel_rfl) (by kernel_rfl) ?ydwhA ?ydwho ?ydwhend
                case ydwhA =>
                  intro vv
                  simp only [putRules, Nat.reduceAdd]
                  rfl
                case ydwho =>
                  refine ⟨?_, ?_, ?_, ?_, ?_, ?_, ?_, ?_, ?_, trivial⟩
                  · intro vv W K hB hd HK
                    simp only [confRules] at HK
                    clear hd
                    go_wp2
                    refine HK.out _ _ (Below.refl _ _) ?_
                    rfl
                  · intro vv W K hB hd HK
                    simp only [confRules] at HK
                    clear hd
                    go_wp2
                    refine HK.out _ _ (Below.refl _ _) ?_
                    rfl
                  · intro vv W K hB hd HK
                    simp only [confRules] at hd HK
                    have h1 := hd
                    clear hd
                    simp only [h1] at HK ⊢
                    clear h1
                    go_wp2
                    refine HK.out _ _ (Below.refl _ _) ?_
                    rfl
                  · intro vv W K hB hd HK
                    simp only [confRules] at hd HK
                    have h2 := hd
                    clear hd
                    simp only [h2] at HK ⊢
                    clear h2
                    go_wp2
                    refine HK.out _ _ (Below.refl _ _) ?_
                    rfl
                  · intro vv W K hB hd HK
                    simp only [confRules] at hd HK
                    have h3 := hd
                    clear hd
                    simp only [h3] at HK ⊢
                    clear h3
                    go_wp2
                    refine HK.out _ _ (Below.refl _ _) ?_
                    rfl
                  · intro vv W K hB hd HK
                    simp only [confRules] at hd HK
                    have h4 := hd
                    clear hd
                    simp only [h4] at HK ⊢
                    clear h4
                    obtain ⟨-, c9, -, -, -, -⟩ := (HR8.out.below hB).own
                    rw [HSF.out] at c9
                    go_wp2
                    refine HK.out _ _ (Below.refl _ _) ?_
                    rfl
                  · intro vv W K hB hd HK
                    simp only [confRules] at HK
                    clear hd
                    go_wp2
                    refine HK.out _ _ (Below.refl _ _) ?_
                    rfl
                  · intro vv W K hB hd HK
                    simp only [confRules] at hd HK
                    obtain ⟨h5, h6⟩ := hd
                    simp only [h5, h6] at HK ⊢
                    clear h5 h6
                    go_wp2
                    refine HK.out _ _ (Below.refl _ _) ?_
                    rfl
                  · intro vv W K hB hd HK
                    simp only [confRules] at HK
                    clear hd
                    have c9 := (hB.block XB zX8).trans HX8.out
                    refine wpList_load_row rfl 104 _ rfl XB rfl 104 _ _ _ c9 Try.underlying104 rfl (HCI.out _ HQX.out) ?_
                    refine HK.out _ _ (Below.refl _ _) ?_
                    rfl
                case ydwhend =>
                  intro vv W hB hf
                  have e0 := hf 0 (by decide)
                  have e7 := hf 7 (by decide)
                  have e8 := hf 8 (by decide)
                  simp only [endRules] at e0 e7 e8
                  simp only [e0, e7, e8, dropRules]
                  clear hf e0 e7 e8
                  have HSX := Lib.hid (HLX.out W (HR8.out.below hB))
                  have HBX := Lib.hid (HB8.out.trans (hB.mono HR8.out.hB.2.2.2.2.2))
                  clear hB
                  go_wp2_with fail
                  refine HSX.out.mono ?_
                  rintro e9 w9 ⟨rfl, hR9, hB9⟩
                  rw [← HSTEP.out] at hR9
                  have HR9 := Lib.hid hR9
                  have HB9 := Lib.hid (HBX.out.trans hB9)
                  clear hR9 hB9
                  go_wp2
                  first | exact ⟨⟨k + 1, by omega, by go_num, HR9.out, HB9.out⟩, by simp [intOf]; omega⟩ | (go_roundw; exact ⟨k + 1, by omega, by go_num, HR9.out, HB9.out⟩; simp [intOf]; omega)
              · obtain rfl : k = n2 := by omega
                have hRk := HRK.out
                rw [List.take_of_length_le (by rw [HL6.out]; exact Nat.le_refl _)] at hRk
                have HTH9 := Lib.hid hRk.there
                have hR10 := hRk.group 0 0 (.slice none 0 0) [] (OwnM.nil _ _ _ _ _ _)
                obtain ⟨W10, hW10⟩ : ∃ W, wr.setCells q 257 [.int .i64 0, .int .i64 0, .slice none 0 0] = W := ⟨_, rfl⟩
                have hO10 : Only [q] wr W10 := by rw [← hW10]; exact Only.of_setCells q _ _ _
                rw [hW10] at hR10
                obtain ⟨ap, hap9⟩ : ∃ a, (lieAll g f1 ol2 0 st2).applied = a := ⟨_, rfl⟩
                have hapb : -1000000 ≤ ap ∧ ap ≤ 1000000 := by rw [← hap9, (lieAll_keeps g f1 ol2 0 st2).2.2.2, H2F.out.2.2, HAP.out]; exact hap
                have hR11 := hR10.count (ap + 1)
                obtain ⟨-, -, -, -, -, a10⟩ := hR10.own
                have f10 : W10.frozen? ⟨q, 261, none⟩ = false := frozen_of_row _ _ _ _ _ hR10.hq
                simp only [hap9] at a10
                obtain ⟨W11, hW11⟩ : ∃ W, W10.setCell ⟨q, 261, none⟩ (.int .i64 (ap + 1)) = W := ⟨_, rfl⟩
                have hO11 : Only [q] wr W11 := by rw [← hW11]; exact hO10.setCell (.inl (by simp)) _
                rw [hW11] at hR11
                have HB11 := Lib.hid ((HB7.out.trans HBK.out).trans (hO11.below (by have := hRk.hB; simp; omega) hRk.hB.2.2.2.2.2))
                have HFR : Hid (RolIs W11 B q p le ll ce cl sb g (.slice none 0 0) res) := Lib.hid (by rw [← HFINAL.out, hap9]; exact hR11)
                have HW10 := Lib.hid hW10
                have HW11 := Lib.hid hW11
                clear hRk hR10 hO10 hR11 hO11 hW10 hW11 hap9
                go_upto_region 14 with (first | (refine wpList_build_on (by rfl) 97 _ rfl #[] (by simp) _ HBG.out ?_) | (refine wpList_store_mid rfl 97 _ _ rfl q 257 #[.int .i64 0, .int .i64 0, .slice none 0 0] rfl rfl HTH9.out (HIG.out _ _) (by simp [Value.oneCell']) ?_))
                rw [HW10.out, put_none]
                go_wp2
                rw [HW11.out]
                refine bodyPost_end (results_none rfl _ _ _) rfl ?_
                first | exact ⟨_, rfl, HFR.out, HB11.out⟩ | exact ⟨rfl, ⟨_, HFR.out⟩, HB11.out⟩
  · have t1 : (ef == seq) = false := by simp [hfs]
    have hop : opened st seq c.r.e = st := by
      unfold opened
      rw [if_neg (by rw [HEF.out.1]; exact hfs)]
    obtain ⟨W3, hW3⟩ : ∃ W, W2 = W := ⟨_, rfl⟩
    rw [hW3] at HR2 HE2 HC2 HB2 ze2 e1 e2 ⊢
    have HR3 := HR2
    rw [← hop] at HR3
    have HE3 := HE2
    have HC3 := HC2
    have HB3 := HB2
    have HVB : Hid (∀ k, v.ownBlock = some k → k < C) := Lib.hid HLTS.out.2
    go_upto_region 4 with (fail)
    clear e1 e2 hfs hop
    obtain ⟨st1, hst1⟩ : ∃ s, opened st seq c.r.e = s := ⟨_, rfl⟩
    rw [hst1] at HR3 HOKK
    have hap1 : st1.applied = st.applied := by rw [← hst1]; exact opened_applied _ _ _
    have HAP := Lib.hid hap1
    obtain ⟨f1, hf1⟩ : ∃ f, st1.first = f := ⟨_, rfl⟩
    obtain ⟨c1, hc1⟩ : ∃ f, st1.count = f := ⟨_, rfl⟩
    obtain ⟨a1, cap1, rfl, -, -, -, -, -⟩ := HR3.out.hv.shape kinCh
    obtain ⟨n1, hn1⟩ : ∃ f, st1.ol.length = f := ⟨_, rfl⟩
    have HKQ : Hid (∀ W, Below W3.heap.size W3 W → W.cell? ⟨q, 257, none⟩ = some (.int .i64 f1) ∧ W.cell? ⟨q, 258, none⟩ = some (.int .i64 c1) ∧ W.cell? ⟨q, 259, none⟩ = some (.slice a1 n1 cap1)) := Lib.hid (fun W hB => by
      obtain ⟨-, h1, h2, h3, -⟩ := (HR3.out.below hB).own
      rw [hf1] at h1
      rw [hc1] at h2
      rw [hn1] at h3
      exact ⟨h1, h2, h3⟩)
    have HKE : Hid (∀ W, Below W3.heap.size W3 W → W.cell? ⟨E, 1, none⟩ = some (.int .i64 ef) ∧ W.cell? ⟨E, 2, none⟩ = some (.int .i64 ec)) := Lib.hid (fun W hB => HEE.out W E ((hB.block E (Array.getElem?_eq_some_iff.1 HE3.out).1).trans HE3.out))
    have hB3s : B ≤ W3.heap.size := HR3.out.hB.2.2.2.2.2
    have HNF := Lib.hid (And.intro hf1 (And.intro hc1 hn1))
    have hgoes : goesOn st1 seq c.r.e = (decide (ef = f1) && (decide (ec = c1) && decide (seq = f1 + (n1 : Nat)))) := by unfold goesOn; rw [HEF.out.1, HEF.out.2, hf1, hc1, hn1]
    have HSHUT : Hid (goesOn st1 seq c.r.e = false → res = shut st1) := Lib.hid (fun hg => by rw [← HRES.out]; unfold Rl.data; simp only [hst1]; rw [if_pos hg])
    have HMORE : Hid (goesOn st1 seq c.r.e = true → res = if ((n1 + 1 : Nat) : Int) < ec then { st1 with ol := st1.ol ++ [c] } else { shut (lieAll g f1 (st1.ol ++ [c]) 0 st1) with applied := st1.applied + 1 }) := Lib.hid (fun hg => by rw [← HRES.out]; unfold Rl.data; simp only [hst1]; rw [if_neg (by rw [hg]; simp), hn1, hf1, HEF.out.2])
    have hfb : -1125899906842624 ≤ f1 ∧ f1 ≤ 1125899906842624 := by rw [← hf1, ← hst1]; unfold opened; split <;> (try simp only) <;> omega
    have hnb : n1 ≤ 1000 := by rw [← hn1, ← hst1]; unfold opened; split <;> (try simp) <;> omega
    clear hf1 hc1 hn1 hst1 hap1
    by_cases h1 : ef = f1
    · by_cases h2 : ec = c1
      · by_cases h3 : seq = f1 + (n1 : Nat)
        · have hgo : goesOn st1 seq c.r.e = true := by rw [hgoes]; simp [h1, h2, h3]
          have u1 : (ef != f1) = false := by simp [h1]
          have u2 : (ec != c1) = false := by simp [h2]
          have u3 : (seq != f1 + (n1 : Nat)) = false := by simp [h3]
          clear hgoes h1 h2 h3 t1
          refine wp_region_conf2 33 [Fact.eq (.pointer (some ⟨E, 1, none⟩)), Fact.eq (.int .i64 ef), Fact.eq (.pointer (some ⟨q, 0, none⟩)), Fact.eq (.pointer (some ⟨q, 0, none⟩)), Fact.eq (.pointer (some ⟨q, 257, none⟩)), Fact.eq (.pointer (some ⟨q, 257, none⟩)), Fact.eq (.int .i64 f1), Fact.eq (.bool false), Fact.eq (.bool false), Fact.eq (.pointer (some ⟨E, 2, none⟩)), Fact.eq (.int .i64 ec), Fact.eq (.pointer (some ⟨q, 0, none⟩)), Fact.eq (.pointer (some ⟨q, 0, none⟩)), Fact.eq (.pointer (some ⟨q, 257, none⟩)), Fact.eq (.pointer (some ⟨q, 258, none⟩)), Fact.eq (.int .i64 c1), Fact.eq (.bool false), Fact.eq (.bool false), Fact.eq (.bool false), Fact.eq (.int .i64 seq), Fact.eq (.pointer (some ⟨q, 0, none⟩)), Fact.eq (.pointer (some ⟨q, 0, none⟩)), Fact.eq (.pointer (some ⟨q, 257, none⟩)), Fact.eq (.pointer (some ⟨q, 257, none⟩)), Fact.eq (.int .i64 f1), Fact.eq (.pointer (some ⟨q, 0, none⟩)), Fact.eq (.pointer (some ⟨q, 0, none⟩)), Fact.eq (.pointer (some ⟨q, 257, none⟩)), Fact.eq (.pointer (some ⟨q, 259, none⟩)), Fact.eq (.slice a1 n1 cap1), Fact.eq (.int .i64 (n1 : Nat)), Fact.eq (.int .i64 (f1 + (n1 : Nat))), Fact.eq (.bool false)] ?rdA (by kernel_rfl) (by kernel_rfl) ?rdhA ?rdho ?rdhend
          case rdhA =>
            intro vv
            simp only [putRules, Nat.reduceAdd]
            rfl
          case rdho =>
            refine ⟨?_, ?_, ?_, ?_, ?_, ?_, ?_, ?_, ?_, ?_, ?_, ?_, ?_, ?_, ?_, ?_, ?_, ?_, ?_, ?_, ?_, ?_, ?_, ?_, ?_, ?_, ?_, ?_, ?_, ?_, ?_, ?_, ?_, trivial⟩
            · intro vv W K hB hd HK
              simp only [confRules] at HK
              clear hd
              go_wp2
              refine HK.out _ _ (Below.refl _ _) ?_
              rfl
            · intro vv W K hB hd HK
              simp only [confRules] at hd HK
              have h0 := hd
              clear hd
              simp only [h0] at HK ⊢
              clear h0
              obtain ⟨c9, -⟩ := HKE.out W hB
              go_wp2
              refine HK.out _ _ (Below.refl _ _) ?_
              rfl
            · intro vv W K hB hd HK
              simp only [confRules] at HK
              clear hd
              go_wp2
              refine HK.out _ _ (Below.refl _ _) ?_
              rfl
            · intro vv W K hB hd HK
              simp only [confRules] at hd HK
              have h2 := hd
              clear hd
              simp only [h2] at HK ⊢
              clear h2
              go_wp2
              refine HK.out _ _ (Below.refl _ _) ?_
              rfl
            · intro vv W K hB hd HK
              simp only [confRules] at hd HK
              have h3 := hd
              clear hd
              simp only [h3] at HK ⊢
              clear h3
              go_wp2
              refine HK.out _ _ (Below.refl _ _) ?_
              rfl
            · intro vv W K hB hd HK
              simp only [confRules] at hd HK
              have h4 := hd
              clear hd
              simp only [h4] at HK ⊢
              clear h4
              go_wp2
              refine HK.out _ _ (Below.refl _ _) ?_
              rfl
            · intro vv W K hB hd HK
              simp only [confRules] at hd HK
              have h5 := hd
              clear hd
              simp only [h5] at HK ⊢
              clear h5
              obtain ⟨c9, -, -⟩ := HKQ.out W hB
              go_wp2
              refine HK.out _ _ (Below.refl _ _) ?_
              rfl
            · intro vv W K hB hd HK
              simp only [confRules] at hd HK
              obtain ⟨h1, h6⟩ := hd
              simp only [h1, h6] at HK ⊢
              clear h1 h6
              go_wp2
              refine HK.out _ _ (Below.refl _ _) ?_
              rfl
            · intro vv W K hB hd HK
              simp only [confRules] at hd HK
              have h7 := hd
              clear hd
              simp only [h7] at HK ⊢
              clear h7
              go_wp2
              refine HK.out _ _ (Below.refl _ _) ?_
              rfl
            · intro vv W K hB hd HK
              simp only [confRules] at hd HK
              have h8 := hd
              clear hd
              simp only [h8] at HK ⊢
              clear h8
              refine wpList_guard_yes (by rfl) ?_
              go_wp2
              refine HK.out _ _ (Below.refl _ _) ?_
              rfl
            · intro vv W K hB hd HK
              simp only [confRules] at hd HK
              obtain ⟨h9, h8⟩ := hd
              simp only [h9, h8] at HK ⊢
              clear h9 h8
              refine wpList_guard_yes (by rfl) ?_
              obtain ⟨-, c9⟩ := HKE.out W hB
              go_wp2
              refine HK.out _ _ (Below.refl _ _) ?_
              rfl
            · intro vv W K hB hd HK
              simp only [confRules] at hd HK
              have h8 := hd
              clear hd
              simp only [h8] at HK ⊢
              clear h8
              refine wpList_guard_yes (by rfl) ?_
              go_wp2
              refine HK.out _ _ (Below.refl _ _) ?_
              rfl
            · intro vv W K hB hd HK
              simp only [confRules] at hd HK
              obtain ⟨h11, h8⟩ := hd
              simp only [h11, h8] at HK ⊢
              clear h11 h8
              refine wpList_guard_yes (by rfl) ?_
              go_wp2
              refine HK.out _ _ (Below.refl _ _) ?_
              rfl
            · intro vv W K hB hd HK
              simp only [confRules] at hd HK
              obtain ⟨h12, h8⟩ := hd
              simp only [h12, h8] at HK ⊢
              clear h12 h8
              refine wpList_guard_yes (by rfl) ?_
              go_wp2
              refine HK.out _ _ (Below.refl _ _) ?_
              rfl
            · intro vv W K hB hd HK
              simp only [confRules] at hd HK
              obtain ⟨h13, h8⟩ := hd
              simp only [h13, h8] at HK ⊢
              clear h13 h8
              refine wpList_guard_yes (by rfl) ?_
              go_wp2
              refine HK.out _ _ (Below.refl _ _) ?_
              rfl
            · intro vv W K hB hd HK
              simp only [confRules] at hd HK
              obtain ⟨h14, h8⟩ := hd
              simp only [h14, h8] at HK ⊢
              clear h14 h8
              refine wpList_guard_yes (by rfl) ?_
              obtain ⟨-, c9, -⟩ := HKQ.out W hB
              go_wp2
              refine HK.out _ _ (Below.refl _ _) ?_
              rfl
            · intro vv W K hB hd HK
              simp only [confRules] at hd HK
              obtain ⟨h10, h15, h8⟩ := hd
              simp only [h10, h15, h8] at HK ⊢
              clear h10 h15 h8
              refine wpList_guard_yes (by rfl) ?_
              go_wp2
              refine HK.out _ _ (Below.refl _ _) ?_
              rfl
            · intro vv W K hB hd HK
              simp only [confRules] at hd HK
              obtain ⟨h8, h16⟩ := hd
              simp only [h8, h16] at HK ⊢
              clear h8 h16
              go_wp2
              refine HK.out _ _ (Below.refl _ _) ?_
              rfl
            · intro vv W K hB hd HK
              simp only [confRules] at hd HK
              obtain ⟨h17, h8⟩ := hd
              simp only [h17, h8] at HK ⊢
              clear h17 h8
              go_wp2
              refine HK.out _ _ (Below.refl _ _) ?_
              rfl
            · intro vv W K hB hd HK
              simp only [confRules] at hd HK
              have h18 := hd
              clear hd
              simp only [h18] at HK ⊢
              clear h18
              refine wpList_guard_yes (by rfl) ?_
              go_wp2
              refine HK.out _ _ (Below.refl _ _) ?_
              rfl
            · intro vv W K hB hd HK
              simp only [confRules] at hd HK
              have h18 := hd
              clear hd
              simp only [h18] at HK ⊢
              clear h18
              refine wpList_guard_yes (by rfl) ?_
              go_wp2
              refine HK.out _ _ (Below.refl _ _) ?_
              rfl
            · intro vv W K hB hd HK
              simp only [confRules] at hd HK
              obtain ⟨h20, h18⟩ := hd
              simp only [h20, h18] at HK ⊢
              clear h20 h18
              refine wpList_guard_yes (by rfl) ?_
              go_wp2
              refine HK.out _ _ (Below.refl _ _) ?_
              rfl
            · intro vv W K hB hd HK
              simp only [confRules] at hd HK
              obtain ⟨h21, h18⟩ := hd
              simp only [h21, h18] at HK ⊢
              clear h21 h18
              refine wpList_guard_yes (by rfl) ?_
              go_wp2
              refine HK.out _ _ (Below.refl _ _) ?_
              rfl
            · intro vv W K hB hd HK
              simp only [confRules] at hd HK
              obtain ⟨h22, h18⟩ := hd
              simp only [h22, h18] at HK ⊢
              clear h22 h18
              refine wpList_guard_yes (by rfl) ?_
              go_wp2
              refine HK.out _ _ (Below.refl _ _) ?_
              rfl
            · intro vv W K hB hd HK
              simp only [confRules] at hd HK
              obtain ⟨h23, h18⟩ := hd
              simp only [h23, h18] at HK ⊢
              clear h23 h18
              refine wpList_guard_yes (by rfl) ?_
              obtain ⟨c9, -, -⟩ := HKQ.out W hB
              go_wp2
              refine HK.out _ _ (Below.refl _ _) ?_
              rfl
            · intro vv W K hB hd HK
              simp only [confRules] at hd HK
              have h18 := hd
              clear hd
              simp only [h18] at HK ⊢
              clear h18
              refine wpList_guard_yes (by rfl) ?_
              go_wp2
              refine HK.out _ _ (Below.refl _ _) ?_
              rfl
            · intro vv W K hB hd HK
              simp only [confRules] at hd HK
              obtain ⟨h25, h18⟩ := hd
              simp only [h25, h18] at HK ⊢
              clear h25 h18
              refine wpList_guard_yes (by rfl) ?_
              go_wp2
              refine HK.out _ _ (Below.refl _ _) ?_
              rfl
            · intro vv W K hB hd HK
              simp only [confRules] at hd HK
              obtain ⟨h26, h18⟩ := hd
              simp only [h26, h18] at HK ⊢
              clear h26 h18
              refine wpList_guard_yes (by rfl) ?_
              go_wp2
              refine HK.out _ _ (Below.refl _ _) ?_
              rfl
            · intro vv W K hB hd HK
              simp only [confRules] at hd HK
              obtain ⟨h27, h18⟩ := hd
              simp only [h27, h18] at HK ⊢
              clear h27 h18
              refine wpList_guard_yes (by rfl) ?_
              go_wp2
              refine HK.out _ _ (Below.refl _ _) ?_
              rfl
            · intro vv W K hB hd HK
              simp only [confRules] at hd HK
              obtain ⟨h28, h18⟩ := hd
              simp only [h28, h18] at HK ⊢
              clear h28 h18
              refine wpList_guard_yes (by rfl) ?_
              obtain ⟨-, -, c9⟩ := HKQ.out W hB
              go_wp2
              refine HK.out _ _ (Below.refl _ _) ?_
              rfl
            · intro vv W K hB hd HK
              simp only [confRules] at hd HK
              obtain ⟨h29, h18⟩ := hd
              simp only [h29, h18] at HK ⊢
              clear h29 h18
              refine wpList_guard_yes (by rfl) ?_
              go_wp2
              refine HK.out _ _ (Below.refl _ _) ?_
              rfl
            · intro vv W K hB hd HK
              simp only [confRules] at hd HK
              obtain ⟨h24, h30, h18⟩ := hd
              simp only [h24, h30, h18] at HK ⊢
              clear h24 h30 h18
              refine wpList_guard_yes (by rfl) ?_
              go_wp2
              refine HK.out _ _ (Below.refl _ _) ?_
              rfl
            · intro vv W K hB hd HK
              simp only [confRules] at hd HK
              obtain ⟨h19, h31, h18⟩ := hd
              simp only [h19, h31, h18] at HK ⊢
              clear h19 h31 h18
              refine wpList_guard_yes (by rfl) ?_
              go_wp2
              refine HK.out _ _ (Below.refl _ _) ?_
              rfl
          case rdhend =>
            intro vv W hB hf
            have e18 := hf 18 (by decide)
            have e32 := hf 32 (by decide)
            simp only [endRules] at e18 e32
            simp only [e18, e32, dropRules]
            clear hf e18 e32
            have HMR := Lib.hid (HMORE.out hgo)
            obtain ⟨SB, hSB⟩ : ∃ s, (Value.slice a1 n1 cap1).ownBlock.toList = s := ⟨_, rfl⟩
            have HSBM : Hid (∀ x ∈ SB, (Value.slice a1 n1 cap1).ownBlock = some x) := Lib.hid (fun x hx => by rw [← hSB] at hx; simpa using hx)
            have HPB : Hid (∀ x ∈ SB, (Value.slice a1 st1.ol.length cap1).ownBlock = some x) := Lib.hid (fun x hx => by rw [HNF.out.2.2]; exact HSBM.out x hx)
            have HSBK : Hid (∀ x ∈ SB, x < C ∧ x ≠ q) := Lib.hid (fun x hx => by
              have h1 := HSBM.out x hx
              obtain ⟨-, -, -, -, -, -, nv⟩ := HR3.out.ne
              have h2 := h1
              rw [← HNF.out.2.2] at h2
              exact ⟨HVB.out x h2, (nv x h2).1⟩)
            have HGO : Hid (∀ V V', V.grownBy V' (Value.slice a1 n1 cap1).ownBlock → Only SB V V') := Lib.hid (fun V V' hg => (Only.refl _ _).grown hg (fun k hk => .inl (by rw [← hSB, hk]; simp)))
            have HRW := Lib.hid (HR3.out.below hB)
            have HEW := Lib.hid ((hB.block E (Array.getElem?_eq_some_iff.1 HE3.out).1).trans HE3.out)
            have HCW := Lib.hid ((hB.block C (Array.getElem?_eq_some_iff.1 HC3.out).1).trans HC3.out)
            have HBW := Lib.hid (HB3.out.trans (hB.mono hB3s))
            have zCW : C < W.heap.size := (Array.getElem?_eq_some_iff.1 HCW.out).1
            have zEW : E < W.heap.size := (Array.getElem?_eq_some_iff.1 HEW.out).1
            obtain ⟨W4, hW4⟩ : ∃ W4, W = W4 := ⟨_, rfl⟩
            rw [hW4] at HRW HEW HCW HBW zCW zEW ⊢
            clear hW4 hB hSB HKQ HKE
            have HKV : Hid (∀ V, Only SB W4 V → V.cell? ⟨q, 259, none⟩ = some (.slice a1 n1 cap1)) := Lib.hid (fun V hO => by
              have h1 := hO.get HRW.out.hq (fun hm => (HSBK.out q hm).2 rfl)
              have h2 := (rolC_cells h1).2.2.2.1
              rw [HNF.out.2.2] at h2
              exact h2)
            have HKC : Hid (∀ V, Only SB W4 V → V.heap[C]? = some (.cells X 104 (0, 0))) := Lib.hid (fun V hO => hO.get HCW.out (fun hm => by have := (HSBK.out C hm).1; omega))
            have HOL := HRW.out.hv
            rw [HNF.out.2.2] at HOL
            have HOLD := Lib.hid HOL
            clear HOL
            have hSW : ∀ x ∈ SB, x < W4.heap.size := fun x hx => Nat.lt_trans (HSBK.out x hx).1 zCW
            have hIC := HCI.out c HQC.out
            rw [HX.out] at hIC
            have HICC := Lib.hid hIC
            clear hIC
            go_upto_region 6 with (fail)
            refine wp_region_conf11 SB 9 [FactS.eq (.pointer (some ⟨q, 0, none⟩)), FactS.eq (.pointer (some ⟨q, 0, none⟩)), FactS.eq (.pointer (some ⟨q, 0, none⟩)), FactS.eq (.pointer (some ⟨q, 257, none⟩)), FactS.eq (.pointer (some ⟨q, 259, none⟩)), FactS.eq (.slice a1 n1 cap1), FactS.eq (.agg X), FactS.rowSl W4.heap.size X 104 hSW, FactS.eq undef] 8 (fun V => OwnM V 104 41 chC ChQ B (.slice a1 n1 cap1) st1.ol) (fun u V => OwnM V 104 41 chC ChQ B u (st1.ol ++ [c])) ?rdzA (by kernel_rfl) (by kernel_rfl) (by kernel_rfl) ?rdzhA ?rdzh0 ?rdzhb ?rdzhg ?rdzho ?rdzhend
            case rdzhA =>
              intro vv
              simp only [putRules, Nat.reduceAdd]
              rfl
            case rdzh0 =>
              exact HOLD.out.below (Below.refl _ _).drew
            case rdzhb =>
              intro V V' h1 h2
              exact h1.below h2
            case rdzhg =>
              intro u V V' h1 h2
              exact h1.below h2
            case rdzho =>
              refine ⟨?_, ?_, ?_, ?_, ?_, ?_, ?_, ?_, ?_, trivial⟩
              · intro vv W K hO hd HK
                simp only [confRules, conf6Rules] at HK
                clear hd
                go_wp2
                refine HK.out _ _ (Below.refl _ _) ?_
                rfl
              · intro vv W K hO hd HK
                simp only [confRules, conf6Rules] at HK
                clear hd
                go_wp2
                refine HK.out _ _ (Below.refl _ _) ?_
                rfl
              · intro vv W K hO hd HK
                simp only [confRules, conf6Rules] at hd HK
                have h1 := hd
                clear hd
                simp only [h1] at HK ⊢
                clear h1
                go_wp2
                refine HK.out _ _ (Below.refl _ _) ?_
                rfl
              · intro vv W K hO hd HK
                simp only [confRules, conf6Rules] at hd HK
                have h2 := hd
                clear hd
                simp only [h2] at HK ⊢
                clear h2
                go_wp2
                refine HK.out _ _ (Below.refl _ _) ?_
                rfl
              · intro vv W K hO hd HK
                simp only [confRules, conf6Rules] at hd HK
                have h3 := hd
                clear hd
                simp only [h3] at HK ⊢
                clear h3
                go_wp2
                refine HK.out _ _ (Below.refl _ _) ?_
                rfl
              · intro vv W K hO hd HK
                simp only [confRules, conf6Rules] at hd HK
                have h4 := hd
                clear hd
                simp only [h4] at HK ⊢
                clear h4
                have c9 := HKV.out W hO
                go_wp2
                refine HK.out _ _ (Below.refl _ _) ?_
                rfl
              · intro vv W K hO hd HK
                simp only [confRules, conf6Rules] at HK
                clear hd
                refine wpList_load_row rfl 104 _ rfl C rfl 104 _ _ _ (HKC.out W hO) Try.underlying104 rfl HICC.out ?_
                refine HK.out _ _ (Below.refl _ _) ?_
                rfl
              · intro vv W K hO hd HK
                simp only [confRules, conf6Rules] at hd HK
                have h6 := hd
                clear hd
                simp only [h6] at HK ⊢
                clear h6
                refine wpList_slice1h rfl (.tmp 67) rfl c HQC.out X HX.out rfl ?_
                refine HK.out _ _ ((Below.refl _ _).alloc (Nat.le_refl _) _) ?_
                exact ⟨_, rfl, hO.size, heap_alloc_new _ _⟩
              · intro vv W K hO hI hd HK
                simp only [confRules, conf6Rules] at hd HK
                obtain ⟨h5, ⟨g7, h7, b7, z7⟩⟩ := hd
                simp only [h5, h7] at HK ⊢
                clear h5 h7
                have HRX : Hid (RowOf W 41 chC ChQ (some ⟨g7, 0, none⟩) [c]) := Lib.hid (one_rowOf (t := 104) (fr := (0, 0)) (by rw [HX.out]; exact z7) HQC.out)
                have HI9 := Lib.hid hI
                go_wp2_with (at_builtin; refine wpList_appendM rfl (.tmp 66) (.tmp 68) 95 rfl 104 41 chC ChQ kinCh (by decide) (.agg (chC ch0)) 104 Try.underlying95 Try.infoCh3 rfl B _ st1.ol rfl HI9.out (some ⟨g7, 0, none⟩) 1 [c] (by rfl) HRX.out (by simp) (by have := HNF.out.2.2; unfold maxLen; simp; omega) (by have := HNF.out.2.2; simp; omega) (by have := hO.size; have := HRW.out.hB; omega) ?_; intro v9 w9 hv9 hg9 _)
                exact HK.out _ _ (HGO.out _ _ hg9) hv9
            case rdzhend =>
              intro vv W hO hf hG
              have e0 := hf 0 (by decide) (by rfl)
              simp only [conf6Rules] at e0
              simp only [e0, dropRules]
              clear hf e0
              obtain ⟨u6, hu6⟩ : ∃ u, vv 8 = u := ⟨_, rfl⟩
              rw [hu6] at hG ⊢
              clear hu6
              obtain ⟨a6, c6, rfl, -, -, -, -, -⟩ := hG.shape kinCh
              have hlen6 : (st1.ol ++ [c]).length = n1 + 1 := by rw [List.length_append, HNF.out.2.2]; rfl
              have hR6 := HRW.out.pushed hO HPB.out _ _ hG
              obtain ⟨ol2, hol2⟩ : ∃ o, st1.ol ++ [c] = o := ⟨_, rfl⟩
              rw [hol2] at hR6 hlen6 HMR HOKK ⊢
              obtain ⟨n2, hn2⟩ : ∃ n, n1 + 1 = n := ⟨_, rfl⟩
              rw [hn2] at hlen6 HMR
              rw [hlen6] at hR6 ⊢
              obtain ⟨W6, hW6⟩ : ∃ W6, W.setCell ⟨q, 259, none⟩ (.slice a6 n2 c6) = W6 := ⟨_, rfl⟩
              have hO6 : Only (q :: SB) W4 W6 := by rw [← hW6]; exact (hO.mono (fun x hx => .inl (by simp [hx]))).setCell (.inl (by simp)) _
              rw [hW6] at hR6
              have c9 := HKV.out W hO
              have f9 : W.frozen? ⟨q, 259, none⟩ = false := frozen_of_row _ _ _ _ _ (hO.get HRW.out.hq (fun hm => (HSBK.out q hm).2 rfl))
              have HR6 := Lib.hid hR6
              have HE6 := Lib.hid (hO6.get HEW.out (by simp only [List.mem_cons]; rintro (e | hm); have := HLTS.out.1; omega; have := (HSBK.out E hm).1; omega))
              have HB6 := Lib.hid (HBW.out.trans (hO6.below (by intro x hx; rcases List.mem_cons.1 hx with rfl | hx; exact hR6.hB.1; exact (HRW.out.hv.base_le (by have := HPB.out x hx; exact this)).1) HRW.out.hB.2.2.2.2.2))
              have HL6 := Lib.hid hlen6
              have HW6 := Lib.hid hW6
              have hn2b : n2 ≤ 1001 := by omega
              clear hG hR6 hO6 hlen6 hW6 hO hol2 hn2
              go_upto_region 7 with (fail)
              rw [HW6.out]
              clear c9 f9
              have HKQ6 : Hid (∀ V, Below W6.heap.size W6 V → V.cell? ⟨q, 259, none⟩ = some (.slice a6 n2 c6)) := Lib.hid (fun V hB => (HR6.out.below hB).own.2.2.2.1)
              have HKE6 : Hid (∀ V, Below W6.heap.size W6 V → V.cell? ⟨E, 2, none⟩ = some (.int .i64 ec)) := Lib.hid (fun V hB => (HEE.out V E ((hB.block E (Array.getElem?_eq_some_iff.1 HE6.out).1).trans HE6.out)).2)
              by_cases hlt : (n2 : Int) < ec
              · have u4 : decide ((n2 : Int) < ec) = true := decide_eq_true hlt
                have hres := HMR.out
                rw [if_pos hlt] at hres
                have HRS := Lib.hid hres
                clear hlt hres

                refine wp_region_conf2 8 [Fact.eq (.pointer (some ⟨q, 0, none⟩)), Fact.eq (.pointer (some ⟨q, 0, none⟩)), Fact.eq (.pointer (some ⟨q, 257, none⟩)), Fact.eq (.pointer (some ⟨q, 259, none⟩)), Fact.eq (.slice a6 n2 c6), Fact.eq (.int .i64 (n2 : Nat)), Fact.eq (.pointer (some ⟨E, 2, none⟩)), Fact.eq (.int .i64 ec)] ?rduA (by kernel_rfl) (by kernel_rfl) ?rduhA ?rduho ?rduhend
                case rduhA =>
                  intro vv
                  simp only [putRules, Nat.reduceAdd]
                  rfl
                case rduho =>
                  refine ⟨?_, ?_, ?_, ?_, ?_, ?_, ?_, ?_, trivial⟩
                  · intro vv W K hB hd HK
                    simp only [confRules] at HK
                    clear hd
                    go_wp2
                    refine HK.out _ _ (Below.refl _ _) ?_
                    rfl
                  · intro vv W K hB hd HK
                    simp only [confRules] at hd HK
                    have h0 := hd
                    clear hd
                    simp only [h0] at HK ⊢
                    clear h0
                    go_wp2
                    refine HK.out _ _ (Below.refl _ _) ?_
                    rfl
                  · intro vv W K hB hd HK
                    simp only [confRules] at hd HK
                    have h1 := hd
                    clear hd
                    simp only [h1] at HK ⊢
                    clear h1
                    go_wp2
                    refine HK.out _ _ (Below.refl _ _) ?_
                    rfl
                  · intro vv W K hB hd HK
                    simp only [confRules] at hd HK
                    have h2 := hd
                    clear hd
                    simp only [h2] at HK ⊢
                    clear h2
                    go_wp2
                    refine HK.out _ _ (Below.refl _ _) ?_
                    rfl
                  · intro vv W K hB hd HK
                    simp only [confRules] at hd HK
                    have h3 := hd
                    clear hd
                    simp only [h3] at HK ⊢
                    clear h3
                    have c9 := HKQ6.out W hB
                    go_wp2
                    refine HK.out _ _ (Below.refl _ _) ?_
                    rfl
                  · intro vv W K hB hd HK
                    simp only [confRules] at hd HK
                    have h4 := hd
                    clear hd
                    simp only [h4] at HK ⊢
                    clear h4
                    go_wp2
                    refine HK.out _ _ (Below.refl _ _) ?_
                    rfl
                  · intro vv W K hB hd HK
                    simp only [confRules] at HK
                    clear hd
                    go_wp2
                    refine HK.out _ _ (Below.refl _ _) ?_
                    rfl
                  · intro vv W K hB hd HK
                    simp only [confRules] at hd HK
                    have h6 := hd
                    clear hd
                    simp only [h6] at HK ⊢
                    clear h6
                    have c9 := HKE6.out W hB
                    go_wp2
                    refine HK.out _ _ (Below.refl _ _) ?_
                    rfl
                case rduhend =>
                  intro vv W hB hf
                  have e5 := hf 5 (by decide)
                  have e7 := hf 7 (by decide)
                  simp only [endRules] at e5 e7
                  simp only [e5, e7, dropRules]
                  clear hf e5 e7
                  have HRF := Lib.hid (HR6.out.below hB)
                  have HBF := Lib.hid (HB6.out.trans (hB.mono HR6.out.hB.2.2.2.2.2))
                  clear hB
                  go_wp2
                  refine bodyPost_ret (results_none rfl _ _ _) rfl ?_
                  rw [HRS.out]
                  first | exact ⟨_, rfl, HRF.out, HBF.out⟩ | exact ⟨rfl, ⟨_, HRF.out⟩, HBF.out⟩
              · have u4 : decide ((n2 : Int) < ec) = false := decide_eq_false hlt
                have hres := HMR.out
                rw [if_neg hlt] at hres
                have HRS := Lib.hid hres
                clear hlt hres

                refine wp_region_conf2 8 [Fact.eq (.pointer (some ⟨q, 0, none⟩)), Fact.eq (.pointer (some ⟨q, 0, none⟩)), Fact.eq (.pointer (some ⟨q, 257, none⟩)), Fact.eq (.pointer (some ⟨q, 259, none⟩)), Fact.eq (.slice a6 n2 c6), Fact.eq (.int .i64 (n2 : Nat)), Fact.eq (.pointer (some ⟨E, 2, none⟩)), Fact.eq (.int .i64 ec)] ?rdvA (by kernel_rfl) (by kernel_rfl) ?rdvhA ?rdvho ?rdvhend
                case rdvhA =>
                  intro vv
                  simp only [putRules, Nat.reduceAdd]
                  rfl
                case rdvho =>
                  refine ⟨?_, ?_, ?_, ?_, ?_, ?_, ?_, ?_, trivial⟩
                  · intro vv W K hB hd HK
                    simp only [confRules] at HK
                    clear hd
                    go_wp2
                    refine HK.out _ _ (Below.refl _ _) ?_
                    rfl
                  · intro vv W K hB hd HK
                    simp only [confRules] at hd HK
                    have h0 := hd
                    clear hd
                    simp only [h0] at HK ⊢
                    clear h0
                    go_wp2
                    refine HK.out _ _ (Below.refl _ _) ?_
                    rfl
                  · intro vv W K hB hd HK
                    simp only [confRules] at hd HK
                    have h1 := hd
                    clear hd
                    simp only [h1] at HK ⊢
                    clear h1
                    go_wp2
                    refine HK.out _ _ (Below.refl _ _) ?_
                    rfl
                  · intro vv W K hB hd HK
                    simp only [confRules] at hd HK
                    have h2 := hd
                    clear hd
                    simp only [h2] at HK ⊢
                    clear h2
                    go_wp2
                    refine HK.out _ _ (Below.refl _ _) ?_
                    rfl
                  · intro vv W K hB hd HK
                    simp only [confRules] at hd HK
                    have h3 := hd
                    clear hd
                    simp only [h3] at HK ⊢
                    clear h3
                    have c9 := HKQ6.out W hB
                    go_wp2
                    refine HK.out _ _ (Below.refl _ _) ?_
                    rfl
                  · intro vv W K hB hd HK
                    simp only [confRules] at hd HK
                    have h4 := hd
                    clear hd
                    simp only [h4] at HK ⊢
                    clear h4
                    go_wp2
                    refine HK.out _ _ (Below.refl _ _) ?_
                    rfl
                  · intro vv W K hB hd HK
                    simp only [confRules] at HK
                    clear hd
                    go_wp2
                    refine HK.out _ _ (Below.refl _ _) ?_
                    rfl
                  · intro vv W K hB hd HK
                    simp only [confRules] at hd HK
                    have h6 := hd
                    clear hd
                    simp only [h6] at HK ⊢
                    clear h6
                    have c9 := HKE6.out W hB
                    go_wp2
                    refine HK.out _ _ (Below.refl _ _) ?_
                    rfl
                case rdvhend =>
                  intro vv W hB hf
                  have e5 := hf 5 (by decide)
                  have e7 := hf 7 (by decide)
                  simp only [endRules] at e5 e7
                  simp only [e5, e7, dropRules]
                  clear hf e5 e7
                  have HR7 := Lib.hid (HR6.out.below hB)
                  have HB7 := Lib.hid (HB6.out.trans (hB.mono HR6.out.hB.2.2.2.2.2))
                  obtain ⟨W7, hW7⟩ : ∃ W7, W = W7 := ⟨_, rfl⟩
                  have c259 := HKQ6.out W hB
                  rw [hW7] at HR7 HB7 c259 ⊢
                  clear hB hW7
                  obtain ⟨st2, hst2⟩ : ∃ s, ({ st1 with ol := ol2 } : St) = s := ⟨_, rfl⟩
                  rw [hst2] at HR7
                  have H2F : Hid (st2.first = f1 ∧ st2.ol = ol2 ∧ st2.applied = st1.applied) := Lib.hid (by rw [← hst2]; exact ⟨HNF.out.1, rfl, rfl⟩)
                  have HFINAL : Hid (({ lieAll g f1 ol2 0 st2 with first := 0, count := 0, applied := (lieAll g f1 ol2 0 st2).applied + 1, ol := [] } : St) = res) := Lib.hid (by
                    rw [HRS.out, ← hst2, lieAll_ol, (lieAll_keeps g f1 ol2 0 st1).2.2.2]
                    rfl)
                  have hB7s : B ≤ W7.heap.size := HR7.out.hB.2.2.2.2.2
                  clear hst2
                  go_wp2
                  clear c259
                  go_loopw [88] (fun u wr => ∃ k : Nat, k ≤ n2 ∧ u = .int .i64 k ∧ RolIs wr B q p le ll ce cl sb g (.slice a6 n2 c6) (Rl.lieAll g f1 (ol2.take k) 0 st2) ∧ Below B W7 wr) (fun u _ => n2 - (intOf u).toNat)
                  case atStart => exact ⟨0, Nat.zero_le _, rfl, HR7.out, Below.refl _ _⟩
                  case round =>
                    obtain ⟨k, hk, rfl, hRk, hBk⟩ := hrel
                    have HRK := Lib.hid hRk
                    have HBK := Lib.hid hBk
                    clear hRk hBk
                    by_cases hlt : k < n2
                    · obtain ⟨x, hx⟩ : ∃ x, ol2[k]? = some x := ⟨_, List.getElem?_eq_getElem (by rw [HL6.out]; exact hlt)⟩
                      obtain ⟨hqx, hbx, hEx⟩ := HOKK.out k x hx
                      rw [HNF.out.1] at hEx
                      obtain ⟨sk, hsk⟩ : ∃ s, Rl.lieAll g f1 (ol2.take k) 0 st2 = s := ⟨_, rfl⟩
                      have hkeep := lieAll_keeps g f1 (ol2.take k) 0 st2
                      rw [hsk] at hkeep HRK
                      have hskf : sk.first = f1 := hkeep.1.trans H2F.out.1
                      have hsko : sk.ol = ol2 := hkeep.2.2.1.trans H2F.out.2.1
                      have hstep : Rl.lieAll g f1 (ol2.take (k + 1)) 0 st2 = Rl.lie g sk (f1 + (k : Nat)) x := by
                        rw [List.take_add_one, hx]
                        simp only [Option.toList_some]
                        rw [lieAll_snoc, hsk, List.length_take, HL6.out, Nat.min_eq_left hk, Nat.zero_add]
                      have HSTEP := Lib.hid hstep
                      have hov := HRK.out.hv
                      rw [hsko] at hov
                      obtain ⟨a', c', he, hrow, -, -, -, -⟩ := hov.shape kinCh
                      rw [HL6.out] at he
                      cases he
                      obtain ⟨b, o, rfl, -, -, -⟩ := hrow.at hx
                      have HGX := Lib.hid (Rl2.rowOf_range hrow kinCh.size hx)
                      have HLX := Lib.hid (fun W hW => HLI.out W (Value.slice (some ⟨b, o, none⟩) n2 c6) sk hW x hqx (f1 + (k : Nat)) hbx hEx)
                      have HQX := Lib.hid hqx
                      obtain ⟨W8, hW8⟩ : ∃ W, wr.alloc (.cells (chC x) 104) = W := ⟨_, rfl⟩
                      have hb8 : Below wr.heap.size wr W8 := by rw [← hW8]; exact (Below.refl _ _).alloc (Nat.le_refl _) _
                      have hx8 : W8.heap[wr.heap.size]? = some (.cells (chC x) 104 (0, 0)) := by rw [← hW8]; exact heap_alloc_new wr _
                      have HX8 := Lib.hid hx8
                      have zX8 : wr.heap.size < W8.heap.size := (Array.getElem?_eq_some_iff.1 hx8).1
                      have HR8 := Lib.hid (HRK.out.below hb8)
                      have HB8 := Lib.hid (HBK.out.trans (hb8.mono HRK.out.hB.2.2.2.2.2))
                      have HW8 := Lib.hid hW8
                      have HSF := Lib.hid hskf
                      clear hx hqx hbx hEx hsk hkeep hskf hsko hstep hov hrow hW8 hb8 hx8
                      go_upto_region 11 with (first | (refine wpList_load_mid rfl 104 _ rfl b (o + k * 41) rfl (chC x).toList _ HGX.out Try.underlying104 rfl (HCL.out _ HQX.out) ?_) | (refine wpList_store_row rfl 104 _ _ rfl wr.heap.size (chC x) rfl rfl 104 (chC ch0) (heap_alloc_new wr _) (HCI.out _ HQX.out) (HCZ.out _ HQX.out) (HCO.out _ HQX.out) ?_; rw [World.setRow_alloc_new]))
                      rw [HW8.out, put_none]
                      obtain ⟨XB, hXB⟩ : ∃ X, wr.heap.size = X := ⟨_, rfl⟩
                      rw [hXB] at HX8 zX8 ⊢
                      clear hXB

                      refine wp_region_conf2 9 [Fact.eq (.pointer (some ⟨q, 0, none⟩)), Fact.eq (.pointer (some ⟨q, 0, none⟩)), Fact.eq (.pointer (some ⟨q, 0, none⟩)), Fact.eq (.pointer (some ⟨q, 257, none⟩)), Fact.eq (.pointer (some ⟨q, 257, none⟩)), Fact.eq (.int .i64 f1), Fact.eq (.int .i64 (k : Nat)), Fact.eq (.int .i64 (f1 + (k : Nat))), Fact.eq (.agg (chC x))] ?rdwA (by kernel_rfl) (by kernel_rfl) ?rdwhA ?rdwho ?rdwhend
                      case rdwhA =>
                        intro vv
                        simp only [putRules, Nat.reduceAdd]
                        rfl
                      case rdwho =>
                        refine ⟨?_, ?_, ?_, ?_, ?_, ?_, ?_, ?_, ?_, trivial⟩
                        · intro vv W K hB hd HK
                          simp only [confRules] at HK
                          clear hd
                          go_wp2
                          refine HK.out _ _ (Below.refl _ _) ?_
                          rfl
                        · intro vv W K hB hd HK
                          simp only [confRules] at HK
                          clear hd
                          go_wp2
                          refine HK.out _ _ (Below.refl _ _) ?_
                          rfl
                        · intro vv W K hB hd HK
                          simp only [confRules] at hd HK
                          have h1 := hd
                          clear hd
                          simp only [h1] at HK ⊢
                          clear h1
                          go_wp2
                          refine HK.out _ _ (Below.refl _ _) ?_
                          rfl
                        · intro vv W K hB hd HK
                          simp only [confRules] at hd HK
                          have h2 := hd
                          clear hd
                          simp only [h2] at HK ⊢
                          clear h2
                          go_wp2
                          refine HK.out _ _ (Below.refl _ _) ?_
                          rfl
                        · intro vv W K hB hd HK
                          simp only [confRules] at hd HK
                          have h3 := hd
                          clear hd
                          simp only [h3] at HK ⊢
                          clear h3
                          go_wp2
                          refine HK.out _ _ (Below.refl _ _) ?_
                          rfl
                        · intro vv W K hB hd HK
                          simp only [confRules] at hd HK
                          have h4 := hd
                          clear hd
                          simp only [h4] at HK ⊢
                          clear h4
                          obtain ⟨-, c9, -, -, -, -⟩ := (HR8.out.below hB).own
                          rw [HSF.out] at c9
                          go_wp2
                          refine HK.out _ _ (Below.refl _ _) ?_
                          rfl
                        · intro vv W K hB hd HK
                          simp only [confRules] at HK
                          clear hd
                          go_wp2
                          refine HK.out _ _ (Below.refl _ _) ?_
                          rfl
                        · intro vv W K hB hd HK
                          simp only [confRules] at hd HK
                          obtain ⟨h5, h6⟩ := hd
                          simp only [h5, h6] at HK ⊢
                          clear h5 h6
                          go_wp2
                          refine HK.out _ _ (Below.refl _ _) ?_
                          rfl
                        · intro vv W K hB hd HK
                          simp only [confRules] at HK
                          clear hd
                          have c9 := (hB.block XB zX8).trans HX8.out
                          refine wpList_load_row rfl 104 _ rfl XB rfl 104 _ _ _ c9 Try.underlying104 rfl (HCI.out _ HQX.out) ?_
                          refine HK.out _ _ (Below.refl _ _) ?_
                          rfl
                      case rdwhend =>
                        intro vv W hB hf
                        have e0 := hf 0 (by decide)
                        have e7 := hf 7 (by decide)
                        have e8 := hf 8 (by decide)
                        simp only [endRules] at e0 e7 e8
                        simp only [e0, e7, e8, dropRules]
                        clear hf e0 e7 e8
                        have HSX := Lib.hid (HLX.out W (HR8.out.below hB))
                        have HBX := Lib.hid (HB8.out.trans (hB.mono HR8.out.hB.2.2.2.2.2))
                        clear hB
                        go_wp2_with fail
                        refine HSX.out.mono ?_
                        rintro e9 w9 ⟨rfl, hR9, hB9⟩
                        rw [← HSTEP.out] at hR9
                        have HR9 := Lib.hid hR9
                        have HB9 := Lib.hid (HBX.out.trans hB9)
                        clear hR9 hB9
                        go_wp2
                        first | exact ⟨⟨k + 1, by omega, by go_num, HR9.out, HB9.out⟩, by simp [intOf]; omega⟩ | (go_roundw; exact ⟨k + 1, by omega, by go_num, HR9.out, HB9.out⟩; simp [intOf]; omega)
                    · obtain rfl : k = n2 := by omega
                      have hRk := HRK.out
                      rw [List.take_of_length_le (by rw [HL6.out]; exact Nat.le_refl _)] at hRk
                      have HTH9 := Lib.hid hRk.there
                      have hR10 := hRk.group 0 0 (.slice none 0 0) [] (OwnM.nil _ _ _ _ _ _)
                      obtain ⟨W10, hW10⟩ : ∃ W, wr.setCells q 257 [.int .i64 0, .int .i64 0, .slice none 0 0] = W := ⟨_, rfl⟩
                      have hO10 : Only [q] wr W10 := by rw [← hW10]; exact Only.of_setCells q _ _ _
                      rw [hW10] at hR10
                      obtain ⟨ap, hap9⟩ : ∃ a, (lieAll g f1 ol2 0 st2).applied = a := ⟨_, rfl⟩
                      have hapb : -1000000 ≤ ap ∧ ap ≤ 1000000 := by rw [← hap9, (lieAll_keeps g f1 ol2 0 st2).2.2.2, H2F.out.2.2, HAP.out]; exact hap
                      have hR11 := hR10.count (ap + 1)
                      obtain ⟨-, -, -, -, -, a10⟩ := hR10.own
                      have f10 : W10.frozen? ⟨q, 261, none⟩ = false := frozen_of_row _ _ _ _ _ hR10.hq
                      simp only [hap9] at a10
                      obtain ⟨W11, hW11⟩ : ∃ W, W10.setCell ⟨q, 261, none⟩ (.int .i64 (ap + 1)) = W := ⟨_, rfl⟩
                      have hO11 : Only [q] wr W11 := by rw [← hW11]; exact hO10.setCell (.inl (by simp)) _
                      rw [hW11] at hR11
                      have HB11 := Lib.hid ((HB7.out.trans HBK.out).trans (hO11.below (by have := hRk.hB; simp; omega) hRk.hB.2.2.2.2.2))
                      have HFR : Hid (RolIs W11 B q p le ll ce cl sb g (.slice none 0 0) res) := Lib.hid (by rw [← HFINAL.out, hap9]; exact hR11)
                      have HW10 := Lib.hid hW10
                      have HW11 := Lib.hid hW11
                      clear hRk hR10 hO10 hR11 hO11 hW10 hW11 hap9
                      go_upto_region 14 with (first | (refine wpList_build_on (by rfl) 97 _ rfl #[] (by simp) _ HBG.out ?_) | (refine wpList_store_mid rfl 97 _ _ rfl q 257 #[.int .i64 0, .int .i64 0, .slice none 0 0] rfl rfl HTH9.out (HIG.out _ _) (by simp [Value.oneCell']) ?_))
                      rw [HW10.out, put_none]
                      go_wp2
                      rw [HW11.out]
                      refine bodyPost_end (results_none rfl _ _ _) rfl ?_
                      first | exact ⟨_, rfl, HFR.out, HB11.out⟩ | exact ⟨rfl, ⟨_, HFR.out⟩, HB11.out⟩
        · have hgo : goesOn st1 seq c.r.e = false := by rw [hgoes]; simp [h3]
          have u1 : (ef != f1) = false := by simp [h1]
          have u2 : (ec != c1) = false := by simp [h2]
          have u3 : (seq != f1 + (n1 : Nat)) = true := by simp [h3]
          clear hgoes h1 h2 h3 t1
          refine wp_region_conf2 33 [Fact.eq (.pointer (some ⟨E, 1, none⟩)), Fact.eq (.int .i64 ef), Fact.eq (.pointer (some ⟨q, 0, none⟩)), Fact.eq (.pointer (some ⟨q, 0, none⟩)), Fact.eq (.pointer (some ⟨q, 257, none⟩)), Fact.eq (.pointer (some ⟨q, 257, none⟩)), Fact.eq (.int .i64 f1), Fact.eq (.bool false), Fact.eq (.bool false), Fact.eq (.pointer (some ⟨E, 2, none⟩)), Fact.eq (.int .i64 ec), Fact.eq (.pointer (some ⟨q, 0, none⟩)), Fact.eq (.pointer (some ⟨q, 0, none⟩)), Fact.eq (.pointer (some ⟨q, 257, none⟩)), Fact.eq (.pointer (some ⟨q, 258, none⟩)), Fact.eq (.int .i64 c1), Fact.eq (.bool false), Fact.eq (.bool false), Fact.eq (.bool false), Fact.eq (.int .i64 seq), Fact.eq (.pointer (some ⟨q, 0, none⟩)), Fact.eq (.pointer (some ⟨q, 0, none⟩)), Fact.eq (.pointer (some ⟨q, 257, none⟩)), Fact.eq (.pointer (some ⟨q, 257, none⟩)), Fact.eq (.int .i64 f1), Fact.eq (.pointer (some ⟨q, 0, none⟩)), Fact.eq (.pointer (some ⟨q, 0, none⟩)), Fact.eq (.pointer (some ⟨q, 257, none⟩)), Fact.eq (.pointer (some ⟨q, 259, none⟩)), Fact.eq (.slice a1 n1 cap1), Fact.eq (.int .i64 (n1 : Nat)), Fact.eq (.int .i64 (f1 + (n1 : Nat))), Fact.eq (.bool true)] ?rcA (by kernel_rfl) (by kernel_rfl) ?rchA ?rcho ?rchend
          case rchA =>
            intro vv
            simp only [putRules, Nat.reduceAdd]
            rfl
          case rcho =>
            refine ⟨?_, ?_, ?_, ?_, ?_, ?_, ?_, ?_, ?_, ?_, ?_, ?_, ?_, ?_, ?_, ?_, ?_, ?_, ?_, ?_, ?_, ?_, ?_, ?_, ?_, ?_, ?_, ?_, ?_, ?_, ?_, ?_, ?_, trivial⟩
            · intro vv W K hB hd HK
              simp only [confRules] at HK
              clear hd
              go_wp2
              refine HK.out _ _ (Below.refl _ _) ?_
              rfl
            · intro vv W K hB hd HK
              simp only [confRules] at hd HK
              have h0 := hd
              clear hd
              simp only [h0] at HK ⊢
              clear h0
              obtain ⟨c9, -⟩ := HKE.out W hB
              go_wp2
              refine HK.out _ _ (Below.refl _ _) ?_
              rfl
            · intro vv W K hB hd HK
              simp only [confRules] at HK
              clear hd
              go_wp2
              refine HK.out _ _ (Below.refl _ _) ?_
              rfl
            · intro vv W K hB hd HK
              simp only [confRules] at hd HK
              have h2 := hd
              clear hd
              simp only [h2] at HK ⊢
              clear h2
              go_wp2
              refine HK.out _ _ (Below.refl _ _) ?_
              rfl
            · intro vv W K hB hd HK
              simp only [confRules] at hd HK
              have h3 := hd
              clear hd
              simp only [h3] at HK ⊢
              clear h3
              go_wp2
              refine HK.out _ _ (Below.refl _ _) ?_
              rfl
            · intro vv W K hB hd HK
              simp only [confRules] at hd HK
              have h4 := hd
              clear hd
              simp only [h4] at HK ⊢
              clear h4
              go_wp2
              refine HK.out _ _ (Below.refl _ _) ?_
              rfl
            · intro vv W K hB hd HK
              simp only [confRules] at hd HK
              have h5 := hd
              clear hd
              simp only [h5] at HK ⊢
              clear h5
              obtain ⟨c9, -, -⟩ := HKQ.out W hB
              go_wp2
              refine HK.out _ _ (Below.refl _ _) ?_
              rfl
            · intro vv W K hB hd HK
              simp only [confRules] at hd HK
              obtain ⟨h1, h6⟩ := hd
              simp only [h1, h6] at HK ⊢
              clear h1 h6
              go_wp2
              refine HK.out _ _ (Below.refl _ _) ?_
              rfl
            · intro vv W K hB hd HK
              simp only [confRules] at hd HK
              have h7 := hd
              clear hd
              simp only [h7] at HK ⊢
              clear h7
              go_wp2
              refine HK.out _ _ (Below.refl _ _) ?_
              rfl
            · intro vv W K hB hd HK
              simp only [confRules] at hd HK
              have h8 := hd
              clear hd
              simp only [h8] at HK ⊢
              clear h8
              refine wpList_guard_yes (by rfl) ?_
              go_wp2
              refine HK.out _ _ (Below.refl _ _) ?_
              rfl
            · intro vv W K hB hd HK
              simp only [confRules] at hd HK
              obtain ⟨h9, h8⟩ := hd
              simp only [h9, h8] at HK ⊢
              clear h9 h8
              refine wpList_guard_yes (by rfl) ?_
              obtain ⟨-, c9⟩ := HKE.out W hB
              go_wp2
              refine HK.out _ _ (Below.refl _ _) ?_
              rfl
            · intro vv W K hB hd HK
              simp only [confRules] at hd HK
              have h8 := hd
              clear hd
              simp only [h8] at HK ⊢
              clear h8
              refine wpList_guard_yes (by rfl) ?_
              go_wp2
              refine HK.out _ _ (Below.refl _ _) ?_
              rfl
            · intro vv W K hB hd HK
              simp only [confRules] at hd HK
              obtain ⟨h11, h8⟩ := hd
              simp only [h11, h8] at HK ⊢
              clear h11 h8
              refine wpList_guard_yes (by rfl) ?_
              go_wp2
              refine HK.out _ _ (Below.refl _ _) ?_
              rfl
            · intro vv W K hB hd HK
              simp only [confRules] at hd HK
              obtain ⟨h12, h8⟩ := hd
              simp only [h12, h8] at HK ⊢
              clear h12 h8
              refine wpList_guard_yes (by rfl) ?_
              go_wp2
              refine HK.out _ _ (Below.refl _ _) ?_
              rfl
            · intro vv W K hB hd HK
              simp only [confRules] at hd HK
              obtain ⟨h13, h8⟩ := hd
              simp only [h13, h8] at HK ⊢
              clear h13 h8
              refine wpList_guard_yes (by rfl) ?_
              go_wp2
              refine HK.out _ _ (Below.refl _ _) ?_
              rfl
            · intro vv W K hB hd HK
              simp only [confRules] at hd HK
              obtain ⟨h14, h8⟩ := hd
              simp only [h14, h8] at HK ⊢
              clear h14 h8
              refine wpList_guard_yes (by rfl) ?_
              obtain ⟨-, c9, -⟩ := HKQ.out W hB
              go_wp2
              refine HK.out _ _ (Below.refl _ _) ?_
              rfl
            · intro vv W K hB hd HK
              simp only [confRules] at hd HK
              obtain ⟨h10, h15, h8⟩ := hd
              simp only [h10, h15, h8] at HK ⊢
              clear h10 h15 h8
              refine wpList_guard_yes (by rfl) ?_
              go_wp2
              refine HK.out _ _ (Below.refl _ _) ?_
              rfl
            · intro vv W K hB hd HK
              simp only [confRules] at hd HK
              obtain ⟨h8, h16⟩ := hd
              simp only [h8, h16] at HK ⊢
              clear h8 h16
              go_wp2
              refine HK.out _ _ (Below.refl _ _) ?_
              rfl
            · intro vv W K hB hd HK
              simp only [confRules] at hd HK
              obtain ⟨h17, h8⟩ := hd
              simp only [h17, h8] at HK ⊢
              clear h17 h8
              go_wp2
              refine HK.out _ _ (Below.refl _ _) ?_
              rfl
            · intro vv W K hB hd HK
              simp only [confRules] at hd HK
              have h18 := hd
              clear hd
              simp only [h18] at HK ⊢
              clear h18
              refine wpList_guard_yes (by rfl) ?_
              go_wp2
              refine HK.out _ _ (Below.refl _ _) ?_
              rfl
            · intro vv W K hB hd HK
              simp only [confRules] at hd HK
              have h18 := hd
              clear hd
              simp only [h18] at HK ⊢
              clear h18
              refine wpList_guard_yes (by rfl) ?_
              go_wp2
              refine HK.out _ _ (Below.refl _ _) ?_
              rfl
            · intro vv W K hB hd HK
              simp only [confRules] at hd HK
              obtain ⟨h20, h18⟩ := hd
              simp only [h20, h18] at HK ⊢
              clear h20 h18
              refine wpList_guard_yes (by rfl) ?_
              go_wp2
              refine HK.out _ _ (Below.refl _ _) ?_
              rfl
            · intro vv W K hB hd HK
              simp only [confRules] at hd HK
              obtain ⟨h21, h18⟩ := hd
              simp only [h21, h18] at HK ⊢
              clear h21 h18
              refine wpList_guard_yes (by rfl) ?_
              go_wp2
              refine HK.out _ _ (Below.refl _ _) ?_
              rfl
            · intro vv W K hB hd HK
              simp only [confRules] at hd HK
              obtain ⟨h22, h18⟩ := hd
              simp only [h22, h18] at HK ⊢
              clear h22 h18
              refine wpList_guard_yes (by rfl) ?_
              go_wp2
              refine HK.out _ _ (Below.refl _ _) ?_
              rfl
            · intro vv W K hB hd HK
              simp only [confRules] at hd HK
              obtain ⟨h23, h18⟩ := hd
              simp only [h23, h18] at HK ⊢
              clear h23 h18
              refine wpList_guard_yes (by rfl) ?_
              obtain ⟨c9, -, -⟩ := HKQ.out W hB
              go_wp2
              refine HK.out _ _ (Below.refl _ _) ?_
              rfl
            · intro vv W K hB hd HK
              simp only [confRules] at hd HK
              have h18 := hd
              clear hd
              simp only [h18] at HK ⊢
              clear h18
              refine wpList_guard_yes (by rfl) ?_
              go_wp2
              refine HK.out _ _ (Below.refl _ _) ?_
              rfl
            · intro vv W K hB hd HK
              simp only [confRules] at hd HK
              obtain ⟨h25, h18⟩ := hd
              simp only [h25, h18] at HK ⊢
              clear h25 h18
              refine wpList_guard_yes (by rfl) ?_
              go_wp2
              refine HK.out _ _ (Below.refl _ _) ?_
              rfl
            · intro vv W K hB hd HK
              simp only [confRules] at hd HK
              obtain ⟨h26, h18⟩ := hd
              simp only [h26, h18] at HK ⊢
              clear h26 h18
              refine wpList_guard_yes (by rfl) ?_
              go_wp2
              refine HK.out _ _ (Below.refl _ _) ?_
              rfl
            · intro vv W K hB hd HK
              simp only [confRules] at hd HK
              obtain ⟨h27, h18⟩ := hd
              simp only [h27, h18] at HK ⊢
              clear h27 h18
              refine wpList_guard_yes (by rfl) ?_
              go_wp2
              refine HK.out _ _ (Below.refl _ _) ?_
              rfl
            · intro vv W K hB hd HK
              simp only [confRules] at hd HK
              obtain ⟨h28, h18⟩ := hd
              simp only [h28, h18] at HK ⊢
              clear h28 h18
              refine wpList_guard_yes (by rfl) ?_
              obtain ⟨-, -, c9⟩ := HKQ.out W hB
              go_wp2
              refine HK.out _ _ (Below.refl _ _) ?_
              rfl
            · intro vv W K hB hd HK
              simp only [confRules] at hd HK
              obtain ⟨h29, h18⟩ := hd
              simp only [h29, h18] at HK ⊢
              clear h29 h18
              refine wpList_guard_yes (by rfl) ?_
              go_wp2
              refine HK.out _ _ (Below.refl _ _) ?_
              rfl
            · intro vv W K hB hd HK
              simp only [confRules] at hd HK
              obtain ⟨h24, h30, h18⟩ := hd
              simp only [h24, h30, h18] at HK ⊢
              clear h24 h30 h18
              refine wpList_guard_yes (by rfl) ?_
              go_wp2
              refine HK.out _ _ (Below.refl _ _) ?_
              rfl
            · intro vv W K hB hd HK
              simp only [confRules] at hd HK
              obtain ⟨h19, h31, h18⟩ := hd
              simp only [h19, h31, h18] at HK ⊢
              clear h19 h31 h18
              refine wpList_guard_yes (by rfl) ?_
              go_wp2
              refine HK.out _ _ (Below.refl _ _) ?_
              rfl
          case rchend =>
            intro vv W hB hf
            have e18 := hf 18 (by decide)
            have e32 := hf 32 (by decide)
            simp only [endRules] at e18 e32
            simp only [e18, e32, dropRules]
            clear hf e18 e32
            have hWR := HR3.out.below hB
            have HTHW := Lib.hid hWR.there
            have hWG := hWR.group 0 0 (.slice none 0 0) [] (OwnM.nil _ _ _ _ _ _)
            obtain ⟨W5, hW5⟩ : ∃ W5, W.setCells q 257 [.int .i64 0, .int .i64 0, .slice none 0 0] = W5 := ⟨_, rfl⟩
            have hO5 : Only [q] W W5 := by rw [← hW5]; exact Only.of_setCells q _ _ _
            rw [hW5] at hWG
            have HWG := Lib.hid hWG
            have HB5 := Lib.hid ((HB3.out.trans (hB.mono hB3s)).trans (hO5.below (by have := hWR.hB; simp; omega) hWR.hB.2.2.2.2.2))
            have HW5 := Lib.hid hW5
            clear hWR hWG hW5 hO5 hB
            go_upto_region 5 with (fail)
            go_wp2_with (first | (refine wpList_build_on (by rfl) 97 _ rfl #[] (by simp) _ HBG.out ?_) | (refine wpList_store_mid rfl 97 _ _ rfl q 257 #[.int .i64 0, .int .i64 0, .slice none 0 0] rfl rfl HTHW.out (HIG.out _ _) (by simp [Value.oneCell']) ?_))
            rw [HW5.out]
            refine bodyPost_ret (results_none rfl _ _ _) rfl ?_
            rw [HSHUT.out hgo]
            first | exact ⟨_, rfl, HWG.out, HB5.out⟩ | exact ⟨rfl, ⟨_, HWG.out⟩, HB5.out⟩
      · have hgo : goesOn st1 seq c.r.e = false := by rw [hgoes]; simp [h2]
        have u1 : (ef != f1) = false := by simp [h1]
        have u2 : (ec != c1) = true := by simp [h2]
        clear hgoes h1 h2 t1
        refine wp_region_conf2 33 [Fact.eq (.pointer (some ⟨E, 1, none⟩)), Fact.eq (.int .i64 ef), Fact.eq (.pointer (some ⟨q, 0, none⟩)), Fact.eq (.pointer (some ⟨q, 0, none⟩)), Fact.eq (.pointer (some ⟨q, 257, none⟩)), Fact.eq (.pointer (some ⟨q, 257, none⟩)), Fact.eq (.int .i64 f1), Fact.eq (.bool false), Fact.eq (.bool false), Fact.eq (.pointer (some ⟨E, 2, none⟩)), Fact.eq (.int .i64 ec), Fact.eq (.pointer (some ⟨q, 0, none⟩)), Fact.eq (.pointer (some ⟨q, 0, none⟩)), Fact.eq (.pointer (some ⟨q, 257, none⟩)), Fact.eq (.pointer (some ⟨q, 258, none⟩)), Fact.eq (.int .i64 c1), Fact.eq (.bool true), Fact.eq (.bool true), Fact.eq (.bool true), Fact.eq undef, Fact.eq undef, Fact.eq undef, Fact.eq undef, Fact.eq undef, Fact.eq undef, Fact.eq undef, Fact.eq undef, Fact.eq undef, Fact.eq undef, Fact.eq undef, Fact.eq undef, Fact.eq undef, Fact.eq undef] ?rbA (by kernel_rfl) (by kernel_rfl) ?rbhA ?rbho ?rbhend
        case rbhA =>
          intro vv
          simp only [putRules, Nat.reduceAdd]
          rfl
        case rbho =>
          refine ⟨?_, ?_, ?_, ?_, ?_, ?_, ?_, ?_, ?_, ?_, ?_, ?_, ?_, ?_, ?_, ?_, ?_, ?_, ?_, ?_, ?_, ?_, ?_, ?_, ?_, ?_, ?_, ?_, ?_, ?_, ?_, ?_, ?_, trivial⟩
          · intro vv W K hB hd HK
            simp only [confRules] at HK
            clear hd
            go_wp2
            refine HK.out _ _ (Below.refl _ _) ?_
            rfl
          · intro vv W K hB hd HK
            simp only [confRules] at hd HK
            have h0 := hd
            clear hd
            simp only [h0] at HK ⊢
            clear h0
            obtain ⟨c9, -⟩ := HKE.out W hB
            go_wp2
            refine HK.out _ _ (Below.refl _ _) ?_
            rfl
          · intro vv W K hB hd HK
            simp only [confRules] at HK
            clear hd
            go_wp2
            refine HK.out _ _ (Below.refl _ _) ?_
            rfl
          · intro vv W K hB hd HK
            simp only [confRules] at hd HK
            have h2 := hd
            clear hd
            simp only [h2] at HK ⊢
            clear h2
            go_wp2
            refine HK.out _ _ (Below.refl _ _) ?_
            rfl
          · intro vv W K hB hd HK
            simp only [confRules] at hd HK
            have h3 := hd
            clear hd
            simp only [h3] at HK ⊢
            clear h3
            go_wp2
            refine HK.out _ _ (Below.refl _ _) ?_
            rfl
          · intro vv W K hB hd HK
            simp only [confRules] at hd HK
            have h4 := hd
            clear hd
            simp only [h4] at HK ⊢
            clear h4
            go_wp2
            refine HK.out _ _ (Below.refl _ _) ?_
            rfl
          · intro vv W K hB hd HK
            simp only [confRules] at hd HK
            have h5 := hd
            clear hd
            simp only [h5] at HK ⊢
            clear h5
            obtain ⟨c9, -, -⟩ := HKQ.out W hB
            go_wp2
            refine HK.out _ _ (Below.refl _ _) ?_
            rfl
          · intro vv W K hB hd HK
            simp only [confRules] at hd HK
            obtain ⟨h1, h6⟩ := hd
            simp only [h1, h6] at HK ⊢
            clear h1 h6
            go_wp2
            refine HK.out _ _ (Below.refl _ _) ?_
            rfl
          · intro vv W K hB hd HK
            simp only [confRules] at hd HK
            have h7 := hd
            clear hd
            simp only [h7] at HK ⊢
            clear h7
            go_wp2
            refine HK.out _ _ (Below.refl _ _) ?_
            rfl
          · intro vv W K hB hd HK
            simp only [confRules] at hd HK
            have h8 := hd
            clear hd
            simp only [h8] at HK ⊢
            clear h8
            refine wpList_guard_yes (by rfl) ?_
            go_wp2
            refine HK.out _ _ (Below.refl _ _) ?_
            rfl
          · intro vv W K hB hd HK
            simp only [confRules] at hd HK
            obtain ⟨h9, h8⟩ := hd
            simp only [h9, h8] at HK ⊢
            clear h9 h8
            refine wpList_guard_yes (by rfl) ?_
            obtain ⟨-, c9⟩ := HKE.out W hB
            go_wp2
            refine HK.out _ _ (Below.refl _ _) ?_
            rfl
          · intro vv W K hB hd HK
            simp only [confRules] at hd HK
            have h8 := hd
            clear hd
            simp only [h8] at HK ⊢
            clear h8
            refine wpList_guard_yes (by rfl) ?_
            go_wp2
            refine HK.out _ _ (Below.refl _ _) ?_
            rfl
          · intro vv W K hB hd HK
            simp only [confRules] at hd HK
            obtain ⟨h11, h8⟩ := hd
            simp only [h11, h8] at HK ⊢
            clear h11 h8
            refine wpList_guard_yes (by rfl) ?_
            go_wp2
            refine HK.out _ _ (Below.refl _ _) ?_
            rfl
          · intro vv W K hB hd HK
            simp only [confRules] at hd HK
            obtain ⟨h12, h8⟩ := hd
            simp only [h12, h8] at HK ⊢
            clear h12 h8
            refine wpList_guard_yes (by rfl) ?_
            go_wp2
            refine HK.out _ _ (Below.refl _ _) ?_
            rfl
          · intro vv W K hB hd HK
            simp only [confRules] at hd HK
            obtain ⟨h13, h8⟩ := hd
            simp only [h13, h8] at HK ⊢
            clear h13 h8
            refine wpList_guard_yes (by rfl) ?_
            go_wp2
            refine HK.out _ _ (Below.refl _ _) ?_
            rfl
          · intro vv W K hB hd HK
            simp only [confRules] at hd HK
            obtain ⟨h14, h8⟩ := hd
            simp only [h14, h8] at HK ⊢
            clear h14 h8
            refine wpList_guard_yes (by rfl) ?_
            obtain ⟨-, c9, -⟩ := HKQ.out W hB
            go_wp2
            refine HK.out _ _ (Below.refl _ _) ?_
            rfl
          · intro vv W K hB hd HK
            simp only [confRules] at hd HK
            obtain ⟨h10, h15, h8⟩ := hd
            simp only [h10, h15, h8] at HK ⊢
            clear h10 h15 h8
            refine wpList_guard_yes (by rfl) ?_
            go_wp2
            refine HK.out _ _ (Below.refl _ _) ?_
            rfl
          · intro vv W K hB hd HK
            simp only [confRules] at hd HK
            obtain ⟨h8, h16⟩ := hd
            simp only [h8, h16] at HK ⊢
            clear h8 h16
            go_wp2
            refine HK.out _ _ (Below.refl _ _) ?_
            rfl
          · intro vv W K hB hd HK
            simp only [confRules] at hd HK
            obtain ⟨h17, h8⟩ := hd
            simp only [h17, h8] at HK ⊢
            clear h17 h8
            go_wp2
            refine HK.out _ _ (Below.refl _ _) ?_
            rfl
          · intro vv W K hB hd HK
            simp only [confRules] at hd HK
            have h18 := hd
            clear hd
            simp only [h18] at HK ⊢
            clear h18
            refine wpList_guard_no (by rfl) ?_
            refine HK.out _ _ (Below.refl _ _) ?_
            rfl
          · intro vv W K hB hd HK
            simp only [confRules] at hd HK
            have h18 := hd
            clear hd
            simp only [h18] at HK ⊢
            clear h18
            refine wpList_guard_no (by rfl) ?_
            refine HK.out _ _ (Below.refl _ _) ?_
            rfl
          · intro vv W K hB hd HK
            simp only [confRules] at hd HK
            obtain ⟨h20, h18⟩ := hd
            simp only [h20, h18] at HK ⊢
            clear h20 h18
            refine wpList_guard_no (by rfl) ?_
            refine HK.out _ _ (Below.refl _ _) ?_
            rfl
          · intro vv W K hB hd HK
            simp only [confRules] at hd HK
            obtain ⟨h21, h18⟩ := hd
            simp only [h21, h18] at HK ⊢
            clear h21 h18
            refine wpList_guard_no (by rfl) ?_
            refine HK.out _ _ (Below.refl _ _) ?_
            rfl
          · intro vv W K hB hd HK
            simp only [confRules] at hd HK
            obtain ⟨h22, h18⟩ := hd
            simp only [h22, h18] at HK ⊢
            clear h22 h18
            refine wpList_guard_no (by rfl) ?_
            refine HK.out _ _ (Below.refl _ _) ?_
            rfl
          · intro vv W K hB hd HK
            simp only [confRules] at hd HK
            obtain ⟨h23, h18⟩ := hd
            simp only [h23, h18] at HK ⊢
            clear h23 h18
            refine wpList_guard_no (by rfl) ?_
            refine HK.out _ _ (Below.refl _ _) ?_
            rfl
          · intro vv W K hB hd HK
            simp only [confRules] at hd HK
            have h18 := hd
            clear hd
            simp only [h18] at HK ⊢
            clear h18
            refine wpList_guard_no (by rfl) ?_
            refine HK.out _ _ (Below.refl _ _) ?_
            rfl
          · intro vv W K hB hd HK
            simp only [confRules] at hd HK
            obtain ⟨h25, h18⟩ := hd
            simp only [h25, h18] at HK ⊢
            clear h25 h18
            refine wpList_guard_no (by rfl) ?_
            refine HK.out _ _ (Below.refl _ _) ?_
            rfl
          · intro vv W K hB hd HK
            simp only [confRules] at hd HK
            obtain ⟨h26, h18⟩ := hd
            simp only [h26, h18] at HK ⊢
            clear h26 h18
            refine wpList_guard_no (by rfl) ?_
            refine HK.out _ _ (Below.refl _ _) ?_
            rfl
          · intro vv W K hB hd HK
            simp only [confRules] at hd HK
            obtain ⟨h27, h18⟩ := hd
            simp only [h27, h18] at HK ⊢
            clear h27 h18
            refine wpList_guard_no (by rfl) ?_
            refine HK.out _ _ (Below.refl _ _) ?_
            rfl
          · intro vv W K hB hd HK
            simp only [confRules] at hd HK
            obtain ⟨h28, h18⟩ := hd
            simp only [h28, h18] at HK ⊢
            clear h28 h18
            refine wpList_guard_no (by rfl) ?_
            refine HK.out _ _ (Below.refl _ _) ?_
            rfl
          · intro vv W K hB hd HK
            simp only [confRules] at hd HK
            obtain ⟨h29, h18⟩ := hd
            simp only [h29, h18] at HK ⊢
            clear h29 h18
            refine wpList_guard_no (by rfl) ?_
            refine HK.out _ _ (Below.refl _ _) ?_
            rfl
          · intro vv W K hB hd HK
            simp only [confRules] at hd HK
            obtain ⟨h24, h30, h18⟩ := hd
            simp only [h24, h30, h18] at HK ⊢
            clear h24 h30 h18
            refine wpList_guard_no (by rfl) ?_
            refine HK.out _ _ (Below.refl _ _) ?_
            rfl
          · intro vv W K hB hd HK
            simp only [confRules] at hd HK
            obtain ⟨h19, h31, h18⟩ := hd
            simp only [h19, h31, h18] at HK ⊢
            clear h19 h31 h18
            refine wpList_guard_no (by rfl) ?_
            refine HK.out _ _ (Below.refl _ _) ?_
            rfl
        case rbhend =>
          intro vv W hB hf
          have e18 := hf 18 (by decide)
          have e32 := hf 32 (by decide)
          simp only [endRules] at e18 e32
          simp only [e18, e32, dropRules]
          clear hf e18 e32
          have hWR := HR3.out.below hB
          have HTHW := Lib.hid hWR.there
          have hWG := hWR.group 0 0 (.slice none 0 0) [] (OwnM.nil _ _ _ _ _ _)
          obtain ⟨W5, hW5⟩ : ∃ W5, W.setCells q 257 [.int .i64 0, .int .i64 0, .slice none 0 0] = W5 := ⟨_, rfl⟩
          have hO5 : Only [q] W W5 := by rw [← hW5]; exact Only.of_setCells q _ _ _
          rw [hW5] at hWG
          have HWG := Lib.hid hWG
          have HB5 := Lib.hid ((HB3.out.trans (hB.mono hB3s)).trans (hO5.below (by have := hWR.hB; simp; omega) hWR.hB.2.2.2.2.2))
          have HW5 := Lib.hid hW5
          clear hWR hWG hW5 hO5 hB
          go_upto_region 5 with (fail)
          go_wp2_with (first | (refine wpList_build_on (by rfl) 97 _ rfl #[] (by simp) _ HBG.out ?_) | (refine wpList_store_mid rfl 97 _ _ rfl q 257 #[.int .i64 0, .int .i64 0, .slice none 0 0] rfl rfl HTHW.out (HIG.out _ _) (by simp [Value.oneCell']) ?_))
          rw [HW5.out]
          refine bodyPost_ret (results_none rfl _ _ _) rfl ?_
          rw [HSHUT.out hgo]
          first | exact ⟨_, rfl, HWG.out, HB5.out⟩ | exact ⟨rfl, ⟨_, HWG.out⟩, HB5.out⟩
    · have hgo : goesOn st1 seq c.r.e = false := by rw [hgoes]; simp [h1]
      have u1 : (ef != f1) = true := by simp [h1]
      clear hgoes h1 t1
      refine wp_region_conf2 33 [Fact.eq (.pointer (some ⟨E, 1, none⟩)), Fact.eq (.int .i64 ef), Fact.eq (.pointer (some ⟨q, 0, none⟩)), Fact.eq (.pointer (some ⟨q, 0, none⟩)), Fact.eq (.pointer (some ⟨q, 257, none⟩)), Fact.eq (.pointer (some ⟨q, 257, none⟩)), Fact.eq (.int .i64 f1), Fact.eq (.bool true), Fact.eq (.bool true), Fact.eq undef, Fact.eq undef, Fact.eq undef, Fact.eq undef, Fact.eq undef, Fact.eq undef, Fact.eq undef, Fact.eq undef, Fact.eq (.bool true), Fact.eq (.bool true), Fact.eq undef, Fact.eq undef, Fact.eq undef, Fact.eq undef, Fact.eq undef, Fact.eq undef, Fact.eq undef, Fact.eq undef, Fact.eq undef, Fact.eq undef, Fact.eq undef, Fact.eq undef, Fact.eq undef, Fact.eq undef] ?raA (by kernel_rfl) (by kernel_rfl) ?rahA ?raho ?rahend
      case rahA =>
        intro vv
        simp only [putRules, Nat.reduceAdd]
        rfl
      case raho =>
        refine ⟨?_, ?_, ?_, ?_, ?_, ?_, ?_, ?_, ?_, ?_, ?_, ?_, ?_, ?_, ?_, ?_, ?_, ?_, ?_, ?_, ?_, ?_, ?_, ?_, ?_, ?_, ?_, ?_, ?_, ?_, ?_, ?_, ?_, trivial⟩
        · intro vv W K hB hd HK
          simp only [confRules] at HK
          clear hd
          go_wp2
          refine HK.out _ _ (Below.refl _ _) ?_
          rfl
        · intro vv W K hB hd HK
          simp only [confRules] at hd HK
          have h0 := hd
          clear hd
          simp only [h0] at HK ⊢
          clear h0
          obtain ⟨c9, -⟩ := HKE.out W hB
          go_wp2
          refine HK.out _ _ (Below.refl _ _) ?_
          rfl
        · intro vv W K hB hd HK
          simp only [confRules] at HK
          clear hd
          go_wp2
          refine HK.out _ _ (Below.refl _ _) ?_
          rfl
        · intro vv W K hB hd HK
          simp only [confRules] at hd HK
          have h2 := hd
          clear hd
          simp only [h2] at HK ⊢
          clear h2
          go_wp2
          refine HK.out _ _ (Below.refl _ _) ?_
          rfl
        · intro vv W K hB hd HK
          simp only [confRules] at hd HK
          have h3 := hd
          clear hd
          simp only [h3] at HK ⊢
          clear h3
          go_wp2
          refine HK.out _ _ (Below.refl _ _) ?_
          rfl
        · intro vv W K hB hd HK
          simp only [confRules] at hd HK
          have h4 := hd
          clear hd
          simp only [h4] at HK ⊢
          clear h4
          go_wp2
          refine HK.out _ _ (Below.refl _ _) ?_
          rfl
        · intro vv W K hB hd HK
          simp only [confRules] at hd HK
          have h5 := hd
          clear hd
          simp only [h5] at HK ⊢
          clear h5
          obtain ⟨c9, -, -⟩ := HKQ.out W hB
          go_wp2
          refine HK.out _ _ (Below.refl _ _) ?_
          rfl
        · intro vv W K hB hd HK
          simp only [confRules] at hd HK
          obtain ⟨h1, h6⟩ := hd
          simp only [h1, h6] at HK ⊢
          clear h1 h6
          go_wp2
          refine HK.out _ _ (Below.refl _ _) ?_
          rfl
        · intro vv W K hB hd HK
          simp only [confRules] at hd HK
          have h7 := hd
          clear hd
          simp only [h7] at HK ⊢
          clear h7
          go_wp2
          refine HK.out _ _ (Below.refl _ _) ?_
          rfl
        · intro vv W K hB hd HK
          simp only [confRules] at hd HK
          have h8 := hd
          clear hd
          simp only [h8] at HK ⊢
          clear h8
          refine wpList_guard_no (by rfl) ?_
          refine HK.out _ _ (Below.refl _ _) ?_
          rfl
        · intro vv W K hB hd HK
          simp only [confRules] at hd HK
          obtain ⟨h9, h8⟩ := hd
          simp only [h9, h8] at HK ⊢
          clear h9 h8
          refine wpList_guard_no (by rfl) ?_
          refine HK.out _ _ (Below.refl _ _) ?_
          rfl
        · intro vv W K hB hd HK
          simp only [confRules] at hd HK
          have h8 := hd
          clear hd
          simp only [h8] at HK ⊢
          clear h8
          refine wpList_guard_no (by rfl) ?_
          refine HK.out _ _ (Below.refl _ _) ?_
          rfl
        · intro vv W K hB hd HK
          simp only [confRules] at hd HK
          obtain ⟨h11, h8⟩ := hd
          simp only [h11, h8] at HK ⊢
          clear h11 h8
          refine wpList_guard_no (by rfl) ?_
          refine HK.out _ _ (Below.refl _ _) ?_
          rfl
        · intro vv W K hB hd HK
          simp only [confRules] at hd HK
          obtain ⟨h12, h8⟩ := hd
          simp only [h12, h8] at HK ⊢
          clear h12 h8
          refine wpList_guard_no (by rfl) ?_
          refine HK.out _ _ (Below.refl _ _) ?_
          rfl
        · intro vv W K hB hd HK
          simp only [confRules] at hd HK
          obtain ⟨h13, h8⟩ := hd
          simp only [h13, h8] at HK ⊢
          clear h13 h8
          refine wpList_guard_no (by rfl) ?_
          refine HK.out _ _ (Below.refl _ _) ?_
          rfl
        · intro vv W K hB hd HK
          simp only [confRules] at hd HK
          obtain ⟨h14, h8⟩ := hd
          simp only [h14, h8] at HK ⊢
          clear h14 h8
          refine wpList_guard_no (by rfl) ?_
          refine HK.out _ _ (Below.refl _ _) ?_
          rfl
        · intro vv W K hB hd HK
          simp only [confRules] at hd HK
          obtain ⟨h10, h15, h8⟩ := hd
          simp only [h10, h15, h8] at HK ⊢
          clear h10 h15 h8
          refine wpList_guard_no (by rfl) ?_
          refine HK.out _ _ (Below.refl _ _) ?_
          rfl
        · intro vv W K hB hd HK
          simp only [confRules] at hd HK
          obtain ⟨h8, h16⟩ := hd
          simp only [h8, h16] at HK ⊢
          clear h8 h16
          go_wp2
          refine HK.out _ _ (Below.refl _ _) ?_
          rfl
        · intro vv W K hB hd HK
          simp only [confRules] at hd HK
          obtain ⟨h17, h8⟩ := hd
          simp only [h17, h8] at HK ⊢
          clear h17 h8
          go_wp2
          refine HK.out _ _ (Below.refl _ _) ?_
          rfl
        · intro vv W K hB hd HK
          simp only [confRules] at hd HK
          have h18 := hd
          clear hd
          simp only [h18] at HK ⊢
          clear h18
          refine wpList_guard_no (by rfl) ?_
          refine HK.out _ _ (Below.refl _ _) ?_
          rfl
        · intro vv W K hB hd HK
          simp only [confRules] at hd HK
          have h18 := hd
          clear hd
          simp only [h18] at HK ⊢
          clear h18
          refine wpList_guard_no (by rfl) ?_
          refine HK.out _ _ (Below.refl _ _) ?_
          rfl
        · intro vv W K hB hd HK
          simp only [confRules] at hd HK
          obtain ⟨h20, h18⟩ := hd
          simp only [h20, h18] at HK ⊢
          clear h20 h18
          refine wpList_guard_no (by rfl) ?_
          refine HK.out _ _ (Below.refl _ _) ?_
          rfl
        · intro vv W K hB hd HK
          simp only [confRules] at hd HK
          obtain ⟨h21, h18⟩ := hd
          simp only [h21, h18] at HK ⊢
          clear h21 h18
          refine wpList_guard_no (by rfl) ?_
          refine HK.out _ _ (Below.refl _ _) ?_
          rfl
        · intro vv W K hB hd HK
          simp only [confRules] at hd HK
          obtain ⟨h22, h18⟩ := hd
          simp only [h22, h18] at HK ⊢
          clear h22 h18
          refine wpList_guard_no (by rfl) ?_
          refine HK.out _ _ (Below.refl _ _) ?_
          rfl
        · intro vv W K hB hd HK
          simp only [confRules] at hd HK
          obtain ⟨h23, h18⟩ := hd
          simp only [h23, h18] at HK ⊢
          clear h23 h18
          refine wpList_guard_no (by rfl) ?_
          refine HK.out _ _ (Below.refl _ _) ?_
          rfl
        · intro vv W K hB hd HK
          simp only [confRules] at hd HK
          have h18 := hd
          clear hd
          simp only [h18] at HK ⊢
          clear h18
          refine wpList_guard_no (by rfl) ?_
          refine HK.out _ _ (Below.refl _ _) ?_
          rfl
        · intro vv W K hB hd HK
          simp only [confRules] at hd HK
          obtain ⟨h25, h18⟩ := hd
          simp only [h25, h18] at HK ⊢
          clear h25 h18
          refine wpList_guard_no (by rfl) ?_
          refine HK.out _ _ (Below.refl _ _) ?_
          rfl
        · intro vv W K hB hd HK
          simp only [confRules] at hd HK
          obtain ⟨h26, h18⟩ := hd
          simp only [h26, h18] at HK ⊢
          clear h26 h18
          refine wpList_guard_no (by rfl) ?_
          refine HK.out _ _ (Below.refl _ _) ?_
          rfl
        · intro vv W K hB hd HK
          simp only [confRules] at hd HK
          obtain ⟨h27, h18⟩ := hd
          simp only [h27, h18] at HK ⊢
          clear h27 h18
          refine wpList_guard_no (by rfl) ?_
          refine HK.out _ _ (Below.refl _ _) ?_
          rfl
        · intro vv W K hB hd HK
          simp only [confRules] at hd HK
          obtain ⟨h28, h18⟩ := hd
          simp only [h28, h18] at HK ⊢
          clear h28 h18
          refine wpList_guard_no (by rfl) ?_
          refine HK.out _ _ (Below.refl _ _) ?_
          rfl
        · intro vv W K hB hd HK
          simp only [confRules] at hd HK
          obtain ⟨h29, h18⟩ := hd
          simp only [h29, h18] at HK ⊢
          clear h29 h18
          refine wpList_guard_no (by rfl) ?_
          refine HK.out _ _ (Below.refl _ _) ?_
          rfl
        · intro vv W K hB hd HK
          simp only [confRules] at hd HK
          obtain ⟨h24, h30, h18⟩ := hd
          simp only [h24, h30, h18] at HK ⊢
          clear h24 h30 h18
          refine wpList_guard_no (by rfl) ?_
          refine HK.out _ _ (Below.refl _ _) ?_
          rfl
        · intro vv W K hB hd HK
          simp only [confRules] at hd HK
          obtain ⟨h19, h31, h18⟩ := hd
          simp only [h19, h31, h18] at HK ⊢
          clear h19 h31 h18
          refine wpList_guard_no (by rfl) ?_
          refine HK.out _ _ (Below.refl _ _) ?_
          rfl
      case rahend =>
        intro vv W hB hf
        have e18 := hf 18 (by decide)
        have e32 := hf 32 (by decide)
        simp only [endRules] at e18 e32
        simp only [e18, e32, dropRules]
        clear hf e18 e32
        have hWR := HR3.out.below hB
        have HTHW := Lib.hid hWR.there
        have hWG := hWR.group 0 0 (.slice none 0 0) [] (OwnM.nil _ _ _ _ _ _)
        obtain ⟨W5, hW5⟩ : ∃ W5, W.setCells q 257 [.int .i64 0, .int .i64 0, .slice none 0 0] = W5 := ⟨_, rfl⟩
        have hO5 : Only [q] W W5 := by rw [← hW5]; exact Only.of_setCells q _ _ _
        rw [hW5] at hWG
        have HWG := Lib.hid hWG
        have HB5 := Lib.hid ((HB3.out.trans (hB.mono hB3s)).trans (hO5.below (by have := hWR.hB; simp; omega) hWR.hB.2.2.2.2.2))
        have HW5 := Lib.hid hW5
        clear hWR hWG hW5 hO5 hB
        go_upto_region 5 with (fail)
        go_wp2_with (first | (refine wpList_build_on (by rfl) 97 _ rfl #[] (by simp) _ HBG.out ?_) | (refine wpList_store_mid rfl 97 _ _ rfl q 257 #[.int .i64 0, .int .i64 0, .slice none 0 0] rfl rfl HTHW.out (HIG.out _ _) (by simp [Value.oneCell']) ?_))
        rw [HW5.out]
        refine bodyPost_ret (results_none rfl _ _ _) rfl ?_
        rw [HSHUT.out hgo]
        first | exact ⟨_, rfl, HWG.out, HB5.out⟩ | exact ⟨rfl, ⟨_, HWG.out⟩, HB5.out⟩
end Go.Proofs.Ytoiephmngdecaaa
