/- Proved here: the map's All and In, and In's iterator, by the law on turns. -/
import Derived.Test.YteggijkcdlboeaaBmIter
import Derived.Test.YteggijkcdlboeaaBmMath
import Derived.Test.YteggijkcdlboeaaTurn2
namespace Go.Rv
open Go.RowKit
set_option linter.unusedVariables false
theorem roundIn_any {n m : Nat} {P : Program} {l : Nat} {f : FuncId} {tmps : Array Value} {assign body : Code} {w : World} {R : Ending → World → Prop} (h : RoundIn Fence.wide n P l f tmps assign body w R) : RoundIn Fence.wide m P l f tmps assign body w R :=
  ⟨h.1, fun c cs _ => h.2 c cs (room_wide _)⟩
theorem yieldAt_any {n m : Nat} {P : Program} {l : Nat} {args : Array Value} {W : World} {R : Ending → World → Prop} (h : YieldAt Fence.wide n P l args W R) : YieldAt Fence.wide m P l args W R := by
  obtain ⟨fn, tmps, assign, body, hy, hr⟩ := h
  exact ⟨fn, tmps, assign, body, hy, roundIn_any hr⟩
theorem SeqT.any {α : Type} {n m : Nat} {P : Program} {g : Nat} {lb : Array Value} {encs : α → Array Value} {R C : List Nat} {S Sp : List α → Prop} {N : Nat} {w : World} (h : SeqT Fence.wide n P g lb encs R C S Sp N w) : SeqT Fence.wide m P g lb encs R C S Sp N w := by
  intro l T J Jx W h1 h2 h3 h4 h5 h6 h7 h8
  exact callsIn_wide.2 (callsIn_wide.1 (h l T J Jx W h1 h2 h3 h4 h5 h6 (fun pre x W1 a b c => yieldAt_any (h7 pre x W1 a b c)) h8))
/-- of the things that have come, the places of those that are wanted -/
def pickP {α : Type} (p : α → Bool) (pre : List (α × Nat)) : List Nat := (pre.filter fun x => p x.1).map (·.2)
theorem pickP_app {α : Type} (p : α → Bool) (pre : List (α × Nat)) (x : α × Nat) : pickP p (pre ++ [x]) = pickP p pre ++ if p x.1 = true then [x.2] else [] := by
  unfold pickP
  rw [List.filter_append, List.map_append]
  cases h : p x.1 <;> simp [h]
theorem pickP_prefix {α : Type} (p : α → Bool) {a b : List (α × Nat)} (h : a <+: b) : pickP p a <+: pickP p b := by
  obtain ⟨t, rfl⟩ := h
  unfold pickP
  rw [List.filter_append, List.map_append]
  exact ⟨_, rfl⟩
theorem pickP_len {α : Type} (p : α → Bool) (a : List (α × Nat)) : (pickP p a).length ≤ a.length := by
  unfold pickP
  rw [List.length_map]
  exact List.length_filter_le _ _
end Go.Rv
namespace Go.Proofs.Yteggijkcdlboeaa
open Go.RowKit Go.Rv Go.Shelf
set_option linter.unusedVariables false
attribute [local go_sem] Oper.semAt_some
set_option maxRecDepth 100000 in
theorem eall_any (a : Option Addr) (n c : Nat) (w : World) :
    Calls Try.prog 46 #[.slice a n c] w fun e w' => e = .returned (.func (.func 48) #[] #[.pointer (some ⟨w.heap.size, 0, none⟩)]) ∧ w' = w.alloc (.cells #[.slice a n c] 46) := by
  go_enter Try.func46, Try.ntmps46
  go_wp2
  go_ret
  exact ⟨rfl, rfl⟩
set_option maxRecDepth 100000 in
theorem ball_any (w : World) (p : Nat) (a : Option Addr) (n c : Nat) (h : w.cell? ⟨p, 6, none⟩ = some (.slice a n c)) :
    Calls Try.prog 43 #[.pointer (some ⟨p, 0, none⟩)] w fun e w' => e = .returned (.func (.func 48) #[] #[.pointer (some ⟨w.heap.size, 0, none⟩)]) ∧ w' = w.alloc (.cells #[.slice a n c] 46) := by
  have HA := Lib.hid (eall_any a n c w)
  go_enter Try.func43, Try.ntmps43
  go_wp2_with fail
  refine HA.out.mono ?_
  rintro e w1 ⟨rfl, rfl⟩
  go_wp2
  go_ret
  exact ⟨rfl, rfl⟩
set_option maxRecDepth 100000 in
theorem bin_any (w : World) (p : Option Addr) (z : Int) :
    Calls Try.prog 45 #[.pointer p, .int .i64 z] w fun e w' => e = .returned (.func (.func 47) #[] #[.pointer (some ⟨w.heap.size, 0, none⟩), .pointer (some ⟨w.heap.size + 1, 0, none⟩)]) ∧ w' = (w.alloc (.cells #[.pointer p] 36)).alloc (.cells #[.int .i64 z] 3) := by
  go_enter Try.func45, Try.ntmps45
  go_wp2
  go_ret
  exact ⟨rfl, rfl⟩
def i1V (i : Nat) : Array Value := #[.int .i64 (i : Nat)]
/-- the places of those entries that lie in a zone -/
def inP (zone : Int) (pre : List (BE × Nat)) : List Nat := pickP (fun e => hits e zone) pre
def inL (es : List BE) (zone : Int) : List Nat := inP zone es.zipIdx
theorem hits_cases2 (e : BE) (z : Int) : ((e.st == 1) = false ∧ hits e z = false) ∨ ((e.st == 1) = true ∧ (e.z == z) = true ∧ hits e z = true) ∨ ((e.st == 1) = true ∧ (e.z == z) = false ∧ (e.m == z) = true ∧ hits e z = true) ∨ ((e.st == 1) = true ∧ (e.z == z) = false ∧ (e.m == z) = false ∧ hits e z = false) := by
  unfold hits
  cases e.st == 1 <;> cases (e.z == z) <;> cases (e.m == z) <;> simp
theorem inP_yes {zone : Int} {pre : List (BE × Nat)} {x : BE × Nat} (h : hits x.1 zone = true) : inP zone (pre ++ [x]) = inP zone pre ++ [x.2] := by unfold inP; rw [pickP_app, if_pos h]
theorem inP_no {zone : Int} {pre : List (BE × Nat)} {x : BE × Nat} (h : hits x.1 zone = false) : inP zone (pre ++ [x]) = inP zone pre := by unfold inP; rw [pickP_app, if_neg (by rw [h]; simp), List.append_nil]
set_option maxRecDepth 100000 in
set_option maxHeartbeats 4000000 in
theorem bin1_stops (n : Nat) (hn : 2 ≤ n) (Bp Bz p le ll ce cl : Nat) (g : Geo.G) (es : List BE) (lv : List Int) (zone : Int) (w : World) (hBp : w.heap[Bp]? = some (.cells #[.pointer (some ⟨p, 0, none⟩)] 36 (0, 0))) (hBz : w.heap[Bz]? = some (.cells #[.int .i64 zone] 3 (0, 0)))
    (hm : BmIs w p le ll ce cl g es lv) (hl : es.length ≤ 100000) :
    SeqT Fence.wide n Try.prog 47 #[.pointer (some ⟨Bp, 0, none⟩), .pointer (some ⟨Bz, 0, none⟩)] i1V [le, Bz] [] (fun ys => ys = inL es zone) (fun pre => pre <+: inL es zone) es.length w := by
  intro r T J Jx W hW hr0 hrW hT hJ hJx hY h0
  have hzW := hW.size
  have hlt := hm.lt
  have hBpl := (Array.getElem?_eq_some_iff.1 hBp).1
  have hBzl := (Array.getElem?_eq_some_iff.1 hBz).1
  have hBpW := (hW.block Bp hBpl).trans hBp
  have hBzW := (hW.block Bz hBzl).trans hBz
  have hmW := hm.below hW
  obtain ⟨hc6, -⟩ := hmW.cells
  obtain ⟨W0, hW0⟩ : ∃ W0, W.alloc (.cells #[.func (.yield r) #[] #[]] 59) = W0 := ⟨_, rfl⟩
  have hb0 : Below W.heap.size W W0 := by rw [← hW0]; exact (Below.refl _ _).alloc (Nat.le_refl _) _
  have hcp : (W.alloc (.cells #[.func (.yield r) #[] #[]] 59)).cell? ⟨Bp, 0, none⟩ = some (.pointer (some ⟨p, 0, none⟩)) := by rw [hW0]; exact cell_of_one ((hb0.block Bp (by omega)).trans hBpW)
  have hbx : W0.heap[W.heap.size]? = some (.cells #[.func (.yield r) #[] #[]] 59 (0, 0)) := by rw [← hW0]; exact heap_alloc_new W _
  have hc6' : W0.cell? ⟨p, 6, none⟩ = some (.slice (some ⟨le, 0, none⟩) es.length ce) := (hmW.below hb0).cells.1
  have HAL := Lib.hid (callsIn_wide (n := n - 1) |>.2 (ball_any W0 p _ _ _ hc6'))
  have z0 : W0.heap.size = W.heap.size + 1 := by rw [← hW0]; simp
  obtain ⟨W1, hW1⟩ : ∃ W1, W0.alloc (.cells #[.slice (some ⟨le, 0, none⟩) es.length ce] 46) = W1 := ⟨_, rfl⟩
  have hb1 : Below W0.heap.size W0 W1 := by rw [← hW1]; exact (Below.refl _ _).alloc (Nat.le_refl _) _
  have hsl : W1.heap[W0.heap.size]? = some (.cells #[.slice (some ⟨le, 0, none⟩) es.length ce] 46 (0, 0)) := by rw [← hW1]; exact heap_alloc_new W0 _
  have z1 : W1.heap.size = W.heap.size + 1 + 1 := by rw [← hW1]; simp [z0]
  have hb01 : Below W.heap.size W W1 := hb0.trans (hb1.mono hb0.size)
  have hm1 := hmW.below hb01
  have hbx1 := (hb1.block W.heap.size (by omega)).trans hbx
  have hBz1 := (hb01.block Bz (by omega)).trans hBzW
  have hJ1 : J [] W1 := hJ _ _ _ h0 (Turn.of_below hb01)
  have HS := Lib.hid ((eall1_stops (n - 1) (by omega) W0.heap.size le (some ⟨le, 0, none⟩) ce es W1 (cell_of_one hsl) hm1.rows (fun x e => by cases e; rfl) (by have := hm1.lt; omega) hl))
  have HIE := Lib.hid (fun e => esize e)
  have HON := Lib.hid (fun e => BEC_one e)
  have HSZ : Hid (∀ e : BE, (BEC BE.zero).size = (BEC e).size) := Lib.hid (fun e => by rw [BEC_size, BEC_size])
  have hz := (zero_of_info Try.infoEnt).1
  have HW0 := Lib.hid hW0
  have HW1 := Lib.hid hW1
  have HZ0 := Lib.hid z0
  have HZ1 : Hid (W1.heap.size = W.heap.size + 1 + 1) := Lib.hid z1
  have hz1' : W.heap.size < W1.heap.size := by omega
  have HLE : Hid (∀ k ∈ r :: T, k < W1.heap.size ∧ k ∉ [le]) := Lib.hid (fun k hk => by
    rcases List.mem_cons.1 hk with e | hk
    · rw [e]; refine ⟨by omega, fun h => ?_⟩
      simp only [List.mem_singleton] at h
      omega
    · have h := hT k hk
      refine ⟨by omega, fun hm => h.2 (by simp only [List.mem_singleton] at hm; simp [hm])⟩)
  have HTZ : Hid (∀ k ∈ r :: T, k ≠ Bz ∧ k ≠ W.heap.size) := Lib.hid (fun k hk => by
    rcases List.mem_cons.1 hk with e | hk
    · rw [e]; omega
    · have h := hT k hk
      exact ⟨fun e => h.2 (by simp [e]), by omega⟩)
  have HY := Lib.hid hY
  clear hW hm hBp hBz hmW hc6 hc6' hW0 hW1 hb0 hb1 hb01 hsl hbx hBpW hBzW z0 z1 h0 hY
  refine callsIn_of_wp_marks Try.func47 rfl trivial ?_ rfl
  simp only [Try.ntmps47, List.size_toArray, List.length_cons, List.length_nil, Nat.reduceAdd, Nat.reduceSub, Array.replicate_succ, Array.replicate_zero, List.push_toArray, List.append_toArray, List.nil_append, List.cons_append]
  gi_wp2_with fail
  rw [HW0.out]
  refine ⟨trivial, fun _ => by omega, ?_⟩
  refine HAL.out.mono ?_
  rintro e w1 ⟨rfl, rfl⟩
  rw [HW1.out]
  clear hcp
  gi_wp2
  refine wpIn_rangeT2 (encs := ieV) rfl (by omega) (gf := 48) (lb := #[.pointer (some ⟨W0.heap.size, 0, none⟩)]) rfl trivial (enters_of Try.func48 (by kernel_rfl) rfl)
    HS.out (Below.refl _ _) (fun _ => rfl) (r :: T) HLE.out (by simp)
    (fun pre W' => J (inP zone pre) W' ∧ W'.heap[Bz]? = some (.cells #[.int .i64 zone] 3 (0, 0)) ∧ W'.heap[W.heap.size]? = some (.cells #[.func (.yield r) #[] #[]] 59 (0, 0)))
    (fun cx pre W' => cx = .ret ∧ Jx (inP zone pre) W')
    (AbT.and (fun s A W' h ht => hJ _ A W' h (ht.mono (by omega) (fun _ h => h) (by simp))) (AbT.and (AbT.row (fun _ => #[.int .i64 zone]) (by simp)) (AbT.row (fun _ => #[.func (.yield r) #[] #[]]) (by simp))))
    (fun cx => AbT.and (AbT.pure _ _ (fun _ => cx = .ret)) (fun s A W' h ht => hJx _ A W' h (ht.mono (by omega) (fun _ h => h) (by simp))))
    ⟨hJ1, hBz1, hbx1⟩
    ?fr (fun x Be W' => W'.heap[Be]? = some (.cells (BEC x.1) 41 (0, 0))) (fun x Be => AbT.row (fun _ => BEC x.1) (by simp)) ?assign ?body ?done ?stop
  case assign =>
    intro rr pre x W2 K _ hI hK
    have HK2 := Lib.hid hK
    clear hK
    unfold ieV
    gi_wp2_with (refine wpListIn_store_row (by rfl) 41 _ _ rfl W2.heap.size (BEC x.1) rfl rfl 41 (BEC BE.zero) (heap_alloc_new W2 _) (HIE.out _) (HSZ.out _) (HON.out _) ?_; rw [World.setRow_alloc_new])
    obtain ⟨Be, hBe⟩ : ∃ Be, W2.heap.size = Be := ⟨_, rfl⟩
    have hn := heap_alloc_new W2 (.cells (BEC x.1) 41)
    rw [hBe] at hn ⊢
    exact HK2.out Be _ ((Only.refl _ _).alloc _) hn
  case body =>
    rintro rr pre x Be W2 _ hr ⟨hJ2, hz2, hx2⟩ hE hlen hsp
    have k0 : W2.cell? ⟨Be, 0, none⟩ = some (.int .i64 x.1.st) := (cell_of_row _ _ _ _ _ _ hE).trans rfl
    have k1 : W2.cell? ⟨Be, 1, none⟩ = some (.int .i64 x.1.z) := (cell_of_row _ _ _ _ _ _ hE).trans rfl
    have k2 : W2.cell? ⟨Be, 2, none⟩ = some (.int .i64 x.1.m) := (cell_of_row _ _ _ _ _ _ hE).trans rfl
    have cz := cell_of_one hz2
    have cx := cell_of_one hx2
    have hpl := pickP_len (fun e => hits e zone) pre
    have HYS : Hid (hits x.1 zone = true → ∃ fn tmps assign body, (Instr.yield r #[.int .i64 (x.2 : Nat)]).run Try.prog W2 = .ok (.round r fn tmps assign body) W2 ∧ RoundIn Fence.wide (n - 1 - 1 - 1) Try.prog r fn tmps assign body W2 fun e W' => Only (r :: T) W2 W' ∧ ((e = .returned (.bool true) ∧ J (inP zone (pre ++ [x])) W') ∨ (e = .returned (.bool false) ∧ Jx (inP zone (pre ++ [x])) W'))) := Lib.hid (fun hh => by
      obtain ⟨fn, tmps, assign, body, hy, hR⟩ := HY.out (inP zone pre) x.2 W2 hJ2 (Nat.lt_of_le_of_lt hpl hlen) (by rw [← inP_yes hh]; exact pickP_prefix _ hsp)
      rw [← inP_yes hh] at hR
      exact ⟨fn, tmps, assign, body, hy, roundIn_any hR⟩)
    have HJ2 : Hid (hits x.1 zone = false → J (inP zone (pre ++ [x])) W2) := Lib.hid (fun hh => by rw [inP_no hh]; exact hJ2)
    have HZ2 := Lib.hid hz2
    have HX2 := Lib.hid hx2
    clear hE hz2 hx2 hJ2 hlen hsp hpl
    rcases hits_cases2 x.1 zone with ⟨c1, hh⟩ | ⟨c1, c2, hh⟩ | ⟨c1, c2, c3, hh⟩ | ⟨c1, c2, c3, hh⟩
    · have hj := HJ2.out hh
      clear hh
      gi_wp2
      refine ⟨(by intro f h; cases h), ?_⟩
      gi_wp2
      exact ⟨Only.refl _ _, hj, HZ2.out, HX2.out⟩
    · obtain ⟨fn, tmps, assign, body, hy, hR⟩ := HYS.out hh
      have HRD := Lib.hid hR
      clear hh hR
      gi_wp2_with fail
      refine ⟨fun h => (by cases h), ?_⟩
      refine RoundIn.mono (F := Fence.wide.inRound rr) HRD.out ?_
      rintro e W3 ⟨hO3, (⟨rfl, hJ3⟩ | ⟨rfl, hJx3⟩)⟩
      · have hz3 := hO3.get HZ2.out (fun hm => (HTZ.out _ hm).1 rfl)
        have hx3 := hO3.get HX2.out (fun hm => (HTZ.out _ hm).2 rfl)
        gi_wp2
        exact ⟨hO3, hJ3, hz3, hx3⟩
      · gi_wp2
        exact ⟨hO3, rfl, hJx3⟩
    · obtain ⟨fn, tmps, assign, body, hy, hR⟩ := HYS.out hh
      have HRD := Lib.hid hR
      clear hh hR
      gi_wp2_with fail
      refine ⟨fun h => (by cases h), ?_⟩
      refine RoundIn.mono (F := Fence.wide.inRound rr) HRD.out ?_
      rintro e W3 ⟨hO3, (⟨rfl, hJ3⟩ | ⟨rfl, hJx3⟩)⟩
      · have hz3 := hO3.get HZ2.out (fun hm => (HTZ.out _ hm).1 rfl)
        have hx3 := hO3.get HX2.out (fun hm => (HTZ.out _ hm).2 rfl)
        gi_wp2
        exact ⟨hO3, hJ3, hz3, hx3⟩
      · gi_wp2
        exact ⟨hO3, rfl, hJx3⟩
    · have hj := HJ2.out hh
      clear hh
      gi_wp2
      refine ⟨(by intro f h; cases h), ?_⟩
      gi_wp2
      exact ⟨Only.refl _ _, hj, HZ2.out, HX2.out⟩
  case done =>
    rintro D xs W2 hD rfl ⟨hj, -, -⟩ hK
    gi_wp2
    refine leave_marks (v := .tuple #[]) [D] _ (by simp) (by simpa using hK) ?_
    intro W' hO
    exact ⟨results_none rfl _ _ _, ⟨_, rfl⟩, .inl ⟨_, rfl, hJ _ _ _ hj (Turn.of_mark hO (by omega) hK (by simp))⟩⟩
  case stop =>
    rintro D cx pre W2 hD hsp ⟨rfl, hj⟩ hK
    gi_wp2
    refine leave_marks (v := .tuple #[]) [D] _ (by simp) (by simpa using hK) ?_
    intro W' hO
    exact ⟨results_none rfl _ _ _, ⟨_, rfl⟩, .inr ⟨_, pickP_prefix _ hsp, hJx _ _ _ hj (Turn.of_mark hO (by omega) hK (by simp))⟩⟩
end Go.Proofs.Yteggijkcdlboeaa
