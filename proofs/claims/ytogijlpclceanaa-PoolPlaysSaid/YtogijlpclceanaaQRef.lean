/- Proved here: contracts of the document's Put, Take and Even of a queue, and of the law's even. -/
import Derived.Test.YtogijlpclceanaaQSame
import Derived.WalkLawsBesides
import Derived.Deep.QuietTactic
import Derived.BigQuiet
import Derived.LoopTactic
namespace Go.Rv
open Go.RowKit
/-- a slice of ints, with its capacity -/
def IntsC (w : World) (v : Value) (l : List Int) : Prop := ∃ a cp, v = .slice a l.length cp ∧ Ints w a l ∧ (a = none → cp = 0) ∧ l.length ≤ cp ∧ cp ≤ 9223372036854775807
theorem OwnV.intsC {w : World} {e : TypeId} {base : Nat} {v : Value} {l : List Int} (h : OwnV w e base v (l.map (Value.int .i64))) (hr : ∀ c ∈ l, -9223372036854775808 ≤ c ∧ c ≤ 9223372036854775807) : IntsC w v l := by
  have h0 := h
  obtain ⟨⟨_, hv⟩, _⟩ := h
  rcases hv with ⟨rfl, hn⟩ | ⟨g, cap, cur, rfl, hb, hg, hnc, hcm, hcs, htake⟩
  · have hl : l = [] := by
      rw [List.length_map] at hn
      exact List.eq_nil_of_length_eq_zero hn
    subst hl
    exact ⟨none, 0, rfl, Ints.nil _ _, fun _ => rfl, Nat.le_refl _, by omega⟩
  · rw [List.length_map] at hnc ⊢
    refine ⟨some ⟨g, 0, none⟩, cap, rfl, ⟨hr, ?_⟩, fun e => (by cases e), hnc, by unfold maxLen at hcm; omega⟩
    by_cases h1 : 0 < l.length
    · right
      obtain ⟨g', cp', e', -, hlt, -, -, hc, -⟩ := h0.open (by rw [List.length_map]; exact h1)
      simp only [Value.slice.injEq] at e'
      obtain ⟨e1, -, -⟩ := e'
      have e2 : g = g' := by simpa using e1
      subst e2
      exact ⟨g, 0, rfl, hlt, fun i hi => by rw [Nat.zero_add, hc i (.int .i64 (l.getD i 0)) (by simp [hi])]⟩
    · left
      exact List.eq_nil_of_length_eq_zero (by omega)
/-- a row of ints of the call's own is appended to, by ints that lie anywhere -/
theorem wpList_append_ints {P : Program} {w : World} {ops : Array Oper} {rest : List Oper} {o : Oper} {a : Act} {Q : Exit → Act → World → Prop} (hgd : o.guard = none) (s x : Operand) (t : TypeId)
    (ho : o.op = .call { callee := .builtin .append, args := #[s, x], argTypes := #[t, t] })
    (e : TypeId) (ht : P.underlying t = some (.slice e)) (hinfo : (P.info? e).map (fun i => (i.zero, i.size, i.bytes)) = some (some (.int .i64 0), 1, 8))
    (base : Nat) (v : Value) (l : List Value) (hs : a.eval s = v) (hown : OwnV w e base v l) (ad : Option Addr) (cap : Nat) (m : List Int) (hx : a.eval x = .slice ad m.length cap) (hb : Ints w ad m) (hcap : ad = none → cap = 0)
    (hlen : l.length + m.length ≤ 1000000) (hbase : base ≤ w.heap.size)
    (h : ∀ v' w', OwnV w' e base v' (l ++ m.map (Value.int .i64)) → w.grownBy w' v.ownBlock → wpList P ops Q rest (a.put o.dst v') w') : wpList P ops Q (o :: rest) a w := by
  obtain ⟨i0, hi, hz0, hz1, hz2⟩ := info_parts hinfo
  have hone : ∀ u ∈ m.map (Value.int .i64), u.oneCell' = true := by
    intro u hu
    simp only [List.mem_map] at hu
    obtain ⟨y, _, rfl⟩ := hu
    rfl
  cases ad with
  | none =>
    have hm : m = [] := by
      rcases hb.2 with h | ⟨b, o, e, _⟩
      · exact h
      · cases e
    subst hm
    have hc := hcap rfl
    subst hc
    refine wpList_append_own_none hgd s x t ho base e i0 1 ht hi v l.length _ hs hown.1 hx ?_
    exact h v w (by simpa using hown) ⟨rfl, rfl, rfl, Nat.le_refl _, fun _ _ _ => rfl⟩
  | some ad =>
    refine wpList_append_own w hgd s x t ho base e i0 (.int .i64 0) 1 8 ht hi hz0 hz1 hz2 rfl (by decide) v l.length _ hs hown.1 ad m.length cap (m.map (Value.int .i64)) hx (by simp) ?_ ?_ (by unfold maxLen; omega) (by omega) hbase ?_
    · intro j u hu
      rcases hb.2 with rfl | ⟨b, o, e, _, hc⟩
      · simp at hu
      · cases e
        simp only [List.getElem?_map, Option.map_eq_some_iff] at hu
        obtain ⟨y, hy, rfl⟩ := hu
        obtain ⟨hj, rfl⟩ := List.getElem?_eq_some_iff.1 hy
        have hadd : (⟨b, o, none⟩ : Addr).add j = ⟨b, o + j, none⟩ := by unfold Addr.add; split <;> simp_all
        rw [hadd, hc j hj, List.getD_eq_getElem?_getD, List.getElem?_eq_getElem hj]
        rfl
    · exact hone
    · intro v' w' h1 h2 _
      refine h v' w' ⟨by simpa using h1, fun c hc => ?_⟩ h2
      rcases List.mem_append.1 hc with hc | hc
      · exact hown.2 c hc
      · exact hone c hc
end Go.Rv
namespace Go.Proofs.Ytogijlpclceanaa
open Go.Conc Go.RowKit Go.Rv
set_option linter.unusedVariables false
theorem below_drewN (w : World) : ∀ n, Below w.heap.size w (w.drewN n)
  | 0 => Below.refl _ _
  | n + 1 => (below_drewN w n).drew
def In64 (x : Int) : Prop := -9223372036854775808 ≤ x ∧ x ≤ 9223372036854775807
set_option maxRecDepth 100000 in
set_option maxHeartbeats 1000000 in
theorem rput_full (a : Option Addr) (l : List Int) (cp n : Nat) (x : Int) (w : World) (hn : n ≤ l.length) (hl : l.length ≤ 100000) :
    Calls Try.prog 19 #[.slice a l.length cp, .int .i64 (n : Nat), .int .i64 x] w fun e w' => e = .returned (.tuple #[.slice a l.length cp, .int .i64 17]) ∧ w = w' := by
  go_enter Try.func19, Try.ntmps19
  go_wp2
  go_ret2
  exact ⟨rfl, rfl⟩
set_option maxRecDepth 100000 in
set_option maxHeartbeats 1000000 in
theorem rput_room (a : Option Addr) (l : List Int) (cp n : Nat) (x : Int) (w : World) (hn : l.length < n) (hl : l.length ≤ 100000) (hI : Ints w a l) (hcp : a = none → cp = 0) (hx : In64 x) :
    Calls Try.prog 19 #[.slice a l.length cp, .int .i64 (n : Nat), .int .i64 x] w fun e w' => ∃ v, e = .returned (.tuple #[v, .int .i64 0]) ∧ IntsC w' v (l ++ [x]) ∧ Below w.heap.size w w' := by
  have hinfo : (Try.prog.info? 3).map (fun i => (i.zero, i.size, i.bytes)) = some (some (.int .i64 0), 1, 8) := by kernel_rfl
  have HIN := Lib.hid hinfo
  have HI := Lib.hid hI
  have hr : ∀ c ∈ l ++ [x], -9223372036854775808 ≤ c ∧ c ≤ 9223372036854775807 := by
    intro c hc
    rcases List.mem_append.1 hc with h | h
    · exact hI.1 c h
    · obtain rfl : c = x := by simpa using h
      exact hx
  have HR := Lib.hid hr
  clear hinfo hI hr
  go_enter Try.func19, Try.ntmps19
  go_wp2_with (first | (at_builtin; refine wpList_append_ints rfl (.tmp 14) (.tmp 15) 32 rfl 3 Try.underlying32 HIN.out w.heap.size (.slice none 0 0) [] rfl (OwnV.nil _ _ _) a cp l rfl HI.out hcp (by simp; omega) (Nat.le_refl _) ?_; intro v1 w1 hv1 hg1; have hb1 : Below w.heap.size w w1 := Below.of_grown hg1 (Nat.le_refl _) (by simp [Value.ownBlock]); have z1 := hb1.size; have hown1 : OwnV (w1.alloc (.cells #[.int .i64 x] 3)) 3 w.heap.size v1 (l.map (Value.int .i64)) := (by simpa using hv1.below ((Below.refl _ w1).alloc (Nat.le_refl _) (.cells #[.int .i64 x] 3))); have HB2 := Lib.hid (hb1.alloc z1 (.cells #[.int .i64 x] 3)); clear hv1 hg1 hb1) | (at_builtin; refine wpList_append_one rfl (.tmp 17) (.tmp 19) 32 rfl 3 (.int .i64 0) 8 Try.underlying32 HIN.out rfl w.heap.size v1 _ rfl hown1 _ _ _ _ rfl (heap_alloc_new _ _) rfl (by rw [List.length_map]; unfold maxLen; omega) (by rw [List.length_map]; omega) (by simp; omega) ?_; intro v2 w2 hv2 hg2))
  have hB2 := HB2.out.trans (hown1.grown hg2 (by simp; omega))
  go_ret2
  refine ⟨_, rfl, OwnV.intsC (e := 3) (base := w.heap.size) (by simpa using hv2) HR.out, hB2⟩
set_option maxRecDepth 100000 in
set_option maxHeartbeats 1000000 in
theorem rtake_none (a : Option Addr) (cp : Nat) (w : World) :
    Calls Try.prog 20 #[.slice a 0 cp] w fun e w' => e = .returned (.tuple #[.slice a 0 cp, .int .i64 0, .int .i64 15]) ∧ w = w' := by
  go_enter Try.func20, Try.ntmps20
  go_wp2
  go_ret3
  exact ⟨rfl, rfl⟩
set_option maxRecDepth 100000 in
set_option maxHeartbeats 1000000 in
theorem rtake_some (b o : Nat) (x : Int) (l : List Int) (cp : Nat) (w : World) (hI : Ints w (some ⟨b, o, none⟩) (x :: l)) (hc : (x :: l).length ≤ cp) (hm : cp ≤ 9223372036854775807) :
    Calls Try.prog 20 #[.slice (some ⟨b, o, none⟩) (x :: l).length cp] w fun e w' => ∃ v, e = .returned (.tuple #[v, .int .i64 x, .int .i64 0]) ∧ IntsC w' v l ∧ Below w.heap.size w w' := by
  obtain ⟨hr, hI'⟩ := hI
  obtain ⟨b', o', e, hlt, hcl⟩ := hI'.resolve_left (by simp)
  simp only [Option.some.injEq, Addr.mk.injEq, and_true] at e
  obtain ⟨rfl, rfl⟩ := e
  have hcell := hcl 0 (by simp)
  simp only [Nat.add_zero, List.getD_cons_zero] at hcell
  have hI2 : Ints w (some ⟨b, o + 1, none⟩) l := by
    refine ⟨fun c hc => hr c (by simp [hc]), ?_⟩
    by_cases h0 : l = []
    · exact .inl h0
    · refine .inr ⟨b, o + 1, rfl, hlt, fun i hi => ?_⟩
      rw [Nat.add_assoc, Nat.add_comm 1 i, hcl (i + 1) (by simp; omega)]
      simp
  rw [List.length_cons] at hc ⊢
  have HI2 := Lib.hid hI2
  clear hI2 hr hI' hcl
  by_cases h1 : cp = 1
  · have hl : l = [] := List.eq_nil_of_length_eq_zero (by omega)
    subst hl
    subst h1
    go_enter Try.func20, Try.ntmps20
    go_wp2
    go_quiet (fail)
    go_wp2
    go_ret3
    have hB := below_drewN w nq
    exact ⟨_, rfl, ⟨_, _, rfl, Ints.nil _ _, (fun e => by cases e), Nat.le_refl _, by omega⟩, hB⟩
  · go_enter Try.func20, Try.ntmps20
    go_wp2
    go_quiet (fail)
    go_wp2
    go_ret3
    have hB := below_drewN w nq
    exact ⟨_, rfl, ⟨_, _, rfl, HI2.out.below hB, (fun e => by cases e), by omega, by omega⟩, hB⟩
/-- has it no lowest bit? -/
def evenB (x : Int) : Bool := (bits .and .i64 x 1 == 0)
set_option maxRecDepth 100000 in
theorem even_any (x : Int) (w : World) : Calls Try.prog 23 #[.int .i64 x] w fun e w' => e = .returned (.bool (evenB x)) ∧ w = w' := by
  go_enter Try.func23, Try.ntmps23
  go_wp2
  go_ret
  exact ⟨rfl, rfl⟩
set_option maxRecDepth 100000 in
set_option maxHeartbeats 2000000 in
theorem reven_any (a : Option Addr) (l : List Int) (cp : Nat) (w : World) (hI : Ints w a l) (hl : l.length ≤ 100000) :
    Calls Try.prog 21 #[.slice a l.length cp] w fun e w' => ∃ v, e = .returned v ∧ IntsC w' v (l.filter evenB) ∧ Below w.heap.size w w' := by
  have hinfo : (Try.prog.info? 3).map (fun i => (i.zero, i.size, i.bytes)) = some (some (.int .i64 0), 1, 8) := by kernel_rfl
  have HIN := Lib.hid hinfo
  have HI := Lib.hid hI
  clear hinfo hI
  go_enter Try.func21, Try.ntmps21
  go_wp2
  go_loopw [3, 4] (fun x i wr => ∃ (k : Nat) (o : Value), k ≤ l.length ∧ i = .int .i64 k ∧ o = x ∧ OwnV wr 3 w.heap.size o (iV ((l.take k).filter evenB)) ∧ Below w.heap.size w wr) (fun _ i _ => l.length - (intOf i).toNat)
  case atStart => exact ⟨0, _, Nat.zero_le _, rfl, rfl, OwnV.nil _ _ _, Below.refl _ _⟩
  case round =>
    obtain ⟨k, o, hk, rfl, rfl, hown, hB⟩ := hrel
    by_cases hlt : k < l.length
    · obtain ⟨b, ob, y, rfl, hbl, hcz, -, -, hy⟩ := HI.out.at hlt
      have hcell := (hB.cell (p := ⟨b, ob + k, none⟩) hbl).trans hcz
      have z1 := hB.size
      have hte : l.take (k + 1) = l.take k ++ [y] := by
        obtain ⟨hk', rfl⟩ := List.getElem?_eq_some_iff.1 hy
        exact List.take_succ_eq_append_getElem hk'
      have hfl := List.length_filter_le evenB (l.take k)
      rw [List.length_take] at hfl
      cases he : evenB y
      · have HS : Hid (iV ((l.take (k + 1)).filter evenB) = iV ((l.take k).filter evenB)) := Lib.hid (by rw [hte, List.filter_append]; simp [he])
        have t1 : (bits .and .i64 y 1 == 0) = false := he
        have HO := Lib.hid hown
        clear hown hte hy hcz he
        go_wp2
        go_roundw
        case rel => exact ⟨k + 1, _, by omega, by go_num, rfl, by rw [HS.out]; exact HO.out, hB⟩
        case measure => simp [intOf]; omega
      · have HS : Hid (iV ((l.take (k + 1)).filter evenB) = iV ((l.take k).filter evenB) ++ [.int .i64 y]) := Lib.hid (by rw [hte, List.filter_append]; simp [he, iV])
        have t1 : (bits .and .i64 y 1 == 0) = true := he
        have hown4 := hown.below ((Below.refl _ wr).alloc (Nat.le_refl _) (.cells #[.int .i64 y] 3))
        have HB := Lib.hid (hB.alloc z1 (.cells #[.int .i64 y] 3))
        have hln : (iV ((l.take k).filter evenB)).length ≤ k := by rw [iV_length]; omega
        clear hown hte hy hcz he
        go_wp2_with (at_builtin; refine wpList_append_one rfl (.tmp 17) (.tmp 22) 32 rfl 3 (.int .i64 0) 8 Try.underlying32 HIN.out rfl w.heap.size o _ rfl hown4 _ _ _ _ rfl (heap_alloc_new _ _) rfl (by unfold maxLen; omega) (by omega) (by simp; omega) ?_; intro v' w' hv hg)
        have hB5 := HB.out.trans (hown4.grown hg (by simp; omega))
        go_roundw
        case rel => exact ⟨k + 1, _, by omega, by go_num, rfl, by rw [HS.out]; exact hv, hB5⟩
        case measure => simp [intOf]; omega
    · obtain rfl : k = l.length := by omega
      rw [List.take_length] at hown
      go_wp2
      go_ret
      exact ⟨_, rfl, OwnV.intsC (e := 3) (base := w.heap.size) hown (fun c hc => HI.out.1 c (List.mem_filter.1 hc).1), hB⟩
end Go.Proofs.Ytogijlpclceanaa
