/- Proved here: contracts of the queue's list, Room, All and Keep, over queues of ints. -/
import Derived.Test.YtogijlpclceanaaQAnchor
import Derived.Test.YtogijlpclceanaaTurn
import Derived.Test.YtogijlpclceanaaKitV
import Derived.LoopTactic
namespace Go.Rv
open Go.RowKit
theorem OwnV.only {S : List Nat} {w w' : World} {e : TypeId} {base : Nat} {v : Value} {xs : List Value} (h : OwnV w e base v xs) (hb : Only S w w') (hS : ∀ k, v.ownBlock = some k → k ∉ S) : OwnV w' e base v xs := by
  obtain ⟨⟨h1, hr⟩, hl⟩ := h
  refine ⟨⟨h1, ?_⟩, hl⟩
  rcases hr with hr | ⟨g, cap, cur, rfl, hg, hh, r⟩
  · exact .inl hr
  · exact .inr ⟨g, cap, cur, rfl, hg, hb.get hh (hS g rfl), r⟩
theorem OwnV.cells {w : World} {e : TypeId} {base : Nat} {v : Value} {xs : List Value} (h : OwnV w e base v xs) {k : Nat} (hk : v.ownBlock = some k) : base ≤ k ∧ ∃ C, w.heap[k]? = some (.cells C e (0, 0)) := by
  rcases h.1.2 with ⟨rfl, _⟩ | ⟨g, cap, cur, rfl, hg, hh, r⟩
  · simp [Value.ownBlock] at hk
  · simp [Value.ownBlock] at hk
    subst hk
    exact ⟨hg, cur, hh⟩
theorem OwnV.mono {w : World} {e : TypeId} {base base' : Nat} {v : Value} {xs : List Value} (h : OwnV w e base v xs) (hb : base' ≤ base) : OwnV w e base' v xs := by
  obtain ⟨⟨h1, hr⟩, hl⟩ := h
  refine ⟨⟨h1, ?_⟩, hl⟩
  rcases hr with hr | ⟨g, cap, cur, hv, hg, r⟩
  · exact .inl hr
  · exact .inr ⟨g, cap, cur, hv, by omega, r⟩
end Go.Rv
namespace Go.Proofs.Ytogijlpclceanaa
open Go.Conc Go.RowKit Go.Rv Go.Shelf
set_option linter.unusedVariables false
attribute [local go_sem] Oper.semAt_some
/-- ints, as values -/
def iV (l : List Int) : List Value := l.map (Value.int .i64)
theorem iV_length (l : List Int) : (iV l).length = l.length := by simp [iV]
theorem iV_app (l m : List Int) : iV (l ++ m) = iV l ++ iV m := by simp [iV]
theorem iV_one (l : List Int) : ∀ x ∈ iV l, x.oneCell' = true := by
  intro x hx
  simp only [iV, List.mem_map] at hx
  obtain ⟨y, _, rfl⟩ := hx
  rfl
theorem iV_take (l : List Int) (k : Nat) (y : Int) (h : l[k]? = some y) : iV (l.take (k + 1)) = iV (l.take k) ++ [.int .i64 y] := by
  obtain ⟨hk, rfl⟩ := List.getElem?_eq_some_iff.1 h
  rw [List.take_succ_eq_append_getElem hk, iV_app]
  rfl
theorem iV_drop (l : List Int) (k : Nat) (y : Int) (h : l[k]? = some y) : iV (l.drop k) = .int .i64 y :: iV (l.drop (k + 1)) := by
  obtain ⟨hk', rfl⟩ := List.getElem?_eq_some_iff.1 h
  rw [List.drop_eq_getElem_cons hk']
  rfl
theorem iV_at (l : List Int) (k : Nat) (y : Int) (h : l[k]? = some y) : (iV l)[k]? = some (.int .i64 y) := by simp [iV, h]
theorem iV_cons (y : Int) (l : List Int) : iV (y :: l) = .int .i64 y :: iV l := rfl
theorem QiIsQ.grown {w w' : World} {q c cap : Nat} {l : List Value} (h : QiIsQ w q c cap l) {row : Option Nat} (hg : w.grownBy w' row) (hq : row ≠ some q) (hc : row ≠ some c) : QiIsQ w' q c cap l := by
  obtain ⟨h1, h2, -⟩ := h.lt
  obtain ⟨h3, s, r, h4⟩ := h
  exact ⟨(hg.block q h1 (Ne.symm hq)).trans h3, s, r, (hg.block c h2 (Ne.symm hc)).trans h4⟩
theorem QiIsQ.own_ne {w : World} {q c cap : Nat} {l : List Value} (h : QiIsQ w q c cap l) {e : TypeId} {base : Nat} {v : Value} {xs : List Value} (ho : OwnV w e base v xs) : v.ownBlock ≠ some c := by
  intro hk
  obtain ⟨-, C, hC⟩ := ho.cells hk
  obtain ⟨s, r, hc⟩ := h.2
  rw [hC] at hc
  simp at hc
theorem QiIsQ.own {w w' : World} {q c cap : Nat} {l : List Value} (h : QiIsQ w q c cap l) {e : TypeId} {base : Nat} {v : Value} {xs : List Value} (ho : OwnV w e base v xs) (hO : Only [c] w w') : OwnV w' e base v xs :=
  ho.only hO (fun k hk hm => by
    obtain rfl : k = c := by simpa using hm
    exact h.own_ne ho hk)
theorem QiIsQ.turn {B : Nat} {w w' : World} {q c cap : Nat} {l : List Value} (h : QiIsQ w q c cap l) (h' : QiIsQ w' q c cap l) (hO : Only [c] w w') : Turn B [c] w w' := by
  refine ⟨hO.os, hO.tape, hO.output, hO.size, fun k o hk hn _ => hO.get hk hn, fun k hk cp buf s r hh => ?_⟩
  obtain rfl : k = c := by simpa using hk
  obtain ⟨s1, r1, h1⟩ := h.2
  obtain ⟨s2, r2, h2⟩ := h'.2
  rw [h1] at hh
  injection hh with hh
  injection hh with e1 e2
  subst e1 e2
  exact ⟨s2, r2, h2⟩
theorem QiIsQ.abT {β : Type} {B : Nat} {C : List Nat} {q c cap : Nat} {l : List Value} (hq : q ∉ C) (hc : c ∈ C ∨ c < B) : AbT B C (fun (_ : β) W => QiIsQ W q c cap l) := by
  intro s A W h ht
  obtain ⟨h3, s1, r1, h4⟩ := h
  refine ⟨ht.block q _ h3 hq (.inr rfl), ?_⟩
  by_cases hm : c ∈ C
  · exact ht.chan c hm _ _ _ _ h4
  · exact ⟨s1, r1, ht.block c _ h4 hm (.inl (hc.resolve_left hm))⟩
set_option maxRecDepth 100000 in
set_option maxHeartbeats 2000000 in
theorem q_list (w : World) (q c cap : Nat) (l : List Int) (h : QiIsQ w q c cap (iV l)) (hl : l.length ≤ cap) (hc : cap ≤ 4096) :
    Calls Try.prog 43 #[.pointer (some ⟨q, 0, none⟩)] w fun e w' => ∃ v, e = .returned v ∧ OwnV w' 3 w.heap.size v (iV l) ∧ QiIsQ w' q c cap (iV l) ∧ Only [c] w w' := by
  have HL := Lib.hid (qi_len w q c cap (iV l) h)
  obtain ⟨hq1, hc1, hqc⟩ := h.lt
  have HQ := Lib.hid h
  have HN := Lib.hid (iV_length l)
  have hinfo : (Try.prog.info? 3).map (fun i => (i.zero, i.size, i.bytes)) = some (some (.int .i64 0), 1, 8) := by kernel_rfl
  have HI := Lib.hid hinfo
  clear h hinfo
  go_enter Try.func43, Try.ntmps43
  go_wp2_with fail
  refine HL.out.mono ?_
  rintro e w0 ⟨rfl, rfl⟩
  rw [HN.out]
  clear HL
  go_wp2
  go_loopw [3, 10] (fun x i wr => ∃ (k : Nat) (o : Value), k ≤ l.length ∧ i = .int .i64 k ∧ o = x ∧ OwnV wr 3 w.heap.size o (iV (l.take k)) ∧ QiIsQ wr q c cap (iV (l.drop k)) ∧ Only [c] w wr) (fun _ i _ => l.length - (intOf i).toNat)
  case atStart => exact ⟨0, _, Nat.zero_le _, rfl, rfl, OwnV.nil _ _ _, HQ.out, Only.refl _ _⟩
  case round =>
    obtain ⟨k, o, hk, rfl, rfl, hown, hq, hO⟩ := hrel
    by_cases hlt : k < l.length
    · obtain ⟨y, hy⟩ : ∃ y, l[k]? = some y := ⟨_, List.getElem?_eq_getElem hlt⟩
      rw [iV_drop l k y hy] at hq
      have HT := Lib.hid (qi_take_some wr q c cap _ _ hq)
      have HS := Lib.hid (iV_take l k y hy)
      have HO := Lib.hid hown
      have HQK := Lib.hid hq
      clear hq hown hy
      go_wp2_with fail
      refine HT.out.mono ?_
      rintro e w3 ⟨rfl, hq3, hO3⟩
      have hO3' := hO.trans hO3
      have z3 := hO3'.size
      have HW := Lib.hid (HQK.out.own HO.out hO3)
      have hown4 := HW.out.below ((Below.refl _ w3).alloc (Nat.le_refl _) (.cells #[.int .i64 y] 3))
      have hq4 := hq3.only ((Only.refl [] w3).alloc (.cells #[.int .i64 y] 3)) (by simp) (by simp)
      have hO4 := hO3'.alloc (.cells #[.int .i64 y] 3)
      have hb : ∀ j, o.ownBlock = some j → w.heap.size ≤ j := fun j hj => (hown4.cells hj).1
      have HQ3 := Lib.hid hq4
      have HO3 := Lib.hid hO4
      clear hq3 hq4 hO3 hO3' hO4 HT hO HQ
      have hlen : (iV (l.take k)).length = k := by rw [iV_length, List.length_take]; omega
      have HLEN := Lib.hid hlen
      clear hlen
      go_wp2_with (at_builtin; refine wpList_append_one rfl (.tmp 19) (.tmp 21) 32 rfl 3 (.int .i64 0) 8 Try.underlying32 HI.out rfl w.heap.size _ _ rfl hown4 _ _ _ _ rfl (heap_alloc_new _ _) rfl (by rw [HLEN.out]; unfold maxLen; omega) (by rw [HLEN.out]; omega) (by simp; omega) ?_; intro v' w' hv hg)
      have HQ5 := HQ3.out.grown hg (fun e => by have := hb _ e; omega) (fun e => by have := hb _ e; omega)
      have HO5 := HO3.out.grown hg (fun j e => .inr (hb j e))
      go_roundw
      case rel => exact ⟨k + 1, _, by omega, by go_num, rfl, by rw [HS.out]; exact hv, HQ5, HO5⟩
      case measure => simp [intOf]; omega
    · obtain rfl : k = l.length := by omega
      have hown1 : OwnV wr 3 w.heap.size o (iV l) := by have := hown; rwa [List.take_length] at this
      have hq0 : QiIsQ wr q c cap (iV (l.take 0)) := by have := hq; rwa [List.drop_length] at this
      obtain ⟨a, co, rfl, -, -⟩ := hown1.shape
      rw [HN.out] at hown1 ⊢
      have HOWN := Lib.hid hown1
      have HQ0 := Lib.hid hq0
      have HOO := Lib.hid hO
      clear hown hq hown1 hq0 hO HQ
      go_wp2
      obtain ⟨wo, hwo⟩ : ∃ wo : World, wo = wr := ⟨_, rfl⟩
      subst hwo
      go_loopw [26] (fun i wr => ∃ k : Nat, k ≤ l.length ∧ i = .int .i64 k ∧ OwnV wr 3 w.heap.size (.slice a l.length co) (iV l) ∧ QiIsQ wr q c cap (iV (l.take k)) ∧ Only [c] w wr) (fun i _ => l.length - (intOf i).toNat)
      case atStart => exact ⟨0, Nat.zero_le _, rfl, HOWN.out, HQ0.out, HOO.out⟩
      case round =>
        obtain ⟨k, hk, rfl, hown, hq, hO⟩ := hrel
        by_cases hlt : k < l.length
        · obtain ⟨y, hy⟩ : ∃ y, l[k]? = some y := ⟨_, List.getElem?_eq_getElem hlt⟩
          obtain ⟨g, cp, e, -, -, -, -, hcl, -⟩ := hown.open (by rw [HN.out]; omega)
          simp only [Value.slice.injEq] at e
          obtain ⟨rfl, -, rfl⟩ := e
          have hcell := hcl k _ (iV_at l k y hy)
          have HP := Lib.hid (qi_put_room wr q c cap _ (.int .i64 y) hq (by rw [iV_length, List.length_take]; omega))
          have HS := Lib.hid (iV_take l k y hy)
          have HO := Lib.hid hown
          have HQK := Lib.hid hq
          clear hq hown hy hcl
          go_wp2_with fail
          refine HP.out.mono ?_
          rintro e w3 ⟨rfl, hq3, hO3⟩
          have HW := HQK.out.own HO.out hO3
          have HQ3 := Lib.hid hq3
          clear hq3
          go_wp2
          go_roundw
          case rel => exact ⟨k + 1, by omega, by go_num, HW, by rw [HS.out]; exact HQ3.out, hO.trans hO3⟩
          case measure => simp [intOf]; omega
        · obtain rfl : k = l.length := by omega
          have hq1 : QiIsQ wr q c cap (iV l) := by have := hq; rwa [List.take_length] at this
          go_wp2
          go_ret
          exact ⟨_, rfl, hown, hq1, hO⟩
set_option maxRecDepth 100000 in
set_option maxHeartbeats 400000 in
theorem q_room (w : World) (q c cap : Nat) (l : List Value) (h : QiIsQ w q c cap l) :
    Calls Try.prog 44 #[.pointer (some ⟨q, 0, none⟩)] w fun e w' => e = .returned (.int .i64 (cap : Nat)) ∧ w = w' := by
  obtain ⟨s, r, hch⟩ := h.2
  have hcell := cell_of_one h.1
  have hlen := fun ty => run_cap_chan (P := Try.prog) 83 ty Try.underlying83 hch
  go_enter Try.func44, Try.ntmps44
  go_wp2
  go_ret
  exact ⟨rfl, rfl⟩
set_option maxRecDepth 100000 in
theorem q_all (p : Option Addr) (w : World) :
    Calls Try.prog 24 #[.pointer p] w fun e w' => e = .returned (.func (.func 42) #[] #[.pointer (some ⟨w.heap.size, 0, none⟩)]) ∧ w' = w.alloc (.cells #[.pointer p] 33) := by
  go_enter Try.func24, Try.ntmps24
  go_wp2
  go_ret
  exact ⟨rfl, rfl⟩
/-- a list's things, each with its place: the first k ones -/
def enTo (l : List Int) (k : Nat) : List (Nat × Int) := (List.range k).map fun i => (i, l.getD i 0)
def en (l : List Int) : List (Nat × Int) := enTo l l.length
theorem enTo_succ (l : List Int) (k : Nat) : enTo l (k + 1) = enTo l k ++ [(k, l.getD k 0)] := by simp [enTo, List.range_succ]
theorem enTo_length (l : List Int) (k : Nat) : (enTo l k).length = k := by simp [enTo]
theorem en_length (l : List Int) : (en l).length = l.length := enTo_length _ _
theorem enTo_prefix (l : List Int) {k m : Nat} (h : k ≤ m) : enTo l k <+: enTo l m := by
  obtain ⟨d, rfl⟩ : ∃ d, m = k + d := ⟨m - k, by omega⟩
  refine ⟨(List.range d).map fun i => (k + i, l.getD (k + i) 0), ?_⟩
  simp [enTo, List.range_add, Function.comp_def]
/-- what has come so far is a beginning: so the next one is known -/
theorem en_next {l : List Int} {pre : List (Nat × Int)} {x : Nat × Int} (h : pre ++ [x] <+: en l) : x.1 = pre.length ∧ l[pre.length]? = some x.2 ∧ pre.length < l.length := by
  obtain ⟨t, ht⟩ := h
  have hlen := congrArg List.length ht
  rw [en_length] at hlen
  simp at hlen
  have h1 : (en l)[pre.length]? = some x := by rw [← ht]; simp
  have h2 : pre.length < l.length := by omega
  simp only [en, enTo, List.getElem?_map] at h1
  rw [List.getElem?_range h2] at h1
  simp only [Option.map_some, Option.some.injEq] at h1
  subst h1
  exact ⟨rfl, by simp [h2], h2⟩
def ixV (x : Nat × Int) : Array Value := #[.int .i64 (x.1 : Nat), .int .i64 x.2]
set_option maxRecDepth 100000 in
set_option maxHeartbeats 2000000 in
theorem qall1_stops (n : Nat) (hn : 1 ≤ n) (B q c cap : Nat) (l : List Int) (w : World) (hB : w.cell? ⟨B, 0, none⟩ = some (.pointer (some ⟨q, 0, none⟩))) (hQ : QiIsQ w q c cap (iV l)) (hl : l.length ≤ cap) (hc : cap ≤ 4096) :
    SeqT Fence.wide n Try.prog 42 #[.pointer (some ⟨B, 0, none⟩)] ixV [] [c] (fun ys => ys = en l) (fun pre => pre <+: en l) l.length w := by
  intro r T J Jx W hW hr0 hrW hT hJ hJx hY h0
  have hBW : W.cell? ⟨B, 0, none⟩ = some (.pointer (some ⟨q, 0, none⟩)) := (hW.cell (p := ⟨B, 0, none⟩) (block_lt_of_cell hB)).trans hB
  have hQW : QiIsQ W q c cap (iV l) := hQ.only (Only.of_below (S := []) hW) (by simp) (by simp)
  have HLI := Lib.hid ((callsIn_wide (n := n - 1)).2 (q_list W q c cap l hQW hl hc))
  have HN := Lib.hid (iV_length l)
  clear hQ hB
  refine callsIn_of_wp Try.func42 rfl trivial ?_ rfl
  simp only [Try.ntmps42, List.size_toArray, List.length_cons, List.length_nil, Nat.reduceAdd, Nat.reduceSub, Array.replicate_succ, Array.replicate_zero, List.push_toArray, List.append_toArray, List.nil_append, List.cons_append]
  gi_wp2_with fail
  refine ⟨trivial, ?_⟩
  refine HLI.out.mono ?_
  rintro e w1 ⟨v, rfl, hown, hq1, hO1⟩
  have hJ1 := hJ _ _ _ h0 (hQW.turn hq1 hO1)
  have z1 := hO1.size
  obtain ⟨a, co, rfl, -, -⟩ := hown.shape
  rw [HN.out] at hown ⊢
  have HO := Lib.hid hown
  clear hown hq1 hQW h0
  gi_wp2
  gi_loopw [8] (fun i wr => ∃ k : Nat, k ≤ l.length ∧ i = .int .i64 k ∧ J (enTo l k) wr ∧ OwnV wr 3 W.heap.size (.slice a l.length co) (iV l)) (fun i _ => l.length - (intOf i).toNat)
  case atStart => exact ⟨0, Nat.zero_le _, rfl, hJ1, HO.out⟩
  case round =>
    obtain ⟨k, hk, rfl, hJk, hown⟩ := hrel
    by_cases hlt : k < l.length
    · obtain ⟨y, hy⟩ : ∃ y, l[k]? = some y := ⟨_, List.getElem?_eq_getElem hlt⟩
      have hyd : l.getD k 0 = y := by simp [hy]
      obtain ⟨g, cp, e, hg, -, -, -, hcl, -⟩ := hown.open (by rw [HN.out]; omega)
      simp only [Value.slice.injEq] at e
      obtain ⟨rfl, -, rfl⟩ := e
      have hcell := hcl k _ (iV_at l k y hy)
      have HS : Hid (enTo l (k + 1) = enTo l k ++ [(k, y)]) := Lib.hid (by rw [enTo_succ, hyd])
      obtain ⟨fn, tmps, assign, body, hy', hR⟩ := hY (enTo l k) (k, y) wr hJk (by rw [enTo_length]; omega) (by rw [← HS.out]; exact enTo_prefix _ (by omega))
      have hy : (Instr.yield r #[.int .i64 (k : Nat), .int .i64 y]).run Try.prog wr = .ok (.round r fn tmps assign body) wr := hy'
      have HOW := Lib.hid hown
      clear hy' hyd hcl hown
      gi_wp2
      refine hR.mono ?_
      rintro e W3 ⟨hO3, (⟨rfl, hJ3⟩ | ⟨rfl, hJx3⟩)⟩
      · have HW : Hid (OwnV W3 3 W.heap.size (.slice (some ⟨g, 0, none⟩) l.length co) (iV l)) := Lib.hid (HOW.out.only hO3 (fun j hj hm => by
          have hj' := (HOW.out.cells hj).1
          rcases List.mem_cons.1 hm with e | hm
          · omega
          · have := (hT j hm).1
            omega))
        clear hy
        gi_wp2
        go_roundw
        case rel => exact ⟨k + 1, by omega, by go_num, by rw [HS.out]; exact hJ3, HW.out⟩
        case measure => simp [intOf]; omega
      · clear hy
        gi_wp2
        refine bodyPost_ret (results_none rfl _ _ _) rfl ?_
        exact ⟨⟨_, rfl⟩, .inr ⟨_, by rw [← HS.out]; exact enTo_prefix _ (by omega), hJx3⟩⟩
    · obtain rfl : k = l.length := by omega
      gi_wp2
      go_end0
      exact ⟨⟨_, rfl⟩, .inl ⟨_, rfl, hJk⟩⟩
/-- k rounds of Keep: the rest, and what is kept -/
def keepQ (p : Int → Bool) (l : List Int) (k : Nat) : List Int := l.drop k ++ (l.take k).filter p
def dropN (p : Int → Bool) (l : List Int) (k : Nat) : Nat := ((l.take k).filter fun x => !p x).length
theorem keepQ_take {p : Int → Bool} {l : List Int} {k : Nat} {y : Int} (h : l[k]? = some y) : keepQ p l k = y :: (l.drop (k + 1) ++ (l.take k).filter p) := by
  obtain ⟨hk, rfl⟩ := List.getElem?_eq_some_iff.1 h
  unfold keepQ
  rw [List.drop_eq_getElem_cons hk]
  rfl
theorem keepQ_put {p : Int → Bool} {l : List Int} {k : Nat} {y : Int} (h : l[k]? = some y) (hp : p y = true) : (l.drop (k + 1) ++ (l.take k).filter p) ++ [y] = keepQ p l (k + 1) := by
  obtain ⟨hk, rfl⟩ := List.getElem?_eq_some_iff.1 h
  unfold keepQ
  rw [List.take_succ_eq_append_getElem hk, List.filter_append]
  simp [hp]
theorem keepQ_drop {p : Int → Bool} {l : List Int} {k : Nat} {y : Int} (h : l[k]? = some y) (hp : p y = false) : l.drop (k + 1) ++ (l.take k).filter p = keepQ p l (k + 1) := by
  obtain ⟨hk, rfl⟩ := List.getElem?_eq_some_iff.1 h
  unfold keepQ
  rw [List.take_succ_eq_append_getElem hk, List.filter_append]
  simp [hp]
theorem keepQ_len {p : Int → Bool} {l : List Int} {k : Nat} (h : k < l.length) : (l.drop (k + 1) ++ (l.take k).filter p).length < l.length := by
  have := List.length_filter_le p (l.take k)
  simp at this ⊢
  omega
theorem keepQ_zero (p : Int → Bool) (l : List Int) : keepQ p l 0 = l := by simp [keepQ]
theorem keepQ_all (p : Int → Bool) (l : List Int) : keepQ p l l.length = l.filter p := by simp [keepQ]
theorem dropN_succ {p : Int → Bool} {l : List Int} {k : Nat} {y : Int} (h : l[k]? = some y) : dropN p l (k + 1) = dropN p l k + if p y then 0 else 1 := by
  obtain ⟨hk, rfl⟩ := List.getElem?_eq_some_iff.1 h
  unfold dropN
  rw [List.take_succ_eq_append_getElem hk, List.filter_append]
  cases hp : p l[k] <;> simp [hp]
theorem dropN_le (p : Int → Bool) (l : List Int) (k : Nat) : dropN p l k ≤ k := by
  have := List.length_filter_le (fun x => !p x) (l.take k)
  unfold dropN
  simp at this
  omega
theorem dropN_all (p : Int → Bool) (l : List Int) : dropN p l l.length + (l.filter p).length = l.length := by
  unfold dropN
  rw [List.take_length]
  induction l with
  | nil => rfl
  | cons x l ih => cases hp : p x <;> simp [hp] <;> omega
set_option maxRecDepth 100000 in
set_option maxHeartbeats 2000000 in
theorem q_keep_even (p : Int → Bool) (w : World) (q c cap : Nat) (l : List Int) (h : QiIsQ w q c cap (iV l)) (hl : l.length ≤ cap) (hc : cap ≤ 4096)
    (HF : ∀ x W, Calls Try.prog 23 #[.int .i64 x] W fun e w' => e = .returned (.bool (p x)) ∧ W = w') :
    Calls Try.prog 22 #[.pointer (some ⟨q, 0, none⟩), .func (.func 23) #[] #[]] w fun e w' => e = .returned (.int .i64 (dropN p l l.length : Nat)) ∧ QiIsQ w' q c cap (iV (l.filter p)) ∧ Only [c] w w' := by
  have HL := Lib.hid (qi_len w q c cap (iV l) h)
  obtain ⟨hq1, hc1, hqc⟩ := h.lt
  have HQ := Lib.hid h
  have HN := Lib.hid (iV_length l)
  have HFF := Lib.hid HF
  have HKZ := Lib.hid (keepQ_zero p l)
  clear h HF
  go_enter Try.func22, Try.ntmps22
  go_wp2_with fail
  refine HL.out.mono ?_
  rintro e w0 ⟨rfl, rfl⟩
  rw [HN.out]
  clear HL
  go_wp2
  go_loopw [5, 10] (fun m i wr => ∃ k : Nat, k ≤ l.length ∧ i = .int .i64 k ∧ m = .int .i64 (dropN p l k : Nat) ∧ QiIsQ wr q c cap (iV (keepQ p l k)) ∧ Only [c] w wr) (fun _ i _ => l.length - (intOf i).toNat)
  case atStart => exact ⟨0, Nat.zero_le _, rfl, by simp [dropN], by rw [HKZ.out]; exact HQ.out, Only.refl _ _⟩
  case round =>
    obtain ⟨k, hk, rfl, rfl, hq, hO⟩ := hrel
    by_cases hlt : k < l.length
    · obtain ⟨y, hy⟩ : ∃ y, l[k]? = some y := ⟨_, List.getElem?_eq_getElem hlt⟩
      rw [keepQ_take (p := p) hy, iV_cons] at hq
      have HT := Lib.hid (qi_take_some wr q c cap _ _ hq)
      have HLN := keepQ_len (p := p) hlt
      have HD := dropN_succ (p := p) hy
      have hdk := dropN_le p l k
      clear hq
      go_wp2_with fail
      refine HT.out.mono ?_
      rintro e w3 ⟨rfl, hq3, hO3⟩
      have hO3' := hO.trans hO3
      clear HT hO3 HQ HKZ
      cases hp : p y
      · have HFY : Hid (Calls Try.prog 23 #[.int .i64 y] w3 fun e w' => e = .returned (.bool false) ∧ w3 = w') := Lib.hid (by have := HFF.out y w3; rwa [hp] at this)
        rw [keepQ_drop hy hp] at hq3
        rw [hp] at HD
        have HQ3 := Lib.hid hq3
        have HDD := Lib.hid HD
        clear hq3 hp hy HD
        generalize dropN p l k = dk at *
        go_wp2_with fail
        refine HFY.out.mono ?_
        rintro e w4 ⟨rfl, rfl⟩
        go_wp2
        go_roundw
        case rel => exact ⟨k + 1, by omega, by go_num, by rw [HDD.out]; go_num, HQ3.out, hO3'⟩
        case measure => simp [intOf]; omega
      · have HFY : Hid (Calls Try.prog 23 #[.int .i64 y] w3 fun e w' => e = .returned (.bool true) ∧ w3 = w') := Lib.hid (by have := HFF.out y w3; rwa [hp] at this)
        have HP := Lib.hid (qi_put_room w3 q c cap _ (.int .i64 y) hq3 (by rw [iV_length]; omega))
        have HKP : Hid (iV (l.drop (k + 1) ++ (l.take k).filter p) ++ [.int .i64 y] = iV (keepQ p l (k + 1))) := Lib.hid (by rw [← keepQ_put hy hp, iV_app (_ ++ _) [y]]; rfl)
        rw [hp] at HD
        have HDD := Lib.hid HD
        clear hq3 hp hy HD
        generalize dropN p l k = dk at *
        go_wp2_with fail
        refine HFY.out.mono ?_
        rintro e w4 ⟨rfl, rfl⟩
        go_wp2_with fail
        refine HP.out.mono ?_
        rintro e w5 ⟨rfl, hq5, hO5⟩
        rw [HKP.out] at hq5
        have HQ5 := Lib.hid hq5
        clear hq5 HKP HP HFY
        go_wp2
        go_roundw
        case rel => exact ⟨k + 1, by omega, by go_num, by rw [HDD.out]; go_num, HQ5.out, hO3'.trans hO5⟩
        case measure => simp [intOf]; omega
    · obtain rfl : k = l.length := by omega
      have hq1 : QiIsQ wr q c cap (iV (l.filter p)) := by have := hq; rwa [keepQ_all] at this
      go_wp2
      go_ret
      exact ⟨rfl, hq1, hO⟩
set_option maxRecDepth 100000 in
set_option maxHeartbeats 2000000 in
theorem q_keep_all (p : Int → Bool) (w : World) (q c cap : Nat) (l : List Int) (h : QiIsQ w q c cap (iV l)) (hl : l.length ≤ cap) (hc : cap ≤ 4096)
    (HF : ∀ x W, Calls Try.prog 26 #[.int .i64 x] W fun e w' => e = .returned (.bool (p x)) ∧ W = w') :
    Calls Try.prog 22 #[.pointer (some ⟨q, 0, none⟩), .func (.func 26) #[] #[]] w fun e w' => e = .returned (.int .i64 (dropN p l l.length : Nat)) ∧ QiIsQ w' q c cap (iV (l.filter p)) ∧ Only [c] w w' := by
  have HL := Lib.hid (qi_len w q c cap (iV l) h)
  obtain ⟨hq1, hc1, hqc⟩ := h.lt
  have HQ := Lib.hid h
  have HN := Lib.hid (iV_length l)
  have HFF := Lib.hid HF
  have HKZ := Lib.hid (keepQ_zero p l)
  clear h HF
  go_enter Try.func22, Try.ntmps22
  go_wp2_with fail
  refine HL.out.mono ?_
  rintro e w0 ⟨rfl, rfl⟩
  rw [HN.out]
  clear HL
  go_wp2
  go_loopw [5, 10] (fun m i wr => ∃ k : Nat, k ≤ l.length ∧ i = .int .i64 k ∧ m = .int .i64 (dropN p l k : Nat) ∧ QiIsQ wr q c cap (iV (keepQ p l k)) ∧ Only [c] w wr) (fun _ i _ => l.length - (intOf i).toNat)
  case atStart => exact ⟨0, Nat.zero_le _, rfl, by simp [dropN], by rw [HKZ.out]; exact HQ.out, Only.refl _ _⟩
  case round =>
    obtain ⟨k, hk, rfl, rfl, hq, hO⟩ := hrel
    by_cases hlt : k < l.length
    · obtain ⟨y, hy⟩ : ∃ y, l[k]? = some y := ⟨_, List.getElem?_eq_getElem hlt⟩
      rw [keepQ_take (p := p) hy, iV_cons] at hq
      have HT := Lib.hid (qi_take_some wr q c cap _ _ hq)
      have HLN := keepQ_len (p := p) hlt
      have HD := dropN_succ (p := p) hy
      have hdk := dropN_le p l k
      clear hq
      go_wp2_with fail
      refine HT.out.mono ?_
      rintro e w3 ⟨rfl, hq3, hO3⟩
      have hO3' := hO.trans hO3
      clear HT hO3 HQ HKZ
      cases hp : p y
      · have HFY : Hid (Calls Try.prog 26 #[.int .i64 y] w3 fun e w' => e = .returned (.bool false) ∧ w3 = w') := Lib.hid (by have := HFF.out y w3; rwa [hp] at this)
        rw [keepQ_drop hy hp] at hq3
        rw [hp] at HD
        have HQ3 := Lib.hid hq3
        have HDD := Lib.hid HD
        clear hq3 hp hy HD
        generalize dropN p l k = dk at *
        go_wp2_with fail
        refine HFY.out.mono ?_
        rintro e w4 ⟨rfl, rfl⟩
        go_wp2
        go_roundw
        case rel => exact ⟨k + 1, by omega, by go_num, by rw [HDD.out]; go_num, HQ3.out, hO3'⟩
        case measure => simp [intOf]; omega
      · have HFY : Hid (Calls Try.prog 26 #[.int .i64 y] w3 fun e w' => e = .returned (.bool true) ∧ w3 = w') := Lib.hid (by have := HFF.out y w3; rwa [hp] at this)
        have HP := Lib.hid (qi_put_room w3 q c cap _ (.int .i64 y) hq3 (by rw [iV_length]; omega))
        have HKP : Hid (iV (l.drop (k + 1) ++ (l.take k).filter p) ++ [.int .i64 y] = iV (keepQ p l (k + 1))) := Lib.hid (by rw [← keepQ_put hy hp, iV_app (_ ++ _) [y]]; rfl)
        rw [hp] at HD
        have HDD := Lib.hid HD
        clear hq3 hp hy HD
        generalize dropN p l k = dk at *
        go_wp2_with fail
        refine HFY.out.mono ?_
        rintro e w4 ⟨rfl, rfl⟩
        go_wp2_with fail
        refine HP.out.mono ?_
        rintro e w5 ⟨rfl, hq5, hO5⟩
        rw [HKP.out] at hq5
        have HQ5 := Lib.hid hq5
        clear hq5 HKP HP HFY
        go_wp2
        go_roundw
        case rel => exact ⟨k + 1, by omega, by go_num, by rw [HDD.out]; go_num, HQ5.out, hO3'.trans hO5⟩
        case measure => simp [intOf]; omega
    · obtain rfl : k = l.length := by omega
      have hq1 : QiIsQ wr q c cap (iV (l.filter p)) := by have := hq; rwa [keepQ_all] at this
      go_wp2
      go_ret
      exact ⟨rfl, hq1, hO⟩
set_option maxRecDepth 100000 in
set_option maxHeartbeats 2000000 in
theorem q_keep_drop (p : Int → Bool) (B : Nat) (zv : Value) (w : World) (q c cap : Nat) (l : List Int) (h : QiIsQ w q c cap (iV l)) (hl : l.length ≤ cap) (hc : cap ≤ 4096) (hB : w.heap[B]? = some (.cells #[zv] 3 (0, 0)))
    (HF : ∀ x W, W.heap[B]? = some (.cells #[zv] 3 (0, 0)) → Calls Try.prog 65 #[.int .i64 x, .pointer (some ⟨B, 0, none⟩)] W fun e w' => e = .returned (.bool (p x)) ∧ W = w') :
    Calls Try.prog 22 #[.pointer (some ⟨q, 0, none⟩), .func (.func 65) #[] #[.pointer (some ⟨B, 0, none⟩)]] w fun e w' => e = .returned (.int .i64 (dropN p l l.length : Nat)) ∧ QiIsQ w' q c cap (iV (l.filter p)) ∧ Only [c] w w' := by
  have HL := Lib.hid (qi_len w q c cap (iV l) h)
  obtain ⟨hq1, hc1, hqc⟩ := h.lt
  have HQ := Lib.hid h
  have HN := Lib.hid (iV_length l)
  have HFF := Lib.hid HF
  have HKZ := Lib.hid (keepQ_zero p l)
  have HBB := Lib.hid hB
  have HBC : Hid (B ∉ [c]) := Lib.hid (by
    intro hm
    obtain rfl : B = c := by simpa using hm
    obtain ⟨s, r, hh⟩ := h.2
    rw [hB] at hh
    simp at hh)
  clear h HF hB
  go_enter Try.func22, Try.ntmps22
  go_wp2_with fail
  refine HL.out.mono ?_
  rintro e w0 ⟨rfl, rfl⟩
  rw [HN.out]
  clear HL
  go_wp2
  go_loopw [5, 10] (fun m i wr => ∃ k : Nat, k ≤ l.length ∧ i = .int .i64 k ∧ m = .int .i64 (dropN p l k : Nat) ∧ QiIsQ wr q c cap (iV (keepQ p l k)) ∧ Only [c] w wr) (fun _ i _ => l.length - (intOf i).toNat)
  case atStart => exact ⟨0, Nat.zero_le _, rfl, by simp [dropN], by rw [HKZ.out]; exact HQ.out, Only.refl _ _⟩
  case round =>
    obtain ⟨k, hk, rfl, rfl, hq, hO⟩ := hrel
    by_cases hlt : k < l.length
    · obtain ⟨y, hy⟩ : ∃ y, l[k]? = some y := ⟨_, List.getElem?_eq_getElem hlt⟩
      rw [keepQ_take (p := p) hy, iV_cons] at hq
      have HT := Lib.hid (qi_take_some wr q c cap _ _ hq)
      have HLN := keepQ_len (p := p) hlt
      have HD := dropN_succ (p := p) hy
      have hdk := dropN_le p l k
      clear hq
      go_wp2_with fail
      refine HT.out.mono ?_
      rintro e w3 ⟨rfl, hq3, hO3⟩
      have hO3' := hO.trans hO3
      clear HT hO3 HQ HKZ
      have hB3 := hO3'.get HBB.out HBC.out
      cases hp : p y
      · have HFY : Hid (Calls Try.prog 65 #[.int .i64 y, .pointer (some ⟨B, 0, none⟩)] w3 fun e w' => e = .returned (.bool false) ∧ w3 = w') := Lib.hid (by have := HFF.out y w3 hB3; rwa [hp] at this)
        rw [keepQ_drop hy hp] at hq3
        rw [hp] at HD
        have HQ3 := Lib.hid hq3
        have HDD := Lib.hid HD
        clear hq3 hp hy HD
        generalize dropN p l k = dk at *
        go_wp2_with fail
        refine HFY.out.mono ?_
        rintro e w4 ⟨rfl, rfl⟩
        go_wp2
        go_roundw
        case rel => exact ⟨k + 1, by omega, by go_num, by rw [HDD.out]; go_num, HQ3.out, hO3'⟩
        case measure => simp [intOf]; omega
      · have HFY : Hid (Calls Try.prog 65 #[.int .i64 y, .pointer (some ⟨B, 0, none⟩)] w3 fun e w' => e = .returned (.bool true) ∧ w3 = w') := Lib.hid (by have := HFF.out y w3 hB3; rwa [hp] at this)
        have HP := Lib.hid (qi_put_room w3 q c cap _ (.int .i64 y) hq3 (by rw [iV_length]; omega))
        have HKP : Hid (iV (l.drop (k + 1) ++ (l.take k).filter p) ++ [.int .i64 y] = iV (keepQ p l (k + 1))) := Lib.hid (by rw [← keepQ_put hy hp, iV_app (_ ++ _) [y]]; rfl)
        rw [hp] at HD
        have HDD := Lib.hid HD
        clear hq3 hp hy HD
        generalize dropN p l k = dk at *
        go_wp2_with fail
        refine HFY.out.mono ?_
        rintro e w4 ⟨rfl, rfl⟩
        go_wp2_with fail
        refine HP.out.mono ?_
        rintro e w5 ⟨rfl, hq5, hO5⟩
        rw [HKP.out] at hq5
        have HQ5 := Lib.hid hq5
        clear hq5 HKP HP HFY
        go_wp2
        go_roundw
        case rel => exact ⟨k + 1, by omega, by go_num, by rw [HDD.out]; go_num, HQ5.out, hO3'.trans hO5⟩
        case measure => simp [intOf]; omega
    · obtain rfl : k = l.length := by omega
      have hq1 : QiIsQ wr q c cap (iV (l.filter p)) := by have := hq; rwa [keepQ_all] at this
      go_wp2
      go_ret
      exact ⟨rfl, hq1, hO⟩
end Go.Proofs.Ytogijlpclceanaa
