/- Proved here: contracts of the queue of int: New, Put, Take. -/
import Derived.Test.YtogijlpclceanaaKit2
import Derived.Test.YtogijlpclceanaaProg
import Derived.Conc.LoneCalls
import Derived.Conc.LoneSelect
import Derived.Conc.LoneSelectN
import Derived.KernelRfl
import Derived.Laws.Rows
import Derived.OneCell
namespace Go.Proofs.Ytogijlpclceanaa
open Go.Conc Go.RowKit Go.Rv
set_option linter.unusedVariables false
/-- block q is a queue, its channel is block c: these things lie in it -/
def QiIsQ (w : World) (q c cap : Nat) (l : List Value) : Prop :=
  w.heap[q]? = some (.cells #[.chan (some c)] 85 (0, 0)) ∧ ∃ s r, w.heap[c]? = some (.chan cap l.toArray false s r false)
theorem QiIsQ.lt {w : World} {q c cap : Nat} {l : List Value} (h : QiIsQ w q c cap l) : q < w.heap.size ∧ c < w.heap.size ∧ q ≠ c := by
  obtain ⟨h1, s, r, h2⟩ := h
  refine ⟨(Array.getElem?_eq_some_iff.1 h1).1, (Array.getElem?_eq_some_iff.1 h2).1, fun e => ?_⟩
  subst e
  rw [h1] at h2
  simp at h2
theorem QiIsQ.only {S : List Nat} {w w' : World} {q c cap : Nat} {l : List Value} (h : QiIsQ w q c cap l) (hb : Only S w w') (hq : q ∉ S) (hc : c ∉ S) : QiIsQ w' q c cap l := by
  obtain ⟨h1, h2, -⟩ := h.lt
  obtain ⟨h3, s, r, h4⟩ := h
  exact ⟨(hb.block q h1 hq).trans h3, s, r, (hb.block c h2 hc).trans h4⟩
theorem QiIsQ.set {w : World} {q c cap : Nat} {l m : List Value} (h : QiIsQ w q c cap l) (s r : Nat) : QiIsQ (w.setChan c cap m.toArray false s r false) q c cap m := by
  obtain ⟨h1, h2, h3⟩ := h.lt
  refine ⟨?_, s, r, ?_⟩
  · simp only [World.setChan]
    rw [Array.getElem?_setIfInBounds_ne (Ne.symm h3)]
    exact h.1
  · exact heap_setChan _ _ _ _ _ _ _ _ h2
theorem only_setChan_qi {w : World} (c cap : Nat) (buf : Array Value) (s r : Nat) : Only [c] w (w.setChan c cap buf false s r false) :=
  ⟨rfl, rfl, rfl, by simp [World.setChan], fun b hb hn => by
    simp only [World.setChan]
    rw [Array.getElem?_setIfInBounds_ne (fun e => hn (by simp [e]))]⟩
theorem qi_info : ∃ i, Try.prog.info? 3 = some i ∧ i.bytes = 8 := by
  have h : (Try.prog.info? 3).map (·.bytes) = some 8 := by kernel_rfl
  obtain ⟨i, hi, hb⟩ := Option.map_eq_some_iff.1 h
  exact ⟨i, hi, hb⟩
set_option maxRecDepth 100000 in
theorem qi_put_room (w : World) (q c cap : Nat) (l : List Value) (x : Value) (h : QiIsQ w q c cap l) (hr : l.length < cap) :
    Calls Try.prog 16 #[.pointer (some ⟨q, 0, none⟩), x] w fun e w' => e = .returned (.int .i64 0) ∧ QiIsQ w' q c cap (l ++ [x]) ∧ Only [c] w w' := by
  refine calls_of_loneTo fun cs => ?_
  obtain ⟨s, r, hch⟩ := h.2
  have hcell := cell_of_one h.1
  have e : Frame.enter Try.prog 16 #[.pointer (some ⟨q, 0, none⟩), x] .normal = (base 16).at ⟨#[.pointer (some ⟨q, 0, none⟩), x, undef, undef, undef, undef, undef, undef, undef, undef, undef, undef, undef], []⟩ [.code (Try.f16.body.getD .skip)] := by
    simp [Frame.enter, Frame.at, Try.func16, base, Try.f16]
  rw [e]
  refine LoneTo.goes (n := 40) ?_
  simp only [Try.f16, Option.getD_some]
  s_c stepG_seq
  s_reg
  s_op
  s_c stepG_region_end
  s_c stepG_seq
  s_c stepG_seq
  s_reg
  s_op
  s_op
  s_op
  s_op
  s_c stepG_region_end
  s_reg
  s_op
  s_c stepG_region_end
  s_c stepG_seq
  s_reg
  s_stop
  refine LoneTo.step (step_lone_select_send_room (c := c) (v := x) (z' := .int .i64 0) (cap := cap) (buf := l.toArray) (s := s) (r := r) (tm := false) (stepG_comm (cases := #[scase c x (.int .i64 0)]) (blocking := false) (shape := .select) (w' := w) rfl rfl (by decide) (by simp [go_sem, execOp, scase, Act.eval])) hch (by simpa using hr)) ?_
  rw [Frame.finish_at]
  walk_nrm
  refine LoneTo.goes (n := 20) ?_
  s_op
  s_op
  s_c stepG_region_end
  s_c stepG_block
  s_cond true
  s_c stepG_seq
  s_reg
  s_op
  s_c stepG_region_end
  s_c stepG_ret'
  s_stop
  refine LoneTo.done ⟨.returned (.int .i64 0), _, rfl, ⟨rfl, ?_, ?_⟩, rfl, rfl, rfl, rfl, _, Try.func16, by simp [results, Try.f16, Frame.at]⟩
  · have := h.set (m := l ++ [x]) (s + 1) r
    simpa using this
  · exact only_setChan_qi _ _ _ _ _
set_option maxRecDepth 100000 in
theorem qi_put_full (w : World) (q c cap : Nat) (l : List Value) (x : Value) (h : QiIsQ w q c cap l) (hr : cap ≤ l.length) :
    Calls Try.prog 16 #[.pointer (some ⟨q, 0, none⟩), x] w fun e w' => e = .returned (.int .i64 17) ∧ w = w' := by
  refine calls_of_loneTo fun cs => ?_
  obtain ⟨s, r, hch⟩ := h.2
  have hcell := cell_of_one h.1
  have e : Frame.enter Try.prog 16 #[.pointer (some ⟨q, 0, none⟩), x] .normal = (base 16).at ⟨#[.pointer (some ⟨q, 0, none⟩), x, undef, undef, undef, undef, undef, undef, undef, undef, undef, undef, undef], []⟩ [.code (Try.f16.body.getD .skip)] := by
    simp [Frame.enter, Frame.at, Try.func16, base, Try.f16]
  rw [e]
  refine LoneTo.goes (n := 40) ?_
  simp only [Try.f16, Option.getD_some]
  s_c stepG_seq
  s_reg
  s_op
  s_c stepG_region_end
  s_c stepG_seq
  s_c stepG_seq
  s_reg
  s_op
  s_op
  s_op
  s_op
  s_c stepG_region_end
  s_reg
  s_op
  s_c stepG_region_end
  s_c stepG_seq
  s_reg
  s_stop
  refine LoneTo.step (step_lone_select_send_full (c := c) (v := x) (z' := .int .i64 0) (cap := cap) (buf := l.toArray) (s := s) (r := r) (tm := false) (stepG_comm (cases := #[scase c x (.int .i64 0)]) (blocking := false) (shape := .select) (w' := w) rfl rfl (by decide) (by simp [go_sem, execOp, scase, Act.eval])) hch (by simpa using hr)) ?_
  rw [Frame.finish_at]
  walk_nrm
  refine LoneTo.goes (n := 20) ?_
  s_op
  s_op
  s_c stepG_region_end
  s_c stepG_block
  s_cond false
  s_c stepG_seq
  s_reg
  s_op
  s_c stepG_region_end
  s_c stepG_ret'
  s_stop
  exact LoneTo.done ⟨.returned (.int .i64 17), _, rfl, ⟨rfl, rfl⟩, rfl, rfl, rfl, rfl, _, Try.func16, by simp [results, Try.f16, Frame.at]⟩
set_option maxRecDepth 100000 in
theorem qi_take_some (w : World) (q c cap : Nat) (x : Value) (l : List Value) (h : QiIsQ w q c cap (x :: l)) :
    Calls Try.prog 17 #[.pointer (some ⟨q, 0, none⟩)] w fun e w' => e = .returned (.tuple #[x, .int .i64 0]) ∧ QiIsQ w' q c cap l ∧ Only [c] w w' := by
  refine calls_of_loneTo fun cs => ?_
  obtain ⟨s, r, hch⟩ := h.2
  have hcell := cell_of_one h.1
  have e : Frame.enter Try.prog 17 #[.pointer (some ⟨q, 0, none⟩)] .normal = (base 17).at ⟨#[.pointer (some ⟨q, 0, none⟩), undef, undef, undef, undef, undef, undef, undef, undef, undef, undef, undef, undef, undef, undef, undef], []⟩ [.code (Try.f17.body.getD .skip)] := by
    simp [Frame.enter, Frame.at, Try.func17, base, Try.f17]
  rw [e]
  refine LoneTo.goes (n := 40) ?_
  simp only [Try.f17, Option.getD_some]
  s_c stepG_seq
  s_reg
  s_op
  s_op
  s_c stepG_region_end
  s_c stepG_seq
  s_reg
  s_op
  s_op
  s_op
  s_op
  s_c stepG_region_end
  s_c stepG_seq
  s_reg
  s_stop
  refine LoneTo.step (step_lone_select_recv_buf (c := c) (z := .int .i64 0) (cap := cap) (buf := (x :: l).toArray) (closed := false) (s := s) (r := r) (tm := false) (stepG_comm (cases := #[rcase c (.int .i64 0)]) (blocking := false) (shape := .select) (w' := w) rfl rfl (by decide) (by simp [go_sem, execOp, rcase, Act.eval])) hch (by simp)) ?_
  rw [Frame.finish_at]
  walk_nrm
  refine LoneTo.goes (n := 30) ?_
  s_op
  s_op
  s_c stepG_region_end
  s_c stepG_block
  s_cond true
  s_c stepG_seq
  s_reg
  s_op
  s_op
  s_c stepG_region_end
  s_c stepG_seq
  s_reg
  s_op
  s_op
  s_op
  s_c stepG_region_end
  s_c stepG_ret'
  s_stop
  refine LoneTo.done ⟨.returned (.tuple #[x, .int .i64 0]), _, rfl, ⟨rfl, ?_, ?_⟩, rfl, rfl, rfl, rfl, _, Try.func17, by simp [results, Try.f17, Frame.at]⟩
  · have := h.set (m := l) s (r + 1)
    simpa using this
  · exact only_setChan_qi _ _ _ _ _
set_option maxRecDepth 100000 in
theorem qi_take_none (w : World) (q c cap : Nat) (h : QiIsQ w q c cap []) :
    Calls Try.prog 17 #[.pointer (some ⟨q, 0, none⟩)] w fun e w' => e = .returned (.tuple #[.int .i64 0, .int .i64 15]) ∧ w = w' := by
  refine calls_of_loneTo fun cs => ?_
  obtain ⟨s, r, hch⟩ := h.2
  have hcell := cell_of_one h.1
  have e : Frame.enter Try.prog 17 #[.pointer (some ⟨q, 0, none⟩)] .normal = (base 17).at ⟨#[.pointer (some ⟨q, 0, none⟩), undef, undef, undef, undef, undef, undef, undef, undef, undef, undef, undef, undef, undef, undef, undef], []⟩ [.code (Try.f17.body.getD .skip)] := by
    simp [Frame.enter, Frame.at, Try.func17, base, Try.f17]
  rw [e]
  refine LoneTo.goes (n := 40) ?_
  simp only [Try.f17, Option.getD_some]
  s_c stepG_seq
  s_reg
  s_op
  s_op
  s_c stepG_region_end
  s_c stepG_seq
  s_reg
  s_op
  s_op
  s_op
  s_op
  s_c stepG_region_end
  s_c stepG_seq
  s_reg
  s_stop
  refine LoneTo.step (step_lone_select_default (c := c) (z := .int .i64 0) (cap := cap) (s := s) (r := r) (tm := false) (stepG_comm (cases := #[rcase c (.int .i64 0)]) (blocking := false) (shape := .select) (w' := w) rfl rfl (by decide) (by simp [go_sem, execOp, rcase, Act.eval])) (by simpa using hch)) ?_
  rw [Frame.finish_at]
  walk_nrm
  refine LoneTo.goes (n := 30) ?_
  s_op
  s_op
  s_c stepG_region_end
  s_c stepG_block
  s_cond false
  s_c stepG_seq
  s_reg
  s_op
  s_c stepG_region_end
  s_c stepG_seq
  s_reg
  s_op
  s_op
  s_op
  s_c stepG_region_end
  s_c stepG_ret'
  s_stop
  exact LoneTo.done ⟨.returned (.tuple #[.int .i64 0, .int .i64 15]), _, rfl, ⟨rfl, rfl⟩, rfl, rfl, rfl, rfl, _, Try.func17, by simp [results, Try.f17, Frame.at]⟩
theorem qi_mk (n : Nat) (h : n ≤ 4096) (w : World) : (Instr.makeChan 83 (.int .i64 (n : Int))).run Try.prog w = .ok (.chan (some w.heap.size)) (w.alloc (.chan n #[] false 0 0 false)) := by
  obtain ⟨i, hi, hb⟩ := qi_info
  simpa using run_makeChan (P := Try.prog) (w := w) Try.underlying83 hi .i64 n (by omega) (by rw [hb]; omega)
set_option maxRecDepth 100000 in
set_option maxHeartbeats 400000 in
theorem qi_new (n : Nat) (w : World) (h1 : 1 ≤ n) (h2 : n ≤ 4096) :
    Calls Try.prog 15 #[.int .i64 (n : Int)] w fun e w' => e = .returned (.tuple #[.pointer (some ⟨w.heap.size + 1, 0, none⟩), .int .i64 0]) ∧ QiIsQ w' (w.heap.size + 1) w.heap.size n [] ∧ Below w.heap.size w w' ∧ w'.heap.size = w.heap.size + 1 + 1 := by
  have hm := qi_mk n h2
  have t1 : decide ((n : Int) < 1) = false := decide_eq_false (by omega)
  have t2 : decide ((4096 : Int) < (n : Int)) = false := decide_eq_false (by omega)
  go_enter Try.func15, Try.ntmps15
  go_wp2
  go_ret2
  refine ⟨rfl, ⟨?_, 0, 0, ?_⟩, ((Below.refl _ w).alloc (Nat.le_refl _) _).alloc (by simp) _, by simp⟩
  · have := heap_alloc_new (w.alloc (.chan n #[] false 0 0 false)) (.cells #[.chan (some w.heap.size)] 85)
    rwa [World.size_alloc] at this
  · exact (((Below.refl (w.alloc (.chan n #[] false 0 0 false)).heap.size (w.alloc (.chan n #[] false 0 0 false))).alloc (Nat.le_refl _) (.cells #[.chan (some w.heap.size)] 85)).block w.heap.size (by simp)).trans (heap_alloc_new w _)
set_option maxRecDepth 100000 in
set_option maxHeartbeats 400000 in
theorem qi_new_no (n : Int) (w : World) (h : n < 1 ∨ 4096 < n) :
    Calls Try.prog 15 #[.int .i64 n] w fun e w' => e = .returned (.tuple #[.pointer none, .int .i64 13]) ∧ w = w' := by
  rcases h with h | h
  · have t1 : decide (n < 1) = true := decide_eq_true h
    go_enter Try.func15, Try.ntmps15
    go_wp2
    go_ret2
    exact ⟨rfl, rfl⟩
  · have t1 : decide (n < 1) = false := decide_eq_false (by omega)
    have t2 : decide (4096 < n) = true := decide_eq_true h
    go_enter Try.func15, Try.ntmps15
    go_wp2
    go_ret2
    exact ⟨rfl, rfl⟩
end Go.Proofs.Ytogijlpclceanaa
