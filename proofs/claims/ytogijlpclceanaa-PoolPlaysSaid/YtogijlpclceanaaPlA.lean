/- Proved here: contracts of the pool's Count, Take, fullest, Pairs, Pair. -/
import Derived.Test.YtogijlpclceanaaPl
namespace Go.Proofs.Ytogijlpclceanaa
open Go.Conc Go.RowKit Go.Rv Go.Shelf
set_option linter.unusedVariables false
attribute [local go_sem] Oper.semAt_some
open PoolM (dl cnt Ok less)
theorem PoolIs.len8 {w : World} {P : PR} {L : List Int} (h : PoolIs w P L) : 3 ≤ P.qc.length ∧ P.qc.length ≤ 8 := by
  have h1 := h.small.1
  have h2 := h.len
  omega
set_option maxRecDepth 100000 in
set_option maxHeartbeats 1000000 in
theorem pcount_in (w : World) (P : PR) (L : List Int) (h : PoolIs w P L) (k : Nat) (hk : k < P.qc.length) :
    Calls Try.prog 33 #[.pointer (some ⟨P.p, 0, none⟩), .int .i64 (k : Nat)] w fun e w' => e = .returned (.int .i64 (cnt P.g.z L k : Nat)) ∧ w = w' := by
  obtain ⟨q, c, hq⟩ := h.at hk
  have HL := Lib.hid (q_len w q c _ _ (h.que k q c hq))
  have c6 := h.cells
  have cp := h.pcell hq
  have h8 := h.len8
  have t1 : decide ((k : Int) < 0) = false := decide_eq_false (by omega)
  have t2 : decide ((P.qc.length : Int) ≤ (k : Int)) = false := decide_eq_false (by omega)
  clear h
  go_enter Try.func33, Try.ntmps33
  go_wp2_with fail
  refine HL.out.mono ?_
  rintro e w' ⟨rfl, rfl⟩
  go_wp2
  go_ret
  exact ⟨rfl, rfl⟩
set_option maxRecDepth 100000 in
set_option maxHeartbeats 1000000 in
theorem pcount_out (w : World) (P : PR) (L : List Int) (h : PoolIs w P L) (d : Int) (hd : d < 0 ∨ (P.qc.length : Int) ≤ d) :
    Calls Try.prog 33 #[.pointer (some ⟨P.p, 0, none⟩), .int .i64 d] w fun e w' => e = .returned (.int .i64 0) ∧ w = w' := by
  have c6 := h.cells
  have h8 := h.len8
  clear h
  by_cases h0 : d < 0
  · have t1 : decide (d < 0) = true := decide_eq_true h0
    go_enter Try.func33, Try.ntmps33
    go_wp2
    go_ret
    exact ⟨rfl, rfl⟩
  · have t1 : decide (d < 0) = false := decide_eq_false h0
    have t2 : decide ((P.qc.length : Int) ≤ d) = true := decide_eq_true (by omega)
    go_enter Try.func33, Try.ntmps33
    go_wp2
    go_ret
    exact ⟨rfl, rfl⟩
set_option maxRecDepth 100000 in
set_option maxHeartbeats 1000000 in
theorem ptake_out (w : World) (P : PR) (L : List Int) (h : PoolIs w P L) (d : Int) (hd : d < 0 ∨ (P.qc.length : Int) ≤ d) :
    Calls Try.prog 32 #[.pointer (some ⟨P.p, 0, none⟩), .int .i64 d] w fun e w' => e = .returned (.tuple #[.int .i64 0, .int .i64 13]) ∧ w = w' := by
  have c6 := h.cells
  have h8 := h.len8
  clear h
  by_cases h0 : d < 0
  · have t1 : decide (d < 0) = true := decide_eq_true h0
    go_enter Try.func32, Try.ntmps32
    go_wp2
    go_ret2
    exact ⟨rfl, rfl⟩
  · have t1 : decide (d < 0) = false := decide_eq_false h0
    have t2 : decide ((P.qc.length : Int) ≤ d) = true := decide_eq_true (by omega)
    go_enter Try.func32, Try.ntmps32
    go_wp2
    go_ret2
    exact ⟨rfl, rfl⟩
set_option maxRecDepth 100000 in
set_option maxHeartbeats 1000000 in
theorem ptake_none (w : World) (P : PR) (L : List Int) (h : PoolIs w P L) (k : Nat) (hk : k < P.qc.length) (h0 : dl P.g.z L k = []) :
    Calls Try.prog 32 #[.pointer (some ⟨P.p, 0, none⟩), .int .i64 (k : Nat)] w fun e w' => e = .returned (.tuple #[.int .i64 0, .int .i64 15]) ∧ w = w' := by
  obtain ⟨q, c, hq⟩ := h.at hk
  have HT := Lib.hid (qi_take_none w q c P.g.z.toNat (by have := h.que k q c hq; rwa [h0] at this))
  have c6 := h.cells
  have cp := h.pcell hq
  have h8 := h.len8
  have t1 : decide ((k : Int) < 0) = false := decide_eq_false (by omega)
  have t2 : decide ((P.qc.length : Int) ≤ (k : Int)) = false := decide_eq_false (by omega)
  clear h
  go_enter Try.func32, Try.ntmps32
  go_wp2_with fail
  refine HT.out.mono ?_
  rintro e w' ⟨rfl, rfl⟩
  go_wp2
  go_ret2
  exact ⟨rfl, rfl⟩
set_option maxRecDepth 100000 in
set_option maxHeartbeats 1000000 in
theorem ptake_some (w : World) (P : PR) (L : List Int) (h : PoolIs w P L) (k : Nat) (hk : k < P.qc.length) (x : Int) (t : List Int) (h0 : dl P.g.z L k = x :: t) :
    Calls Try.prog 32 #[.pointer (some ⟨P.p, 0, none⟩), .int .i64 (k : Nat)] w fun e w' => e = .returned (.tuple #[.int .i64 x, .int .i64 0]) ∧ PoolIs w' P (less L x) ∧ Only P.cs w w' := by
  obtain ⟨q, c, hq⟩ := h.at hk
  have hque := h.que k q c hq
  rw [h0] at hque
  have HT := Lib.hid (qi_take_some w q c P.g.z.toNat (.int .i64 x) (iV t) hque)
  have c6 := h.cells
  have cp := h.pcell hq
  have h8 := h.len8
  have t1 : decide ((k : Int) < 0) = false := decide_eq_false (by omega)
  have t2 : decide ((P.qc.length : Int) ≤ (k : Int)) = false := decide_eq_false (by omega)
  have hx : x ∈ dl P.g.z L k := by rw [h0]; simp
  have hxk := (PoolM.dl_mem.1 hx).2
  have HH := Lib.hid (fun (w' : World) (h1 : QiIsQ w' q c P.g.z.toNat (iV t)) (h2 : Only [c] w w') => h.set (L' := less L x) hq (by rw [PoolM.dl_less_first h.ok.nd h0]; exact h1) h2 (h.ok.filter _) (fun j hj => PoolM.dl_less_ne (by rw [hxk]; omega)))
  have HC := Lib.hid (PR.c_mem hq)
  clear h hque hx hxk
  go_enter Try.func32, Try.ntmps32
  go_wp2_with fail
  refine HT.out.mono ?_
  rintro e w' ⟨rfl, hq', hO⟩
  have hP := HH.out w' hq' hO
  have hO' := Only.cs1 hO HC.out
  go_wp2
  go_ret2
  exact ⟨rfl, hP, hO'⟩
end Go.Proofs.Ytogijlpclceanaa
