/- Regions that only read: whole rows loaded, and compared, in the one walk that serves every order. -/
import Derived.Test.YtfcadbeamojdpaaEq
import Derived.Deep.QuietTactic
import Derived.BigQuiet
namespace Go.Rv
open Go.RowKit
theorem wpQuiet_load_row {P : Program} {ops : Array Oper} {C : World → Prop} {Q : Act → Prop} {rest : List Oper} {o : Oper} {a : Act} (hgd : Region.wanted o (yielded ops a.tmps) = true) (ty : TypeId) (x : Operand) (ho : o.op = .load ty x)
    (g : Nat) (hx : a.eval x = .pointer (some ⟨g, 0, none⟩)) (t : TypeId) (cs : Array Value) (fr : Nat × Nat) (d : TypeDesc) (hg : ∀ w, C w → w.heap[g]? = some (.cells cs t fr))
    (hu : P.underlying ty = some d) (hd : (match d with | .struct _ | .array _ _ => true | _ => false) = true) (hi : (P.info? ty).map (·.size) = some cs.size)
    (h : wpQuiet P ops C Q rest (a.put o.dst (.agg cs))) : wpQuiet P ops C Q (o :: rest) a := by
  unfold wpQuiet
  rw [if_pos hgd]
  refine ⟨.agg cs, fun w hw => ?_, h⟩
  unfold Oper.quietAt execOp
  simp only [ho, hx, Instr.loadAt, Instr.sureAddr, Sem.run_bind, Sem.run_pure, Result.andThen_ok, run_loadVar_row w g t ty cs fr d (hg w hw) hu hd hi]
  exact ⟨rfl, rfl⟩
theorem wpQuiet_eql {P : Program} {ops : Array Oper} {C : World → Prop} {Q : Act → Prop} {rest : List Oper} {o : Oper} {a : Act} (hgd : Region.wanted o (yielded ops a.tmps) = true) (ty ty2 : TypeId) (x y : Operand) (ho : o.op = .binOp .eql ty x y ty2)
    (xs ys : Array Value) (hx : a.eval x = .agg xs) (hy : a.eval y = .agg ys) (hm : P.eqGuardType P.depth ty = false) (r : Bool) (hr : ∀ w, (Op.equalIn 10000 ty (.agg xs) (.agg ys)).run P w = .ok r w)
    (h : wpQuiet P ops C Q rest (a.put o.dst (.bool r))) : wpQuiet P ops C Q (o :: rest) a := by
  unfold wpQuiet
  rw [if_pos hgd]
  refine ⟨.bool r, fun w hw => ?_, h⟩
  unfold Oper.quietAt execOp
  have h1 := run_eqGuard_agg (P := P) w .eql ty x y xs ys hm
  have h2 := run_eql_struct (P := P) w ty xs ys
  rw [hr w] at h2
  simp only [ho, hx, hy, Sem.run_bind, Sem.run_pure, h1, h2, Result.andThen_ok]
  exact ⟨rfl, rfl⟩
end Go.Rv
