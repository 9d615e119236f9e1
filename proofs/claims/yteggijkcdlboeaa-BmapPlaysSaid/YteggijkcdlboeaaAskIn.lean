/- Laws over any program: whole rows stored, and compared, inside a round. -/
import Derived.Test.YteggijkcdlboeaaConfIn
namespace Go.Rv
open Go.RowKit
set_option linter.unusedVariables false
theorem wpListIn_skips {F : Fence} {m : Nat} {P : Program} {ops : Array Oper} {rest : List Oper} {o : Oper} {a : Act} {w w' : World} {Q : Exit → Act → World → Prop} (hgd : Region.wanted o (yielded ops a.tmps) = true) (hab : o.about P w a.eval = none)
    (hr : (o.semAt F.round a.eval).run P w = .ok .skip w') (h : wpListIn F m P ops Q rest (a.put o.dst undef) w') : wpListIn F m P ops Q (o :: rest) a w := by
  unfold wpListIn
  rw [if_pos hgd]
  refine ⟨fun f hf => (by rw [hab] at hf; cases hf), ?_⟩
  rw [hr]
  exact h
theorem wpListIn_store_row {F : Fence} {m : Nat} {P : Program} {ops : Array Oper} {rest : List Oper} {o : Oper} {a : Act} {w : World} {Q : Exit → Act → World → Prop} (hgd : Region.wanted o (yielded ops a.tmps) = true) (ty : TypeId) (x y : Operand) (ho : o.op = .store ty x y)
    (g : Nat) (cells : Array Value) (hx : a.eval x = .pointer (some ⟨g, 0, none⟩)) (hy : a.eval y = .agg cells)
    (t : TypeId) (old : Array Value) (hg : w.heap[g]? = some (.cells old t (0, 0))) (hi : (P.info? ty).map (·.size) = some cells.size)
    (hold : old.size = cells.size) (h1 : cells.all (·.oneCell') = true)
    (h : wpListIn F m P ops Q rest (a.put o.dst undef) (w.setRow g cells)) : wpListIn F m P ops Q (o :: rest) a w := by
  refine wpListIn_skips hgd ?_ ?_ h
  · unfold Oper.about
    rw [ho]
  · have hl := run_storeVar_row w g t ty old cells hg hi hold h1
    cases hr : F.round <;> simp [Oper.semAt, ho, execOp, hx, hy, Instr.storeAt, Instr.sureAddr, Sem.run_bind, Sem.run_pure, Result.andThen_ok, hl]
theorem wpListIn_neq_on {F : Fence} {m : Nat} {P : Program} {ops : Array Oper} {rest : List Oper} {o : Oper} {a : Act} {w : World} {Q : Exit → Act → World → Prop} (hgd : Region.wanted o (yielded ops a.tmps) = true) (ty ty2 : TypeId) (x y : Operand) (ho : o.op = .binOp .neq ty x y ty2)
    (xs ys : Array Value) (hx : a.eval x = .agg xs) (hy : a.eval y = .agg ys) (hm : P.eqGuardType P.depth ty = false) (r : Bool) (hr : ∀ w, (Op.equalIn 10000 ty (.agg xs) (.agg ys)).run P w = .ok r w)
    (h : wpListIn F m P ops Q rest (a.put o.dst (.bool (!r))) w) : wpListIn F m P ops Q (o :: rest) a w := by
  refine wpListIn_yields hgd (.bool (!r)) ?_ ?_ h
  · unfold Oper.about
    rw [ho]
  · have h1 := run_eqGuard_agg (P := P) w .neq ty x y xs ys hm
    have h2 := run_neq_struct (P := P) w ty xs ys
    rw [hr w] at h2
    cases hro : F.round <;> simp only [Oper.semAt, execOp, ho, hx, hy, Sem.run_bind, Sem.run_pure, h1, h2, Result.andThen_ok]
end Go.Rv
