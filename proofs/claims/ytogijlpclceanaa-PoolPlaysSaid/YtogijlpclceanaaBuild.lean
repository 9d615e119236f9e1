/- Laws over any program: a struct that is built out of its parts, whatever they are; where a guard asks for it, or there is none. -/
import Derived.Test.YtogijlpclceanaaKit2
import Derived.Laws.Tables
namespace Go.Rv
open Go.RowKit
theorem wpList_build_on {P : Program} {ops : Array Oper} {rest : List Oper} {o : Oper} {a : Act} {w : World} {Q : Exit → Act → World → Prop} (hgd : Region.wanted o (yielded ops a.tmps) = true) (ty : TypeId) (parts : Array (Nat × Operand)) (ho : o.op = .build ty parts)
    (ps : Array (Nat × Value)) (hp : parts.map (fun (i, x) => (i, a.eval x)) = ps) (cells : Array Value) (hr : P.built ty ps.toList = some cells)
    (h : wpList P ops Q rest (a.put o.dst (.agg cells)) w) : wpList P ops Q (o :: rest) a w := by
  unfold wpList
  rw [if_pos hgd]
  refine .inl ?_
  unfold Oper.wp execOp
  have h1 := run_build (P := P) w ty ps cells hr
  simp only [ho, hp, Sem.run_bind, Sem.run_pure, h1, Result.andThen_ok]
  exact h
end Go.Rv
