/- Laws over any program: an operation of a region whose guard says no, or is itself left out. -/
import Derived.Test.YtogijlpclceanaaConf2
namespace Go.Rv
open Go.RowKit
theorem wpList_guard_un {P : Program} {ops : Array Oper} {Q : Exit → Act → World → Prop} {dst : Option Tmp} {op : Op} {type : TypeId} {pos : String} {after : Array Edge} {g : Nat} {b : Bool} {a : Act} {w : World}
    (hy : (yielded ops a.tmps g == some b) = false) (h : Q .normal (a.put dst undef) w) : wpList P ops Q [⟨dst, op, type, pos, after, some (g, b)⟩] a w := by
  have hw : Region.wanted (⟨dst, op, type, pos, after, some (g, b)⟩ : Oper) (yielded ops a.tmps) = false := by simp only [Region.wanted]; exact hy
  simp only [wpList, hw, Bool.false_eq_true, if_false]
  exact h
end Go.Rv
