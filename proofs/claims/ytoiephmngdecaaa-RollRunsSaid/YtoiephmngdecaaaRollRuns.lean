/- Proved here: the given statement RollRuns, for every input. -/
import Derived.Test.YtoiephmngdecaaaKaa
import Derived.Test.YtoiephmngdecaaaKab
import Derived.Test.YtoiephmngdecaaaKac
import Derived.Test.YtoiephmngdecaaaKad
import Derived.Test.YtoiephmngdecaaaKae
import Derived.Test.YtoiephmngdecaaaKaf
import Derived.Test.YtoiephmngdecaaaKag
import Derived.Test.YtoiephmngdecaaaKah
import Derived.Test.YtoiephmngdecaaaKai
import Derived.Test.YtoiephmngdecaaaKaj
import Derived.Test.YtoiephmngdecaaaKak
import Derived.Test.YtoiephmngdecaaaKal
import Derived.Test.YtoiephmngdecaaaKam
import Derived.Test.YtoiephmngdecaaaKan
import Derived.Test.YtoiephmngdecaaaKao
import Derived.Test.YtoiephmngdecaaaKap
import Derived.Test.YtoiephmngdecaaaKaq
import Derived.Test.YtoiephmngdecaaaKar
import Derived.Test.YtoiephmngdecaaaKas
import Derived.Test.YtoiephmngdecaaaKat
import Derived.Test.YtoiephmngdecaaaKau
import Derived.Test.YtoiephmngdecaaaKav
import Derived.Test.YtoiephmngdecaaaKaw
import Derived.Test.YtoiephmngdecaaaKax
import Derived.Test.YtoiephmngdecaaaKay
import Derived.Test.YtoiephmngdecaaaKaz
import Derived.Test.YtoiephmngdecaaaKba
import Derived.Test.YtoiephmngdecaaaKbb
import Derived.Test.YtoiephmngdecaaaKbc
import Derived.Test.YtoiephmngdecaaaKbd
import Derived.Test.YtoiephmngdecaaaKbe
import Derived.Test.YtoiephmngdecaaaKbf
import Derived.Test.YtoiephmngdecaaaKbg
import Derived.Test.YtoiephmngdecaaaKbh
import Derived.Test.YtoiephmngdecaaaRows
import Derived.WalkKit
import Derived.ProofKit
import Derived.OpenShut
import Derived.ShutString
import Derived.Below
import Derived.ChangeOld
namespace Go.Proofs.Ytoiephmngdecaaa.rollRuns
open Go.ChangeShapes Go.WideShapes Go.ChangeAt Go.RowKit Go.Rv
set_option linter.unusedVariables false

theorem own : ownKnob Try.prog.godebug = none := by kernel_rfl
theorem laidOut : laidOutB Try.prog = true := by kernel_rfl

set_option maxRecDepth 100000 in
theorem walk (base : Nat) (v0 : Value) (v1 : Value) (a2 : Int) (a3 : Int) (v4 : Value) (w : World) (o0 : Value.okWide Try.prog w .any base 23 v0) (k0 : Fits Try.prog w 6 23 v0.cells.toList) (o1 : Value.okWide Try.prog w .any base 24 v1) (k1 : Fits Try.prog w 6 24 v1.cells.toList) (w2 : (Lit.int .i64 a2).wf = true) (w3 : (Lit.int .i64 a3).wf = true) (o4 : Value.okWide Try.prog w .any base 25 v4) (k4 : Fits Try.prog w 6 25 v4.cells.toList) :
    Calls Try.prog 3 #[v0, v1, .int .i64 a2, .int .i64 a3, v4] w fun e w' => e = .returned (.bool true) ∧ Below w.heap.size w w' := by
  obtain ⟨g, rfl, -⟩ := geo_of_fits k0
  obtain ⟨a, len, cap, rfl⟩ := okWide_slice Try.underlying24 o1
  obtain ⟨xs, rfl, hI, -, -, -⟩ := items17_of_fits k1
  obtain ⟨b, len2, cap2, rfl⟩ := okWide_slice Try.underlying25 o4
  obtain ⟨ys, rfl, hJ, -, -, -⟩ := founds_of_fits k4
  exact roll_runs_walk w g a xs cap a2 a3 b ys cap2 hI hJ

set_option maxRecDepth 100000 in
theorem lifted (os : Os) (started : os.Started) (H : Type) (enc : TypeId × Value → H) :
    ReturnsInHanded {} Try.checked os 3 .any (Rows.rollRunsSpec.pre6 enc Try.prog Try.f3 Rows.rollRunsRow.domain false) (Rows.rollRunsSpec.post enc Try.prog Try.f3 false true false false) := by
  refine returnsInHanded_of_change (C := Try.checked) own started (by kernel_rfl) Try.func3
    (ChangeSpec.witness6 (enc := enc) (C := Try.checked) false ⟨#[], #[.agg #[.int .i64 0, .int .i64 0, .int .i64 0, .int .i64 0, .int .i64 0, .int .i64 0], .slice none 0 0, .int .i64 0, .int .i64 0, .slice none 0 0], []⟩ 12 (by kernel_rfl) (by kernel_rfl) (by kernel_rfl) (by kernel_rfl)) ?_
  intro W base args ds gs before hval0 hW hcnd _
  have hval : ∀ (j : Nat) t v, Try.f3.params[j]? = some t → args[j]? = some v → Value.okWide Try.prog W .any base t v := hval0
  have hW' := hW
  obtain ⟨p, q, hA0, hV, rfl, hfz, hnd⟩ := hW
  have hA : DataW.TrodAll enc Try.prog W 0 (fun _ => true) true Try.f3.params.toList args.toList ds p := hA0
  rw [Try.params3] at hA hval
  obtain ⟨v0, vs0, d0, ds0, p0, q0, hargs, rfl, rfl, h0, r0⟩ := trodAll_cons hA
  obtain ⟨v1, vs1, d1, ds1, p1, q1, rfl, rfl, rfl, h1, r1⟩ := trodAll_cons r0
  obtain ⟨v2, vs2, d2, ds2, p2, q2, rfl, rfl, rfl, h2, r2⟩ := trodAll_cons r1
  obtain ⟨v3, vs3, d3, ds3, p3, q3, rfl, rfl, rfl, h3, r3⟩ := trodAll_cons r2
  obtain ⟨v4, vs4, d4, ds4, p4, q4, rfl, rfl, rfl, h4, r4⟩ := trodAll_cons r3
  obtain ⟨rfl, rfl, rfl⟩ := trodAll_nil r4
  obtain rfl : args = #[v0, v1, v2, v3, v4] := by cases args; simp_all
  obtain ⟨rfl, rfl⟩ := trodVars_none hV
  have k0 := h0
  have lt0 : ∀ x ∈ p0, x.block < W.heap.size := by obtain ⟨m, hm⟩ := k0; exact DataW.trod_lt m _ _ _ hm
  have o0 : Value.okWide Try.prog W .any base 23 v0 := hval 0 23 v0 rfl rfl
  have k1 := h1
  have lt1 : ∀ x ∈ p1, x.block < W.heap.size := by obtain ⟨m, hm⟩ := k1; exact DataW.trod_lt m _ _ _ hm
  have o1 : Value.okWide Try.prog W .any base 24 v1 := hval 1 24 v1 rfl rfl
  obtain ⟨a2, rfl, rfl, rfl, w2⟩ := open_int Try.underlying3 (hval 2 3 v2 rfl rfl) h2
  obtain ⟨a3, rfl, rfl, rfl, w3⟩ := open_int Try.underlying3 (hval 3 3 v3 rfl rfl) h3
  have k4 := h4
  have lt4 : ∀ x ∈ p4, x.block < W.heap.size := by obtain ⟨m, hm⟩ := k4; exact DataW.trod_lt m _ _ _ hm
  have o4 : Value.okWide Try.prog W .any base 25 v4 := hval 4 25 v4 rfl rfl
  clear hA0 hval0
  refine (walk base v0 v1 a2 a3 v4 W o0 (Go.Rv.fits_of_Trod 6 k0) o1 (Go.Rv.fits_of_Trod 6 k1) w2 w3 o4 (Go.Rv.fits_of_Trod 6 k4)).mono fun e W' ⟨he, bel⟩ => ?_
  subst he
  exact ⟨_, rfl, _, _, _, [], _, [], hW', trodAll_mk1 (shut_bool Try.underlying4 _), (trodAll_cons_mk (Below.trod laidOut (by kernel_rfl) (of_decide_eq_true (by kernel_rfl)) k0 bel lt0) (trodAll_cons_mk (Below.trod laidOut (by kernel_rfl) (of_decide_eq_true (by kernel_rfl)) k1 bel lt1) (trodAll_cons_mk (shut_int Try.underlying3 w2) (trodAll_cons_mk (shut_int Try.underlying3 w3) (trodAll_cons_mk (Below.trod laidOut (by kernel_rfl) (of_decide_eq_true (by kernel_rfl)) k4 bel lt4) trodAll_mk0))))), rfl, bel.frame _, fun h => by cases h⟩

theorem over : Rows.rollRunsRow.holds Try.pinned (OpenSpec.ofChange Rows.rollRunsSpec) :=
  OpenClaim.holds_of_wide 3 Try.f3 rfl rfl rfl rfl rfl rfl rfl ⟨rfl, rfl, rfl, rfl, rfl⟩ rfl rfl rfl rfl rfl (by kernel_rfl) Try.func3 (by kernel_rfl)
    (of_decide_eq_true (by kernel_rfl)) (by unfold Func.isWrapper; first | (rw [if_pos (by decide +kernel)]; kernel_rfl) | (rw [if_neg (by decide +kernel)]; exact ⟨rfl, rfl⟩))
    (fun os started H enc _ => lifted os started H enc)

theorem proved : Rows.RollRunsSaid := over
end Go.Proofs.Ytoiephmngdecaaa.rollRuns
