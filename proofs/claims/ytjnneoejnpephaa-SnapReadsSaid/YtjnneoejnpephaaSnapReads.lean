/- Proved here: the given statement SnapReads, for every input. -/
import Derived.Test.YtjnneoejnpephaaBa
import Derived.Test.YtjnneoejnpephaaBc
import Derived.Test.YtjnneoejnpephaaBn
import Derived.Test.YtjnneoejnpephaaBs
import Derived.Test.YtjnneoejnpephaaCSnapReads
import Derived.Test.YtjnneoejnpephaaRows
import Derived.WalkKit
import Derived.ProofKit
import Derived.OpenShut
import Derived.ShutString
import Derived.Below
import Derived.ChangeOld
namespace Go.Proofs.Ytjnneoejnpephaa.snapReads
open Go.ChangeShapes Go.WideShapes Go.ChangeAt Go.RowKit Go.Rv
set_option linter.unusedVariables false

theorem own : ownKnob Try.prog.godebug = none := by kernel_rfl
theorem laidOut : laidOutB Try.prog = true := by kernel_rfl

set_option maxRecDepth 100000 in
theorem walk (base : Nat) (v0 : Value) (w : World) (o0 : Value.okWide Try.prog w .any base 35 v0) (k0 : Fits Try.prog w 6 35 v0.cells.toList) :
    Calls Try.prog 5 #[v0] w fun e w' => e = .returned (.bool true) ∧ Below w.heap.size w w' := by
  obtain ⟨a, len, cap, rfl⟩ := okWide_slice Try.underlying35 o0
  obtain ⟨xs, rfl, hI, hc, hm, -⟩ := frames_of_fits k0
  exact sn_reads_walk w a xs cap hI hc hm

set_option maxRecDepth 100000 in
theorem lifted (os : Os) (started : os.Started) (H : Type) (enc : TypeId × Value → H) :
    ReturnsInHanded {} Try.checked os 5 .any (Rows.snapReadsSpec.pre6 enc Try.prog Try.f5 Rows.snapReadsRow.domain false) (Rows.snapReadsSpec.post enc Try.prog Try.f5 false true false false) := by
  refine returnsInHanded_of_change (C := Try.checked) own started (by kernel_rfl) Try.func5
    (ChangeSpec.witness6 (enc := enc) (C := Try.checked) false ⟨#[], #[.slice none 0 0], []⟩ 12 (by kernel_rfl) (by kernel_rfl) (by kernel_rfl) (by kernel_rfl)) ?_
  intro W base args ds gs before hval0 hW hcnd _
  have hval : ∀ (j : Nat) t v, Try.f5.params[j]? = some t → args[j]? = some v → Value.okWide Try.prog W .any base t v := hval0
  have hW' := hW
  obtain ⟨p, q, hA0, hV, rfl, hfz, hnd⟩ := hW
  have hA : DataW.TrodAll enc Try.prog W 0 (fun _ => true) true Try.f5.params.toList args.toList ds p := hA0
  rw [Try.params5] at hA hval
  obtain ⟨v0, vs0, d0, ds0, p0, q0, hargs, rfl, rfl, h0, r0⟩ := trodAll_cons hA
  obtain ⟨rfl, rfl, rfl⟩ := trodAll_nil r0
  obtain rfl : args = #[v0] := by cases args; simp_all
  obtain ⟨rfl, rfl⟩ := trodVars_none hV
  have k0 := h0
  have lt0 : ∀ x ∈ p0, x.block < W.heap.size := by obtain ⟨m, hm⟩ := k0; exact DataW.trod_lt m _ _ _ hm
  have o0 : Value.okWide Try.prog W .any base 35 v0 := hval 0 35 v0 rfl rfl
  clear hA0 hval0
  refine (walk base v0 W o0 (Go.Rv.fits_of_Trod 6 k0)).mono fun e W' ⟨he, bel⟩ => ?_
  subst he
  exact ⟨_, rfl, _, _, _, [], _, [], hW', trodAll_mk1 (shut_bool Try.underlying4 _), (trodAll_cons_mk (Below.trod laidOut (by kernel_rfl) (of_decide_eq_true (by kernel_rfl)) k0 bel lt0) trodAll_mk0), rfl, bel.frame _, fun h => by cases h⟩

theorem over : Rows.snapReadsRow.holds Try.pinned (OpenSpec.ofChange Rows.snapReadsSpec) :=
  OpenClaim.holds_of_wide 5 Try.f5 rfl rfl rfl rfl rfl rfl rfl ⟨rfl, rfl, rfl, rfl, rfl⟩ rfl rfl rfl rfl rfl (by kernel_rfl) Try.func5 (by kernel_rfl)
    (of_decide_eq_true (by kernel_rfl)) (by unfold Func.isWrapper; first | (rw [if_pos (by decide +kernel)]; kernel_rfl) | (rw [if_neg (by decide +kernel)]; exact ⟨rfl, rfl⟩))
    (fun os started H enc _ => lifted os started H enc)

theorem proved : Rows.SnapReadsSaid := over
end Go.Proofs.Ytjnneoejnpephaa.snapReads
