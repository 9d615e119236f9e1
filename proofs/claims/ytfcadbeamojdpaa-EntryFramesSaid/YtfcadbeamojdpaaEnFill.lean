/- Proved here: the contract of the entry's Fill. -/
import Derived.Test.YtfcadbeamojdpaaEnBody
import Derived.LoopTactic
namespace Go.Proofs.Ytfcadbeamojdpaa
open Go.RowKit Go.Rv
set_option linter.unusedVariables false
/-- k bytes are filled -/
def filled (x k : Nat) : List Nat := List.replicate k x ++ List.replicate (32 - k) 0
theorem filled_length (x k : Nat) (h : k ≤ 32) : (filled x k).length = 32 := by simp [filled]; omega
theorem filled_set (x k : Nat) (h : k < 32) : (filled x k).set k x = filled x (k + 1) := by
  unfold filled
  rw [List.set_append_right _ _ (by simp), List.length_replicate, Nat.sub_self, show 32 - k = (32 - (k + 1)) + 1 by omega, List.replicate_succ, List.set_cons_zero, List.replicate_succ', List.append_assoc]
  rfl
theorem filled_all (x : Nat) : filled x 32 = List.replicate 32 x := by simp [filled]
theorem size_blk {l : List Nat} (h : l.length = 32) : (Try.prog.info? 53).map (·.size) = some (byteCells l).size := by rw [size_byteCells, h]; exact (zero_of_info Try.infoBlock).2
theorem results_row1 {P : Program} {fn : Func} {p : Tmp} {ty : TypeId} (h : fn.results = #[.cell p ty]) (tmps : Array Value) (w : World) (g : Nat) (t : TypeId) (cs : Array Value) (fr : Nat × Nat) (d : TypeDesc)
    (hp : tmps.getD p undef = .pointer (some ⟨g, 0, none⟩)) (hg : w.heap[g]? = some (.cells cs t fr))
    (hu : P.underlying ty = some d) (hd : (match d with | .struct _ | .array _ _ => true | _ => false) = true) (hi : (P.info? ty).map (·.size) = some cs.size) :
    (results fn tmps).run P w = .ok (.agg cs) w := by
  have hp' : tmps[p]?.getD undef = .pointer (some ⟨g, 0, none⟩) := by simpa using hp
  simp [results, h, hp', asAddr, run_loadVar_row w g t ty cs fr d hg hu hd hi]
set_option maxRecDepth 100000 in
set_option maxHeartbeats 2000000 in
theorem efill_any (x : Nat) (w : World) (hx : x < 256) :
    Calls Try.prog 31 #[.int .u8 (x : Nat)] w fun e w' => e = .returned (.agg (byteCells (List.replicate 32 x))) ∧ Below w.heap.size w w' := by
  have hz := (zero_of_info Try.infoBlock).1
  have hone := one_byteCells (List.replicate 32 x)
  have HI := Lib.hid (size_blk (l := List.replicate 32 x) (by simp))
  have HZ0 := Lib.hid (show byteCells (List.replicate 32 0) = byteCells (filled x 0) by simp [filled])
  obtain ⟨Z, hZ⟩ : ∃ Z, byteCells (List.replicate 32 0) = Z := ⟨_, rfl⟩
  have HZS : Hid (Z.size = (byteCells (List.replicate 32 x)).size) := Lib.hid (by rw [← hZ]; simp [size_byteCells])
  rw [hZ] at hz HZ0
  clear hZ
  have hB0 := ((Below.refl w.heap.size w).alloc (Nat.le_refl _) (.cells Z 53)).alloc (by simp) (.cells Z 53)
  have hR0 := heap_alloc2_old w (.cells Z 53) (.cells Z 53)
  have hG0 := heap_alloc2_new w (.cells Z 53) (.cells Z 53)
  have z0 : ((w.alloc (.cells Z 53)).alloc (.cells Z 53)).heap.size = w.heap.size + 1 + 1 := by simp
  go_enter Try.func31, Try.ntmps31
  go_wp2
  obtain ⟨W0, hW0⟩ : ∃ W0, (w.alloc (.cells Z 53)).alloc (.cells Z 53) = W0 := ⟨_, rfl⟩
  rw [hW0] at hB0 hR0 hG0 z0 ⊢
  clear hW0
  go_loopw [5] (fun i wr => ∃ k : Nat, k ≤ 32 ∧ i = .int .i64 k ∧ wr.heap[w.heap.size + 1]? = some (.cells (byteCells (filled x k)) 53 (0, 0)) ∧ Only [w.heap.size + 1] W0 wr) (fun i _ => 32 - (intOf i).toNat)
  case atStart => exact ⟨0, by omega, rfl, by rw [← HZ0.out]; exact hG0, Only.refl _ _⟩
  case round =>
    obtain ⟨k, hk, rfl, hg, hO⟩ := hrel
    by_cases hlt : k < 32
    · have hl := filled_length x k hk
      have hc : wr.cell? ⟨w.heap.size + 1, k, none⟩ = some (.int .u8 ((filled x k).getD k 0 : Nat)) := (cell_of_row _ _ _ _ _ _ hg).trans (byteCells_at _ _ (by omega))
      have hf : wr.frozen? ⟨w.heap.size + 1, k, none⟩ = false := frozen_of_row _ _ _ _ _ hg
      have H := Lib.hid (show (wr.setCell ⟨w.heap.size + 1, k, none⟩ (.int .u8 (x : Nat))).heap[w.heap.size + 1]? = some (.cells (byteCells (filled x (k + 1))) 53 (0, 0)) by
        rw [heap_setCell_same _ _ _ _ _ _ hg, byteCells_set, filled_set x k hlt])
      clear hg hl
      go_wp2
      go_roundw
      case rel => exact ⟨k + 1, by omega, by go_num, H.out, hO.setCell (.inl (by simp)) _⟩
      case measure => simp [intOf]; omega
    · obtain rfl : k = 32 := by omega
      rw [filled_all] at hg
      have hR := (hO.block w.heap.size (by omega) (by simp)).trans hR0
      have hB := hB0.trans (hO.below (B := w.heap.size) (by simp) (by omega))
      clear hR0 hG0
      go_wp2_with (first | (refine wpList_load_row rfl 53 _ rfl (w.heap.size + 1) rfl 53 _ _ _ hg Try.underlying53 rfl HI.out ?_) | (refine wpList_store_row rfl 53 _ _ rfl w.heap.size (byteCells (List.replicate 32 x)) rfl rfl 53 Z hR HI.out HZS.out hone ?_))
      refine bodyPost_ret (results_row1 rfl _ _ w.heap.size 53 (byteCells (List.replicate 32 x)) _ _ rfl (setRow_heap _ _ _ _ _ _ hR) Try.underlying53 rfl HI.out) rfl ?_
      exact ⟨rfl, below_setRow hB (by omega) _⟩
end Go.Proofs.Ytfcadbeamojdpaa
