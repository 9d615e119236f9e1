/- Proved here: contracts of the queue's Len and Room, and of the document's example of a queue. -/
import Derived.Test.YtogijlpclceanaaQInt
namespace Go.Proofs.Ytogijlpclceanaa
open Go.Conc Go.RowKit Go.Rv
set_option linter.unusedVariables false
set_option maxRecDepth 100000 in
set_option maxHeartbeats 400000 in
theorem qi_len (w : World) (q c cap : Nat) (l : List Value) (h : QiIsQ w q c cap l) :
    Calls Try.prog 18 #[.pointer (some ⟨q, 0, none⟩)] w fun e w' => e = .returned (.int .i64 (l.length : Nat)) ∧ w = w' := by
  obtain ⟨s, r, hch⟩ := h.2
  have hcell := cell_of_one h.1
  have hlen := fun ty => run_len_chan (P := Try.prog) 83 ty Try.underlying83 hch
  go_enter Try.func18, Try.ntmps18
  go_wp2
  go_ret
  exact ⟨rfl, rfl⟩
set_option maxRecDepth 100000 in
set_option maxHeartbeats 1000000 in
theorem q_anchor (w : World) : Calls Try.prog 11 #[] w fun e w' => e = .returned (.bool true) ∧ Below w.heap.size w w' := by
  have HN := Lib.hid (fun W => qi_new 4 W (by omega) (by omega))
  have HP1 := Lib.hid (fun W q c (h : QiIsQ W q c 4 []) => qi_put_room W q c 4 [] (.int .i64 1) h (by simp))
  have HP2 := Lib.hid (fun W q c (h : QiIsQ W q c 4 ([] ++ [.int .i64 1])) => qi_put_room W q c 4 _ (.int .i64 2) h (by simp))
  have HT := Lib.hid (fun W q c (h : QiIsQ W q c 4 [.int .i64 1, .int .i64 2]) => qi_take_some W q c 4 _ _ h)
  have HL := Lib.hid (fun W q c (h : QiIsQ W q c 4 [.int .i64 2]) => qi_len W q c 4 _ h)
  go_enter Try.func11, Try.ntmps11
  go_wp2_with fail
  refine (HN.out _).mono ?_
  rintro e w1 ⟨rfl, hQ1, hB1, z1⟩
  have HQ1 := Lib.hid hQ1
  clear hQ1
  go_wp2_with fail
  refine (HP1.out _ _ _ HQ1.out).mono ?_
  rintro e w2 ⟨rfl, hQ2, hO2⟩
  have HQ2 := Lib.hid hQ2
  clear hQ2
  go_wp2_with fail
  refine (HP2.out _ _ _ HQ2.out).mono ?_
  rintro e w3 ⟨rfl, hQ3, hO3⟩
  have HQ3 := Lib.hid hQ3
  clear hQ3
  go_wp2_with fail
  refine (HT.out _ _ _ HQ3.out).mono ?_
  rintro e w4 ⟨rfl, hQ4, hO4⟩
  have HQ4 := Lib.hid hQ4
  clear hQ4
  go_wp2_with fail
  refine (HL.out _ _ _ HQ4.out).mono ?_
  rintro e w5 ⟨rfl, rfl⟩
  have hB := hB1.trans ((((hO2.trans hO3).trans hO4).below (B := w.heap.size) (by simp) (by omega)))
  go_wp2
  go_ret
  exact ⟨rfl, hB⟩
end Go.Proofs.Ytogijlpclceanaa
