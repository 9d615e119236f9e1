/- Proved here: contracts of the pool's Pairs and Pair. -/
import Derived.Test.YtogijlpclceanaaPlFull
namespace Go.Proofs.Ytogijlpclceanaa
open Go.Conc Go.RowKit Go.Rv Go.Shelf
set_option linter.unusedVariables false
attribute [local go_sem] Oper.semAt_some
open PoolM (dl cnt Ok less IsBest pairs sumTo)
theorem sumTo_mono (c : Nat → Nat) {a b : Nat} (h : a ≤ b) : sumTo c a ≤ sumTo c b := by
  induction b with
  | zero =>
    obtain rfl : a = 0 := by omega
    exact Nat.le_refl _
  | succ b ih =>
    by_cases e : a = b + 1
    · subst e; exact Nat.le_refl _
    · have := ih (by omega)
      simp only [sumTo]
      omega
set_option maxRecDepth 100000 in
set_option maxHeartbeats 4000000 in
theorem ppairs_any (w : World) (P : PR) (L : List Int) (h : PoolIs w P L) :
    Calls Try.prog 34 #[.pointer (some ⟨P.p, 0, none⟩)] w fun e w' => ∃ a : Nat, a < P.qc.length ∧ (∀ j, j < P.qc.length → cnt P.g.z L j ≤ cnt P.g.z L a) ∧ e = .returned (.int .i64 (pairs L.length (cnt P.g.z L a) : Nat)) ∧ Below w.heap.size w w' := by
  have h8 := h.len8
  have c6 := h.cells
  have hln : L.length ≤ 512 := by
    have h1 := h.ok.len
    have h2 := h.small.2.1.2
    have h3 : P.qc.length * P.g.z.toNat ≤ 8 * 64 := Nat.mul_le_mul h8.2 (by omega)
    omega
  have HSUM := Lib.hid (h.ok.sum)
  have HH := Lib.hid h
  clear h
  go_enter Try.func34, Try.ntmps34
  go_wp2
  go_loopw [3, 11] (fun v i wr => ∃ (k : Nat), k ≤ P.qc.length ∧ i = .int .i64 k ∧ v = .int .i64 (sumTo (cnt P.g.z L) k : Nat) ∧ Below w.heap.size w wr) (fun _ i _ => P.qc.length - (intOf i).toNat)
  case atStart => exact ⟨0, Nat.zero_le _, rfl, rfl, Below.refl _ _⟩
  case round =>
    obtain ⟨k, hk, rfl, rfl, hB⟩ := hrel
    have hle := sumTo_mono (cnt P.g.z L) hk
    rw [show sumTo (cnt P.g.z L) P.qc.length = L.length from HSUM.out] at hle
    by_cases hlt : k < P.qc.length
    · have HW := Lib.hid (HH.out.below hB)
      obtain ⟨q, c, hq⟩ := HW.out.at hlt
      have cp := HW.out.pcell hq
      have HL := Lib.hid (q_len wr q c _ _ (HW.out.que k q c hq))
      have HS : Hid (sumTo (cnt P.g.z L) (k + 1) = sumTo (cnt P.g.z L) k + (dl P.g.z L k).length) := Lib.hid rfl
      have hle2 := sumTo_mono (cnt P.g.z L) (show k + 1 ≤ P.qc.length by omega)
      rw [show sumTo (cnt P.g.z L) P.qc.length = L.length from HSUM.out, HS.out] at hle2
      have HBW := Lib.hid hB
      clear hB
      generalize sumTo (cnt P.g.z L) k = sk at *
      generalize (dl P.g.z L k).length = dk at *
      go_wp2_with fail
      refine HL.out.mono ?_
      rintro e w' ⟨rfl, rfl⟩
      go_wp2
      go_roundw
      case rel => exact ⟨k + 1, by omega, by go_num, by rw [HS.out]; go_num, HBW.out⟩
      case measure => simp [intOf]; omega
    · obtain rfl : k = P.qc.length := by omega
      have HW := Lib.hid (HH.out.below hB)
      have HF := Lib.hid (pfull_any wr P L HW.out (-1))
      have HBW := Lib.hid hB
      rw [show sumTo (cnt P.g.z L) P.qc.length = L.length from HSUM.out]
      clear hB hle c6
      go_wp2_with fail
      refine HF.out.mono ?_
      rintro e w1 ⟨b, rfl, hb, hB1⟩
      obtain ⟨a, ha, rfl, -, hmax'⟩ := hb.some (by omega)
      have hmax : ∀ j, j < P.qc.length → cnt P.g.z L j ≤ cnt P.g.z L a := fun j hj => hmax' j hj (by omega)
      clear hmax'
      have HW1 := Lib.hid (HW.out.below hB1)
      have HC := Lib.hid (pcount_in w1 P L HW1.out a ha)
      have hca : cnt P.g.z L a ≤ L.length := by
        have := PoolM.sumTo_ge (c := cnt P.g.z L) ha
        rw [show sumTo (cnt P.g.z L) P.qc.length = L.length from HSUM.out] at this
        exact this
      have HM := Lib.hid hmax
      have HBB := Lib.hid (HBW.out.trans (hB1.mono HBW.out.size))
      clear hmax hb hB1
      go_wp2_with fail
      refine HC.out.mono ?_
      rintro e w2 ⟨rfl, rfl⟩
      have HR : Hid ((pairs L.length (cnt P.g.z L a) : Int) = min ((L.length : Int) / 2) ((L.length : Int) - (cnt P.g.z L a : Int))) := Lib.hid (by unfold pairs; omega)
      by_cases hmin : (L.length : Int) / 2 ≤ (L.length : Int) - (cnt P.g.z L a : Int)
      · have HR2 : Hid ((pairs L.length (cnt P.g.z L a) : Int) = (L.length : Int) / 2) := Lib.hid (by rw [HR.out]; omega)
        go_wp2
        go_ret
        exact ⟨a, ha, HM.out, by rw [HR2.out]; rfl, HBB.out⟩
      · have HR2 : Hid ((pairs L.length (cnt P.g.z L a) : Int) = (L.length : Int) - (cnt P.g.z L a : Int)) := Lib.hid (by rw [HR.out]; omega)
        go_wp2
        go_ret
        exact ⟨a, ha, HM.out, by rw [HR2.out]; rfl, HBB.out⟩
theorem ppairs_eq (w : World) (P : PR) (L : List Int) (h : PoolIs w P L) :
    Calls Try.prog 34 #[.pointer (some ⟨P.p, 0, none⟩)] w fun e w' => e = .returned (.int .i64 (PoolM.npairs P.qc.length P.g.z L : Nat)) ∧ Below w.heap.size w w' := by
  refine (ppairs_any w P L h).mono ?_
  rintro e w' ⟨a, ha, hm, rfl, hB⟩
  rw [PoolM.npairs_eq (by have := h.len8; omega) ha hm]
  exact ⟨rfl, hB⟩
theorem pfull_eq (w : World) (P : PR) (L : List Int) (h : PoolIs w P L) (but : Int) :
    Calls Try.prog 49 #[.pointer (some ⟨P.p, 0, none⟩), .int .i64 but] w fun e w' => e = .returned (.int .i64 (PoolM.bestF P.qc.length (cnt P.g.z L) but)) ∧ Below w.heap.size w w' := by
  refine (pfull_any w P L h but).mono ?_
  rintro e w' ⟨b, rfl, hb, hB⟩
  rw [PoolM.bestF_eq hb]
  exact ⟨rfl, hB⟩
set_option maxRecDepth 100000 in
set_option maxHeartbeats 2000000 in
theorem ppair_none (w : World) (P : PR) (L : List Int) (h : PoolIs w P L) (hp : PoolM.pairZ P.qc.length P.g.z L = none) :
    Calls Try.prog 35 #[.pointer (some ⟨P.p, 0, none⟩)] w fun e w' => e = .returned (.tuple #[.int .i64 0, .int .i64 0, .int .i64 15]) ∧ Below w.heap.size w w' := by
  have HP : Hid (Calls Try.prog 34 #[.pointer (some ⟨P.p, 0, none⟩)] w fun e w' => e = .returned (.int .i64 0) ∧ Below w.heap.size w w') := Lib.hid (by have := ppairs_eq w P L h; rwa [(PoolM.npairs_none h.ok (by have := h.len8; omega)).2 hp] at this)
  clear h hp
  go_enter Try.func35, Try.ntmps35
  go_wp2_with fail
  refine HP.out.mono ?_
  rintro e w' ⟨rfl, hB⟩
  go_wp2
  go_ret3
  exact ⟨rfl, hB⟩
set_option maxRecDepth 100000 in
set_option maxHeartbeats 2000000 in
theorem ppair_some (w : World) (P : PR) (L : List Int) (h : PoolIs w P L) (x y : Int) (hp : PoolM.pairZ P.qc.length P.g.z L = some (x, y)) :
    Calls Try.prog 35 #[.pointer (some ⟨P.p, 0, none⟩)] w fun e w' => e = .returned (.tuple #[.int .i64 x, .int .i64 y, .int .i64 0]) ∧ PoolIs w' P (less (less L x) y) ∧ Only P.cs w w' := by
  have h8 := h.len8
  have hD : 2 ≤ P.qc.length := by omega
  obtain ⟨t, u, ha, -, hb, -⟩ := PoolM.pairZ_some h.ok hD hp
  obtain ⟨a1, a2, -⟩ := PoolM.domA_is P.g.z L hD
  obtain ⟨b1, b2, -⟩ := PoolM.domB_is P.g.z L hD
  have hn : PoolM.npairs P.qc.length P.g.z L ≠ 0 := fun e => by rw [(PoolM.npairs_none h.ok hD).1 e] at hp; cases hp
  have HP := Lib.hid (ppairs_eq w P L h)
  generalize PoolM.npairs P.qc.length P.g.z L = n at *
  have t1 : ((n : Int) == 0) = false := by simp; omega
  have HH := Lib.hid h
  have HF : Hid (∀ W, PoolIs W P L → Calls Try.prog 49 #[.pointer (some ⟨P.p, 0, none⟩), .int .i64 (-1)] W fun e w' => e = .returned (.int .i64 (PoolM.domA P.qc.length P.g.z L : Nat)) ∧ Below W.heap.size W w') := Lib.hid (fun W hW => by have := pfull_eq W P L hW (-1); rwa [a2] at this)
  have HG : Hid (∀ W, PoolIs W P L → Calls Try.prog 49 #[.pointer (some ⟨P.p, 0, none⟩), .int .i64 (PoolM.domA P.qc.length P.g.z L : Nat)] W fun e w' => e = .returned (.int .i64 (PoolM.domB P.qc.length P.g.z L : Nat)) ∧ Below W.heap.size W w') := Lib.hid (fun W hW => by have := pfull_eq W P L hW (PoolM.domA P.qc.length P.g.z L : Nat); rwa [b2] at this)
  have HTA := Lib.hid (fun (W : World) (hW : PoolIs W P L) => ptake_some W P L hW _ a1 x t ha)
  have HTB := Lib.hid (fun (W : World) (hW : PoolIs W P (less L x)) => ptake_some W P (less L x) hW _ b1 y u hb)
  clear h hp a1 a2 b1 b2 ha hb
  generalize PoolM.domA P.qc.length P.g.z L = da at *
  generalize PoolM.domB P.qc.length P.g.z L = db at *
  go_enter Try.func35, Try.ntmps35
  go_wp2_with fail
  refine HP.out.mono ?_
  rintro e w1 ⟨rfl, hB1⟩
  have HH1 := Lib.hid (HH.out.below hB1)
  go_wp2_with fail
  refine (HF.out w1 HH1.out).mono ?_
  rintro e w2 ⟨rfl, hB2⟩
  have HH2 := Lib.hid (HH1.out.below hB2)
  have hB12 := hB1.trans (hB2.mono hB1.size)
  clear hB1 hB2
  go_wp2_with fail
  refine (HG.out w2 HH2.out).mono ?_
  rintro e w3 ⟨rfl, hB3⟩
  have HH3 := Lib.hid (HH2.out.below hB3)
  have hB13 := hB12.trans (hB3.mono hB12.size)
  have hO3 : Only P.cs w w3 := Only.of_below hB13
  clear hB12 hB3 hB13
  go_wp2_with fail
  refine (HTA.out w3 HH3.out).mono ?_
  rintro e w4 ⟨rfl, hP4, hO4⟩
  have HP4 := Lib.hid hP4
  have hO34 := hO3.trans hO4
  clear hP4 hO4 hO3
  go_wp2_with fail
  refine (HTB.out w4 HP4.out).mono ?_
  rintro e w5 ⟨rfl, hP5, hO5⟩
  have HP5 := Lib.hid hP5
  have hO35 := hO34.trans hO5
  clear hP5 hO5 hO34
  go_wp2
  go_ret3
  exact ⟨rfl, HP5.out, hO35⟩
end Go.Proofs.Ytogijlpclceanaa
