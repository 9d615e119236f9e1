/- Proved here: contracts of the pool's Give and Drop; what each operation makes of the list. -/
import Derived.Test.YtogijlpclceanaaPlHas
namespace PoolM
/-- what the operations make of a list: it, and what is told -/
def giveOf (D : Nat) (z : Int) (L : List Int) (x : Int) : List Int × Int := if 0 ≤ x ∧ x < (D : Int) * z then (if x ∈ L then (L, 16) else (L ++ [x], 0)) else (L, 13)
def dropOf (L : List Int) (x : Int) : List Int × Int := if x ∈ L then (less L x, 0) else (L, 15)
def takeOf (D : Nat) (z : Int) (L : List Int) (d : Int) : List Int × Int × Int := if 0 ≤ d ∧ d < (D : Int) then (match dl z L d.toNat with | [] => (L, 0, 15) | x :: _ => (less L x, x, 0)) else (L, 0, 13)
def pairOf (D : Nat) (z : Int) (L : List Int) : List Int × Int × Int × Int := match pairZ D z L with | none => (L, 0, 0, 15) | some (x, y) => (less (less L x) y, x, y, 0)
def countOf (D : Nat) (z : Int) (L : List Int) (d : Int) : Nat := if 0 ≤ d ∧ d < (D : Int) then cnt z L d.toNat else 0
theorem Ok.give {D : Nat} {z : Int} {L : List Int} (h : Ok D z L) (x : Int) : Ok D z (giveOf D z L x).1 := by
  unfold giveOf
  split
  · split
    · exact h
    · rename_i h1 h2; exact h.app h1 h2
  · exact h
theorem Ok.drop {D : Nat} {z : Int} {L : List Int} (h : Ok D z L) (x : Int) : Ok D z (dropOf L x).1 := by
  unfold dropOf
  split
  · exact h.filter _
  · exact h
theorem Ok.take {D : Nat} {z : Int} {L : List Int} (h : Ok D z L) (d : Int) : Ok D z (takeOf D z L d).1 := by
  unfold takeOf
  split
  · split
    · exact h
    · exact h.filter _
  · exact h
theorem Ok.pair {D : Nat} {z : Int} {L : List Int} (h : Ok D z L) : Ok D z (pairOf D z L).1 := by
  unfold pairOf
  split
  · exact h
  · exact Ok.filter (Ok.filter h _) _
end PoolM
namespace Go.Proofs.Ytogijlpclceanaa
open Go.Conc Go.RowKit Go.Rv Go.Shelf
set_option linter.unusedVariables false
attribute [local go_sem] Oper.semAt_some
open PoolM (dl cnt Ok less allTo giveOf dropOf takeOf pairOf countOf)
theorem pcount_any (w : World) (P : PR) (L : List Int) (h : PoolIs w P L) (d : Int) :
    Calls Try.prog 33 #[.pointer (some ⟨P.p, 0, none⟩), .int .i64 d] w fun e w' => e = .returned (.int .i64 (countOf P.qc.length P.g.z L d : Nat)) ∧ w = w' := by
  unfold countOf
  by_cases hd : 0 ≤ d ∧ d < (P.qc.length : Int)
  · rw [if_pos hd]
    have := pcount_in w P L h d.toNat (by omega)
    rwa [show ((d.toNat : Nat) : Int) = d by omega] at this
  · rw [if_neg hd]
    exact pcount_out w P L h d (by omega)
theorem ptake_any (w : World) (P : PR) (L : List Int) (h : PoolIs w P L) (d : Int) :
    Calls Try.prog 32 #[.pointer (some ⟨P.p, 0, none⟩), .int .i64 d] w fun e w' => e = .returned (.tuple #[.int .i64 (takeOf P.qc.length P.g.z L d).2.1, .int .i64 (takeOf P.qc.length P.g.z L d).2.2]) ∧ PoolIs w' P (takeOf P.qc.length P.g.z L d).1 ∧ Only P.cs w w' := by
  unfold takeOf
  by_cases hd : 0 ≤ d ∧ d < (P.qc.length : Int)
  · rw [if_pos hd]
    have e : ((d.toNat : Nat) : Int) = d := by omega
    cases hl : dl P.g.z L d.toNat with
    | nil =>
      have := ptake_none w P L h d.toNat (by omega) hl
      rw [e] at this
      exact this.mono (fun e w' h' => ⟨h'.1, h'.2 ▸ h, h'.2 ▸ Only.refl _ _⟩)
    | cons x t =>
      have := ptake_some w P L h d.toNat (by omega) x t hl
      rwa [e] at this
  · rw [if_neg hd]
    exact (ptake_out w P L h d (by omega)).mono (fun e w' h' => ⟨h'.1, h'.2 ▸ h, h'.2 ▸ Only.refl _ _⟩)
theorem ppair_any (w : World) (P : PR) (L : List Int) (h : PoolIs w P L) :
    Calls Try.prog 35 #[.pointer (some ⟨P.p, 0, none⟩)] w fun e w' => e = .returned (.tuple #[.int .i64 (pairOf P.qc.length P.g.z L).2.1, .int .i64 (pairOf P.qc.length P.g.z L).2.2.1, .int .i64 (pairOf P.qc.length P.g.z L).2.2.2]) ∧ PoolIs w' P (pairOf P.qc.length P.g.z L).1 ∧ Only P.cs w w' := by
  unfold pairOf
  cases hp : PoolM.pairZ P.qc.length P.g.z L with
  | none => exact (ppair_none w P L h hp).mono (fun e w' h' => ⟨h'.1, h.below h'.2, Only.of_below h'.2⟩)
  | some xy =>
    obtain ⟨x, y⟩ := xy
    exact ppair_some w P L h x y hp
set_option maxRecDepth 100000 in
set_option maxHeartbeats 2000000 in
theorem pgive_any (w : World) (P : PR) (L : List Int) (h : PoolIs w P L) (z : Int) :
    Calls Try.prog 30 #[.pointer (some ⟨P.p, 0, none⟩), .int .i64 z] w fun e w' => e = .returned (.int .i64 (giveOf P.qc.length P.g.z L z).2) ∧ PoolIs w' P (giveOf P.qc.length P.g.z L z).1 ∧ Only P.cs w w' := by
  have hlen := h.len
  have HD := Lib.hid (fun W => gdomain_any P.g z W h.small)
  obtain ⟨c0, c1, c2, c3, c4, c5⟩ := h.gcells
  have HH := Lib.hid h
  have h8 := h.len8
  unfold giveOf
  by_cases hz : 0 ≤ z ∧ z < (P.qc.length : Int) * P.g.z
  · rw [if_pos hz]
    obtain ⟨k, hk, hdk, hzk⟩ := dom_in h (zone := z) (by rw [← hlen]; exact hz)
    rw [hdk] at HD
    have t1 : decide ((k : Int) < 0) = false := decide_eq_false (by omega)
    clear h hdk hlen
    by_cases hm : z ∈ L
    · have hmt : decide (z ∈ L) = true := decide_eq_true hm
      have HA : Hid (∀ W, PoolIs W P L → Calls Try.prog 36 #[.pointer (some ⟨P.p, 0, none⟩), .int .i64 z] W fun e w' => e = .returned (.bool true) ∧ PoolIs w' P L ∧ Only P.cs W w') := Lib.hid (fun W hW => by have := phas_any W P L hW z; rwa [hmt] at this)
      rw [if_pos hm]
      clear hmt hm hz hzk
      go_enter Try.func30, Try.ntmps30
      go_wp2_with fail
      refine (HD.out _).mono ?_
      rintro e w1 ⟨rfl, hB1⟩
      have HH1 := Lib.hid (HH.out.below hB1)
      have HO1 : Hid (Only P.cs w w1) := Lib.hid (Only.of_below hB1)
      clear hB1 c0 c1 c2 c3 c4 c5
      go_wp2_with fail
      refine (HA.out w1 HH1.out).mono ?_
      rintro e w2 ⟨rfl, hP2, hO2⟩
      have HP2 := Lib.hid hP2
      have HO2 := Lib.hid (HO1.out.trans hO2)
      clear hP2 hO2
      go_wp2
      go_ret
      exact ⟨rfl, HP2.out, HO2.out⟩
    · have hmt : decide (z ∈ L) = false := decide_eq_false hm
      have HA : Hid (∀ W, PoolIs W P L → Calls Try.prog 36 #[.pointer (some ⟨P.p, 0, none⟩), .int .i64 z] W fun e w' => e = .returned (.bool false) ∧ PoolIs w' P L ∧ Only P.cs W w') := Lib.hid (fun W hW => by have := phas_any W P L hW z; rwa [hmt] at this)
      rw [if_neg hm]
      have HRM := Lib.hid (fun (W : World) (hW : PoolIs W P L) => hW.ok.dl_room hz hm hzk)
      have HAP := Lib.hid (fun (W : World) (hW : PoolIs W P L) => hW.ok.app hz hm)
      have HDL := Lib.hid (show PoolM.dl P.g.z (L ++ [z]) k = PoolM.dl P.g.z L k ++ [z] by rw [PoolM.dl_app, if_pos hzk])
      have HDN : Hid (∀ j, j ≠ k → PoolM.dl P.g.z (L ++ [z]) j = PoolM.dl P.g.z L j) := Lib.hid (fun j hj => by rw [PoolM.dl_app, if_neg (by rw [hzk]; omega), List.append_nil])
      clear hmt hm hz hzk
      go_enter Try.func30, Try.ntmps30
      go_wp2_with fail
      refine (HD.out _).mono ?_
      rintro e w1 ⟨rfl, hB1⟩
      have HH1 := Lib.hid (HH.out.below hB1)
      have HO1 : Hid (Only P.cs w w1) := Lib.hid (Only.of_below hB1)
      clear hB1 c0 c1 c2 c3 c4 c5
      go_wp2_with fail
      refine (HA.out w1 HH1.out).mono ?_
      rintro e w2 ⟨rfl, hP2, hO2⟩
      have HP2 := Lib.hid hP2
      have HO2 := Lib.hid (HO1.out.trans hO2)
      have c6 := hP2.cells
      obtain ⟨q, c, hq⟩ := hP2.at hk
      have cp := hP2.pcell hq
      have HPUT := Lib.hid (qi_put_room w2 q c P.g.z.toNat _ (.int .i64 z) (hP2.que k q c hq) (by rw [iV_length]; exact HRM.out w2 hP2))
      clear hP2 hO2
      go_wp2_with fail
      refine HPUT.out.mono ?_
      rintro e w3 ⟨rfl, hq3, hO3⟩
      have HP3 := Lib.hid (HP2.out.set (L' := L ++ [z]) hq (by rw [HDL.out, iV_app]; exact hq3) hO3 (HAP.out w2 HP2.out) HDN.out)
      have HO3 := Lib.hid (HO2.out.trans (Only.cs1 hO3 (PR.c_mem hq)))
      clear hq3 hO3
      go_wp2
      go_ret
      exact ⟨rfl, HP3.out, HO3.out⟩
  · rw [if_neg hz]
    rw [dom_out (by rw [← hlen]; exact hz)] at HD
    clear h hlen hz
    go_enter Try.func30, Try.ntmps30
    go_wp2_with fail
    refine (HD.out _).mono ?_
    rintro e w1 ⟨rfl, hB1⟩
    have HH1 := Lib.hid (HH.out.below hB1)
    have HO1 : Hid (Only P.cs w w1) := Lib.hid (Only.of_below hB1)
    clear hB1
    go_wp2
    go_ret
    exact ⟨rfl, HH1.out, HO1.out⟩
set_option maxRecDepth 100000 in
theorem pdrop1_any (B : Nat) (z x : Int) (W : World) (h : W.heap[B]? = some (.cells #[.int .i64 z] 3 (0, 0))) :
    Calls Try.prog 65 #[.int .i64 x, .pointer (some ⟨B, 0, none⟩)] W fun e w' => e = .returned (.bool (x != z)) ∧ W = w' := by
  have hc := cell_of_one h
  clear h
  go_enter Try.func65, Try.ntmps65
  go_wp2
  go_ret
  exact ⟨rfl, rfl⟩
theorem dropN_zero {l : List Int} {x : Int} : dropN (fun y => y != x) l l.length = 0 ↔ x ∉ l := by
  unfold dropN
  rw [List.take_length, List.length_eq_zero_iff, List.filter_eq_nil_iff]
  constructor
  · intro h hx
    have := h x hx
    simp at this
  · intro h y hy e
    have : y = x := by simpa using e
    exact h (this ▸ hy)
set_option maxRecDepth 100000 in
set_option maxHeartbeats 2000000 in
theorem pdrop_any (w : World) (P : PR) (L : List Int) (h : PoolIs w P L) (z : Int) :
    Calls Try.prog 57 #[.pointer (some ⟨P.p, 0, none⟩), .int .i64 z] w fun e w' => e = .returned (.int .i64 (dropOf L z).2) ∧ PoolIs w' P (dropOf L z).1 ∧ Only P.cs w w' := by
  have hlen := h.len
  have HD := Lib.hid (fun W => gdomain_any P.g z W h.small)
  have HH := Lib.hid h
  have h8 := h.len8
  have hal := (Below.refl w.heap.size w).alloc (Nat.le_refl _) (.cells #[.int .i64 z] 3)
  have hnew := heap_alloc_new w (.cells #[.int .i64 z] 3)
  have hsz : w.heap.size < (w.alloc (.cells #[.int .i64 z] 3)).heap.size := by simp
  have HP0 := Lib.hid (h.below hal)
  obtain ⟨R, hR⟩ : ∃ R, dropOf L z = R := ⟨_, rfl⟩
  rw [hR]
  have HR := Lib.hid hR
  clear hR
  by_cases hz : 0 ≤ z ∧ z < (P.qc.length : Int) * P.g.z
  · obtain ⟨k, hk, hdk, hzk⟩ := dom_in h (zone := z) (by rw [← hlen]; exact hz)
    rw [hdk] at HD
    have t1 : decide ((k : Int) < 0) = false := decide_eq_false (by omega)
    have HIN : Hid (z ∈ PoolM.dl P.g.z L k ↔ z ∈ L) := Lib.hid ⟨fun hx => (PoolM.dl_mem.1 hx).1, fun hx => PoolM.dl_mem.2 ⟨hx, hzk⟩⟩
    have HDN : Hid (∀ j, j ≠ k → PoolM.dl P.g.z (less L z) j = PoolM.dl P.g.z L j) := Lib.hid (fun j hj => PoolM.dl_less_ne (by rw [hzk]; omega))
    have HDL : Hid (PoolM.dl P.g.z (less L z) k = (PoolM.dl P.g.z L k).filter fun y => y != z) := Lib.hid (PoolM.dl_drop _ _ _ _)
    clear h hdk hlen hz hzk
    go_enter Try.func57, Try.ntmps57
    go_wp2
    refine wp_region_conf2 6 [Fact.eq ?rax0, Fact.eq ?rax1, Fact.eq ?rax2, Fact.eq (.agg (GC P.g)), Fact.eq ?rax4, Fact.eq ?rax5] ?raA (by kernel_rfl) (by kernel_rfl) ?rahA ?raho ?rahend
    case rahA =>
      intro vv
      simp only [putRules, Nat.reduceAdd]
      rfl
    case raho =>
      refine ⟨?_, ?_, ?_, ?_, ?_, ?_, trivial⟩
      · intro vv W K hB hd HK
        simp only [confRules] at HK
        clear hd
        go_wp2
        refine HK.out _ _ (Below.refl _ _) ?_
        rfl
      · intro vv W K hB hd HK
        simp only [confRules] at hd HK
        have h0 := hd
        clear hd
        simp only [h0] at HK ⊢
        clear h0
        go_wp2
        refine HK.out _ _ (Below.refl _ _) ?_
        rfl
      · intro vv W K hB hd HK
        simp only [confRules] at hd HK
        have h1 := hd
        clear hd
        simp only [h1] at HK ⊢
        clear h1
        go_wp2
        refine HK.out _ _ (Below.refl _ _) ?_
        rfl
      · intro vv W K hB hd HK
        simp only [confRules] at hd HK
        have h2 := hd
        clear hd
        simp only [h2] at HK ⊢
        clear h2
        have hT := (HP0.out.below hB).gcells
        obtain ⟨c0, c1, c2, c3, c4, c5⟩ := hT
        go_wp2
        refine HK.out _ _ (Below.refl _ _) ?_
        rfl
      · intro vv W K hB hd HK
        simp only [confRules] at HK
        clear hd
        have hT := cell_of_one ((hB.block w.heap.size hsz).trans hnew)
        go_wp2
        refine HK.out _ _ (Below.refl _ _) ?_
        rfl
      · intro vv W K hB hd HK
        simp only [confRules] at hd HK
        obtain ⟨h3, h4⟩ := hd
        simp only [h3, h4] at HK ⊢
        clear h3 h4
        go_wp2_with (refine (HD.out _).mono ?_; rintro e w9 ⟨rfl, hB9⟩)
        refine HK.out _ _ hB9 ?_
        rfl
    case rahend =>
      intro vv W hB hf
      have e5 := hf 5 (by decide)
      simp only [endRules] at e5
      simp only [e5, dropRules]
      clear hf e5
      have HP1 := Lib.hid (HP0.out.below hB)
      have hbz := (hB.block w.heap.size hsz).trans hnew
      have HB1 := Lib.hid (hal.trans (hB.mono hal.size))
      have c6 := HP1.out.cells
      obtain ⟨q, c, hq⟩ := HP1.out.at hk
      have cp := HP1.out.pcell hq
      have HKP := Lib.hid (q_keep_drop (fun y => y != z) w.heap.size (.int .i64 z) W q c P.g.z.toNat _ (HP1.out.que k q c hq) (HP1.out.ok.dl_len k) HP1.out.cap1 hbz (fun x W2 hW2 => pdrop1_any w.heap.size z x W2 hW2))
      clear hB hbz hnew hal
      by_cases hm : z ∈ L
      · obtain rfl : R = (less L z, 0) := HR.out.symm.trans (if_pos hm)
        have hd0 : dropN (fun y => y != z) (PoolM.dl P.g.z L k) (PoolM.dl P.g.z L k).length ≠ 0 := fun e => dropN_zero.1 e (HIN.out.2 hm)
        have hd1 := dropN_le (fun y => y != z) (PoolM.dl P.g.z L k) (PoolM.dl P.g.z L k).length
        have hd2 := HP1.out.ok.dl_len k
        have hd3 := HP1.out.cap1
        have t2 : ((dropN (fun y => y != z) (PoolM.dl P.g.z L k) (PoolM.dl P.g.z L k).length : Nat) : Int) ≠ 0 := by omega
        have t3 : (((dropN (fun y => y != z) (PoolM.dl P.g.z L k) (PoolM.dl P.g.z L k).length : Nat) : Int) == 0) = false := by simpa using t2
        generalize dropN (fun y => y != z) (PoolM.dl P.g.z L k) (PoolM.dl P.g.z L k).length = nn at *
        clear hd0 hd1 hd2 hd3 t2
        go_wp2_with fail
        refine HKP.out.mono ?_
        rintro e w3 ⟨rfl, hq3, hO3⟩
        have HP3 := Lib.hid (HP1.out.set (L' := less L z) hq (by rw [HDL.out]; exact hq3) hO3 (HP1.out.ok.filter _) HDN.out)
        have HO3 : Hid (Only P.cs w w3) := Lib.hid ((Only.of_below HB1.out).trans (Only.cs1 hO3 (PR.c_mem hq)))
        clear hq3 hO3
        go_wp2
        go_ret
        exact ⟨rfl, HP3.out, HO3.out⟩
      · obtain rfl : R = (L, 15) := HR.out.symm.trans (if_neg hm)
        have hd0 : dropN (fun y => y != z) (PoolM.dl P.g.z L k) (PoolM.dl P.g.z L k).length = 0 := dropN_zero.2 (fun hx => hm (HIN.out.1 hx))
        rw [hd0] at HKP
        clear hd0
        have HLE : Hid (PoolM.dl P.g.z L k = (PoolM.dl P.g.z L k).filter fun y => y != z) := Lib.hid (by rw [← HDL.out, PoolM.less_none hm])
        go_wp2_with fail
        refine HKP.out.mono ?_
        rintro e w3 ⟨rfl, hq3, hO3⟩
        have HP3 := Lib.hid (HP1.out.keep hq (by rw [HLE.out]; exact hq3) hO3)
        have HO3 : Hid (Only P.cs w w3) := Lib.hid ((Only.of_below HB1.out).trans (Only.cs1 hO3 (PR.c_mem hq)))
        clear hq3 hO3
        go_wp2
        go_ret
        exact ⟨rfl, HP3.out, HO3.out⟩
  · have hm : z ∉ L := fun hx => hz (h.ok.rng z hx)
    obtain rfl : R = (L, 15) := HR.out.symm.trans (if_neg hm)
    rw [dom_out (by rw [← hlen]; exact hz)] at HD
    clear h hlen hz hm
    go_enter Try.func57, Try.ntmps57
    go_wp2
    refine wp_region_conf2 6 [Fact.eq ?rbx0, Fact.eq ?rbx1, Fact.eq ?rbx2, Fact.eq (.agg (GC P.g)), Fact.eq ?rbx4, Fact.eq ?rbx5] ?rbA (by kernel_rfl) (by kernel_rfl) ?rbhA ?rbho ?rbhend
    case rbhA =>
      intro vv
      simp only [putRules, Nat.reduceAdd]
      rfl
    case rbho =>
      refine ⟨?_, ?_, ?_, ?_, ?_, ?_, trivial⟩
      · intro vv W K hB hd HK
        simp only [confRules] at HK
        clear hd
        go_wp2
        refine HK.out _ _ (Below.refl _ _) ?_
        rfl
      · intro vv W K hB hd HK
        simp only [confRules] at hd HK
        have h0 := hd
        clear hd
        simp only [h0] at HK ⊢
        clear h0
        go_wp2
        refine HK.out _ _ (Below.refl _ _) ?_
        rfl
      · intro vv W K hB hd HK
        simp only [confRules] at hd HK
        have h1 := hd
        clear hd
        simp only [h1] at HK ⊢
        clear h1
        go_wp2
        refine HK.out _ _ (Below.refl _ _) ?_
        rfl
      · intro vv W K hB hd HK
        simp only [confRules] at hd HK
        have h2 := hd
        clear hd
        simp only [h2] at HK ⊢
        clear h2
        have hT := (HP0.out.below hB).gcells
        obtain ⟨c0, c1, c2, c3, c4, c5⟩ := hT
        go_wp2
        refine HK.out _ _ (Below.refl _ _) ?_
        rfl
      · intro vv W K hB hd HK
        simp only [confRules] at HK
        clear hd
        have hT := cell_of_one ((hB.block w.heap.size hsz).trans hnew)
        go_wp2
        refine HK.out _ _ (Below.refl _ _) ?_
        rfl
      · intro vv W K hB hd HK
        simp only [confRules] at hd HK
        obtain ⟨h3, h4⟩ := hd
        simp only [h3, h4] at HK ⊢
        clear h3 h4
        go_wp2_with (refine (HD.out _).mono ?_; rintro e w9 ⟨rfl, hB9⟩)
        refine HK.out _ _ hB9 ?_
        rfl
    case rbhend =>
      intro vv W hB hf
      have e5 := hf 5 (by decide)
      simp only [endRules] at e5
      simp only [e5, dropRules]
      clear hf e5
      have HP1 := Lib.hid (HP0.out.below hB)
      have HO1 : Hid (Only P.cs w W) := Lib.hid (Only.of_below (hal.trans (hB.mono hal.size)))
      clear hB hal
      go_wp2
      go_ret
      exact ⟨rfl, HP1.out, HO1.out⟩
end Go.Proofs.Ytogijlpclceanaa
