/- Proved here: the contract of the document's pool: most. -/
import Derived.Test.YtogijlpclceanaaRpA
namespace Go.Proofs.Ytogijlpclceanaa
open Go.Conc Go.RowKit Go.Rv Go.Shelf
set_option linter.unusedVariables false
attribute [local go_sem] Oper.semAt_some
open PoolM (dl cnt Ok less cntR IsBest stepB)
set_option maxRecDepth 100000 in
set_option maxHeartbeats 4000000 in
theorem rp_most (D : Nat) (z : Int) (a : Option Addr) (cp : Nat) (L : List Int) (but : Int) (w : World) (hok : Ok D z L) (hz : z ≤ 64) (hD : D ≤ 8) (hl : L.length ≤ 512) (hI : Ints w a L) :
    Calls Try.prog 64 #[.agg (RP D z (.slice a L.length cp)), .int .i64 but] w fun e w' => e = .returned (.int .i64 (PoolM.bestF D (cnt z L) but)) ∧ Below w.heap.size w w' := by
  have HC := Lib.hid (fun (W : World) (hW : Below w.heap.size w W) (j : Nat) => rp_count D z a cp L (j : Nat) W hok hz hD hl (hI.below hW))
  have hnew := heap_alloc_new w (.cells (RP D z (.slice a L.length cp)) 61)
  have hal : Below w.heap.size w (w.alloc (.cells (RP D z (.slice a L.length cp)) 61)) := (Below.refl _ _).alloc (Nat.le_refl _) _
  obtain ⟨W0, hW0⟩ : ∃ W0, w.alloc (.cells (RP D z (.slice a L.length cp)) 61) = W0 := ⟨_, rfl⟩
  rw [hW0] at hnew hal
  have HCS : Hid (∀ (W : World), W.heap[w.heap.size]? = some (.cells (RP D z (.slice a L.length cp)) 61 (0, 0)) → W.cell? ⟨w.heap.size, 0, none⟩ = some (.int .i64 (D : Nat))) := Lib.hid (fun W h => (rp_cells h).1)
  have HIX := Lib.hid (rp_info D z (.slice a L.length cp))
  have HW0 := Lib.hid hW0
  have z0 : w.heap.size < W0.heap.size := (Array.getElem?_eq_some_iff.1 hnew).1
  have HN0 := Lib.hid hnew
  have HAL := Lib.hid hal
  have c0 : W0.cell? ⟨w.heap.size, 0, none⟩ = some (.int .i64 (D : Nat)) := HCS.out _ hnew
  clear hok hI hW0 hnew hal
  generalize hX : RP D z (.slice a L.length cp) = X at *
  clear hX
  go_enter Try.func64, Try.ntmps64
  go_upto_region 1 with (fail)
  rw [HW0.out]
  go_wp2
  go_loopw [5, 6] (fun v i wr => ∃ (k : Nat) (b : Int), k ≤ D ∧ i = .int .i64 ((k : Int) - 1) ∧ v = .int .i64 b ∧ IsBest k D (cnt z L) but b ∧ Below W0.heap.size W0 wr) (fun _ i _ => (intOf i + 1).toNat)
  case atStart => exact ⟨D, -1, Nat.le_refl _, rfl, rfl, IsBest.none _ _ _, Below.refl _ _⟩
  case round =>
    obtain ⟨k1, b, hk, rfl, rfl, hb, hB⟩ := hrel
    have HR := Lib.hid ((hB.block w.heap.size z0).trans HN0.out)
    have HBW := Lib.hid hB
    have HBA := Lib.hid (HAL.out.trans (hB.mono HAL.out.size))
    have zr := hB.size
    by_cases hlt : 1 ≤ k1
    · obtain ⟨k, rfl⟩ : ∃ k, k1 = k + 1 := ⟨k1 - 1, by omega⟩
      rw [show ((k + 1 : Nat) : Int) - 1 = (k : Int) by omega]
      have t0 : decide ((0 : Int) ≤ (k : Int)) = true := decide_eq_true (by omega)
      have HS := Lib.hid (hb.stepB (by omega))
      have HCK : Hid (∀ W, Below wr.heap.size wr W → Calls Try.prog 59 #[.agg X, .int .i64 (k : Nat)] W fun e w' => e = .returned (.int .i64 (cnt z L k : Nat)) ∧ Below W.heap.size W w') := Lib.hid (fun W hW => HC.out W (HBA.out.trans (hW.mono HBA.out.size)) k)
      by_cases e1 : (k : Int) = but
      · have t1 : ((k : Int) != but) = false := by simpa using e1
        have HST : Hid (stepB (cnt z L) but b k = b) := Lib.hid (if_neg (fun x => x.1 e1))
        clear hb hB e1
        go_wp2
        refine wp_region_conf2 15 [Fact.eq ?rax0, Fact.eq ?rax1, Fact.eq (.bool false), Fact.eq (.bool false), Fact.eq undef, Fact.eq undef, Fact.eq undef, Fact.eq undef, Fact.eq undef, Fact.eq undef, Fact.eq undef, Fact.eq undef, Fact.eq undef, Fact.eq undef, Fact.eq undef] ?raA (by kernel_rfl) (by kernel_rfl) ?rahA ?raho ?rahend
        case rahA =>
          intro vv
          simp only [putRules, Nat.reduceAdd]
          rfl
        case raho =>
          refine ⟨?_, ?_, ?_, ?_, ?_, ?_, ?_, ?_, ?_, ?_, ?_, ?_, ?_, ?_, ?_, trivial⟩
          · intro vv W K hB hd HK
            simp only [confRules] at HK
            clear hd
            go_wp2
            refine HK.out _ _ (Below.refl _ _) ?_
            rfl
          · intro vv W K hB hd HK
            simp only [confRules] at HK
            clear hd
            go_wp2
            refine HK.out _ _ (Below.refl _ _) ?_
            rfl
          · intro vv W K hB hd HK
            simp only [confRules] at hd HK
            obtain ⟨h0, h1⟩ := hd
            simp only [h0, h1] at HK ⊢
            clear h0 h1
            go_wp2
            refine HK.out _ _ (Below.refl _ _) ?_
            rfl
          · intro vv W K hB hd HK
            simp only [confRules] at hd HK
            have h2 := hd
            clear hd
            simp only [h2] at HK ⊢
            clear h2
            go_wp2
            refine HK.out _ _ (Below.refl _ _) ?_
            rfl
          · intro vv W K hB hd HK
            simp only [confRules] at hd HK
            have h3 := hd
            clear hd
            simp only [h3] at HK ⊢
            clear h3
            refine wpList_guard_no (by rfl) ?_
            refine HK.out _ _ (Below.refl _ _) ?_
            rfl
          · intro vv W K hB hd HK
            simp only [confRules] at hd HK
            obtain ⟨h4, h3⟩ := hd
            simp only [h4, h3] at HK ⊢
            clear h4 h3
            refine wpList_guard_no (by rfl) ?_
            refine HK.out _ _ (Below.refl _ _) ?_
            rfl
          · intro vv W K hB hd HK
            simp only [confRules] at hd HK
            obtain ⟨h5, h3, _⟩ := hd
            simp only [h5, h3] at HK ⊢
            clear h5 h3
            refine wpList_guard_no (by rfl) ?_
            refine HK.out _ _ (Below.refl _ _) ?_
            rfl
          · intro vv W K hB hd HK
            simp only [confRules] at hd HK
            have h6 := hd
            clear hd
            simp only [h6] at HK ⊢
            clear h6
            refine wpList_guard_un (by rfl) ?_
            refine HK.out _ _ (Below.refl _ _) ?_
            rfl
          · intro vv W K hB hd HK
            simp only [confRules] at hd HK
            have h6 := hd
            clear hd
            simp only [h6] at HK ⊢
            clear h6
            refine wpList_guard_un (by rfl) ?_
            refine HK.out _ _ (Below.refl _ _) ?_
            rfl
          · intro vv W K hB hd HK
            simp only [confRules] at hd HK
            obtain ⟨h7, h8, h6, _⟩ := hd
            simp only [h7, h8, h6] at HK ⊢
            clear h7 h8 h6
            refine wpList_guard_un (by rfl) ?_
            refine HK.out _ _ (Below.refl _ _) ?_
            rfl
          · intro vv W K hB hd HK
            simp only [confRules] at hd HK
            have h6 := hd
            clear hd
            simp only [h6] at HK ⊢
            clear h6
            refine wpList_guard_un (by rfl) ?_
            refine HK.out _ _ (Below.refl _ _) ?_
            rfl
          · intro vv W K hB hd HK
            simp only [confRules] at hd HK
            have h6 := hd
            clear hd
            simp only [h6] at HK ⊢
            clear h6
            refine wpList_guard_un (by rfl) ?_
            refine HK.out _ _ (Below.refl _ _) ?_
            rfl
          · intro vv W K hB hd HK
            simp only [confRules] at hd HK
            obtain ⟨h10, h11, h9, h6⟩ := hd
            simp only [h10, h11, h9, h6] at HK ⊢
            clear h10 h11 h9 h6
            refine wpList_guard_un (by rfl) ?_
            refine HK.out _ _ (Below.refl _ _) ?_
            rfl
          · intro vv W K hB hd HK
            simp only [confRules] at hd HK
            obtain ⟨h9, h12, h6⟩ := hd
            simp only [h9, h12, h6] at HK ⊢
            clear h9 h12 h6
            refine wpList_guard_un (by rfl) ?_
            refine HK.out _ _ (Below.refl _ _) ?_
            rfl
          · intro vv W K hB hd HK
            simp only [confRules] at hd HK
            obtain ⟨h6, h13, h3⟩ := hd
            simp only [h6, h13, h3] at HK ⊢
            clear h6 h13 h3
            refine wpList_guard_no (by rfl) ?_
            refine HK.out _ _ (Below.refl _ _) ?_
            rfl
        case rahend =>
          intro vv W hB hf
          have e3 := hf 3 (by decide)
          have e14 := hf 14 (by decide)
          simp only [endRules] at e3 e14
          simp only [e3, e14, dropRules]
          clear hf e3 e14
          go_wp2
          go_roundw
          case rel => exact ⟨k, b, by omega, by go_num, rfl, by rw [← HST.out]; exact HS.out, HBW.out.trans (hB.mono HBW.out.size)⟩
          case measure => first | (simp [intOf]; omega) | simp [intOf]
      · have t1 : ((k : Int) != but) = true := by simpa using e1
        by_cases e2 : b < 0
        · have t2 : decide (b < 0) = true := decide_eq_true e2
          have HST : Hid (stepB (cnt z L) but b k = k) := Lib.hid (if_pos ⟨e1, .inl e2⟩)
          clear hb hB e1
          go_wp2
          refine wp_region_conf2 15 [Fact.eq ?rbx0, Fact.eq ?rbx1, Fact.eq (.bool true), Fact.eq (.bool true), Fact.eq ?rbx4, Fact.eq (.bool true), Fact.eq (.bool true), Fact.eq undef, Fact.eq undef, Fact.eq undef, Fact.eq undef, Fact.eq undef, Fact.eq undef, Fact.eq undef, Fact.eq (.bool true)] ?rbA (by kernel_rfl) (by kernel_rfl) ?rbhA ?rbho ?rbhend
          case rbhA =>
            intro vv
            simp only [putRules, Nat.reduceAdd]
            rfl
          case rbho =>
            refine ⟨?_, ?_, ?_, ?_, ?_, ?_, ?_, ?_, ?_, ?_, ?_, ?_, ?_, ?_, ?_, trivial⟩
            · intro vv W K hB hd HK
              simp only [confRules] at HK
              clear hd
              go_wp2
              refine HK.out _ _ (Below.refl _ _) ?_
              rfl
            · intro vv W K hB hd HK
              simp only [confRules] at HK
              clear hd
              go_wp2
              refine HK.out _ _ (Below.refl _ _) ?_
              rfl
            · intro vv W K hB hd HK
              simp only [confRules] at hd HK
              obtain ⟨h0, h1⟩ := hd
              simp only [h0, h1] at HK ⊢
              clear h0 h1
              go_wp2
              refine HK.out _ _ (Below.refl _ _) ?_
              rfl
            · intro vv W K hB hd HK
              simp only [confRules] at hd HK
              have h2 := hd
              clear hd
              simp only [h2] at HK ⊢
              clear h2
              go_wp2
              refine HK.out _ _ (Below.refl _ _) ?_
              rfl
            · intro vv W K hB hd HK
              simp only [confRules] at hd HK
              have h3 := hd
              clear hd
              simp only [h3] at HK ⊢
              clear h3
              refine wpList_guard_yes (by rfl) ?_
              go_wp2
              refine HK.out _ _ (Below.refl _ _) ?_
              rfl
            · intro vv W K hB hd HK
              simp only [confRules] at hd HK
              obtain ⟨h4, h3⟩ := hd
              simp only [h4, h3] at HK ⊢
              clear h4 h3
              refine wpList_guard_yes (by rfl) ?_
              go_wp2
              refine HK.out _ _ (Below.refl _ _) ?_
              rfl
            · intro vv W K hB hd HK
              simp only [confRules] at hd HK
              obtain ⟨h5, h3, _⟩ := hd
              simp only [h5, h3] at HK ⊢
              clear h5 h3
              refine wpList_guard_yes (by rfl) ?_
              go_wp2
              refine HK.out _ _ (Below.refl _ _) ?_
              rfl
            · intro vv W K hB hd HK
              simp only [confRules] at hd HK
              have h6 := hd
              clear hd
              simp only [h6] at HK ⊢
              clear h6
              refine wpList_guard_no (by rfl) ?_
              refine HK.out _ _ (Below.refl _ _) ?_
              rfl
            · intro vv W K hB hd HK
              simp only [confRules] at hd HK
              have h6 := hd
              clear hd
              simp only [h6] at HK ⊢
              clear h6
              refine wpList_guard_no (by rfl) ?_
              refine HK.out _ _ (Below.refl _ _) ?_
              rfl
            · intro vv W K hB hd HK
              simp only [confRules] at hd HK
              obtain ⟨h7, h8, h6, _⟩ := hd
              simp only [h7, h8, h6] at HK ⊢
              clear h7 h8 h6
              refine wpList_guard_no (by rfl) ?_
              refine HK.out _ _ (Below.refl _ _) ?_
              rfl
            · intro vv W K hB hd HK
              simp only [confRules] at hd HK
              have h6 := hd
              clear hd
              simp only [h6] at HK ⊢
              clear h6
              refine wpList_guard_no (by rfl) ?_
              refine HK.out _ _ (Below.refl _ _) ?_
              rfl
            · intro vv W K hB hd HK
              simp only [confRules] at hd HK
              have h6 := hd
              clear hd
              simp only [h6] at HK ⊢
              clear h6
              refine wpList_guard_no (by rfl) ?_
              refine HK.out _ _ (Below.refl _ _) ?_
              rfl
            · intro vv W K hB hd HK
              simp only [confRules] at hd HK
              obtain ⟨h10, h11, h9, h6⟩ := hd
              simp only [h10, h11, h9, h6] at HK ⊢
              clear h10 h11 h9 h6
              refine wpList_guard_no (by rfl) ?_
              refine HK.out _ _ (Below.refl _ _) ?_
              rfl
            · intro vv W K hB hd HK
              simp only [confRules] at hd HK
              obtain ⟨h9, h12, h6⟩ := hd
              simp only [h9, h12, h6] at HK ⊢
              clear h9 h12 h6
              refine wpList_guard_no (by rfl) ?_
              refine HK.out _ _ (Below.refl _ _) ?_
              rfl
            · intro vv W K hB hd HK
              simp only [confRules] at hd HK
              obtain ⟨h6, h13, h3⟩ := hd
              simp only [h6, h13, h3] at HK ⊢
              clear h6 h13 h3
              refine wpList_guard_yes (by rfl) ?_
              go_wp2
              refine HK.out _ _ (Below.refl _ _) ?_
              rfl
          case rbhend =>
            intro vv W hB hf
            have e3 := hf 3 (by decide)
            have e14 := hf 14 (by decide)
            simp only [endRules] at e3 e14
            simp only [e3, e14, dropRules]
            clear hf e3 e14
            go_wp2
            go_roundw
            case rel => exact ⟨k, k, by omega, by go_num, rfl, by rw [← HST.out]; exact HS.out, HBW.out.trans (hB.mono HBW.out.size)⟩
            case measure => first | (simp [intOf]; omega) | simp [intOf]
        · have t2 : decide (b < 0) = false := decide_eq_false e2
          obtain ⟨m, hm, rfl⟩ : ∃ m : Nat, m < D ∧ b = m := by
            rcases hb with ⟨rfl, -⟩ | ⟨m, -, h2, rfl, -⟩
            · omega
            · exact ⟨m, h2, rfl⟩
          have HCM : Hid (∀ W, Below wr.heap.size wr W → Calls Try.prog 59 #[.agg X, .int .i64 (m : Nat)] W fun e w' => e = .returned (.int .i64 (cnt z L m : Nat)) ∧ Below W.heap.size W w') := Lib.hid (fun W hW => HC.out W (HBA.out.trans (hW.mono HBA.out.size)) m)
          by_cases e3 : cnt z L m ≤ cnt z L k
          · have t3 : decide (((cnt z L m : Nat) : Int) ≤ ((cnt z L k : Nat) : Int)) = true := decide_eq_true (by omega)
            have HST : Hid (stepB (cnt z L) but m k = k) := Lib.hid (if_pos ⟨e1, .inr (by simpa using e3)⟩)
            clear hb hB e1 e2 e3
            generalize hdm : ((cnt z L m : Nat) : Int) = lm at *
            generalize hdk : ((cnt z L k : Nat) : Int) = lk at *
            go_wp2
            refine wp_region_conf2 15 [Fact.eq ?rcx0, Fact.eq ?rcx1, Fact.eq (.bool true), Fact.eq (.bool true), Fact.eq ?rcx4, Fact.eq (.bool false), Fact.eq (.bool false), Fact.eq (.agg X), Fact.eq ?rcx8, Fact.eq (.int .i64 lk), Fact.eq (.agg X), Fact.eq ?rcx11, Fact.eq (.int .i64 lm), Fact.eq (.bool true), Fact.eq (.bool true)] ?rcA (by kernel_rfl) (by kernel_rfl) ?rchA ?rcho ?rchend
            case rchA =>
              intro vv
              simp only [putRules, Nat.reduceAdd]
              rfl
            case rcho =>
              refine ⟨?_, ?_, ?_, ?_, ?_, ?_, ?_, ?_, ?_, ?_, ?_, ?_, ?_, ?_, ?_, trivial⟩
              · intro vv W K hB hd HK
                simp only [confRules] at HK
                clear hd
                go_wp2
                refine HK.out _ _ (Below.refl _ _) ?_
                rfl
              · intro vv W K hB hd HK
                simp only [confRules] at HK
                clear hd
                go_wp2
                refine HK.out _ _ (Below.refl _ _) ?_
                rfl
              · intro vv W K hB hd HK
                simp only [confRules] at hd HK
                obtain ⟨h0, h1⟩ := hd
                simp only [h0, h1] at HK ⊢
                clear h0 h1
                go_wp2
                refine HK.out _ _ (Below.refl _ _) ?_
                rfl
              · intro vv W K hB hd HK
                simp only [confRules] at hd HK
                have h2 := hd
                clear hd
                simp only [h2] at HK ⊢
                clear h2
                go_wp2
                refine HK.out _ _ (Below.refl _ _) ?_
                rfl
              · intro vv W K hB hd HK
                simp only [confRules] at hd HK
                have h3 := hd
                clear hd
                simp only [h3] at HK ⊢
                clear h3
                refine wpList_guard_yes (by rfl) ?_
                go_wp2
                refine HK.out _ _ (Below.refl _ _) ?_
                rfl
              · intro vv W K hB hd HK
                simp only [confRules] at hd HK
                obtain ⟨h4, h3⟩ := hd
                simp only [h4, h3] at HK ⊢
                clear h4 h3
                refine wpList_guard_yes (by rfl) ?_
                go_wp2
                refine HK.out _ _ (Below.refl _ _) ?_
                rfl
              · intro vv W K hB hd HK
                simp only [confRules] at hd HK
                obtain ⟨h5, h3, _⟩ := hd
                simp only [h5, h3] at HK ⊢
                clear h5 h3
                refine wpList_guard_yes (by rfl) ?_
                go_wp2
                refine HK.out _ _ (Below.refl _ _) ?_
                rfl
              · intro vv W K hB hd HK
                simp only [confRules] at hd HK
                have h6 := hd
                clear hd
                simp only [h6] at HK ⊢
                clear h6
                refine wpList_guard_yes (by rfl) ?_
                have hT := (hB.block w.heap.size (by omega)).trans HR.out
                go_wp2_with (refine wpList_row_on (by rfl) 61 _ rfl w.heap.size rfl 61 _ _ _ hT Try.underlying61 rfl HIX.out ?_)
                refine HK.out _ _ (Below.refl _ _) ?_
                rfl
              · intro vv W K hB hd HK
                simp only [confRules] at hd HK
                have h6 := hd
                clear hd
                simp only [h6] at HK ⊢
                clear h6
                refine wpList_guard_yes (by rfl) ?_
                go_wp2
                refine HK.out _ _ (Below.refl _ _) ?_
                rfl
              · intro vv W K hB hd HK
                simp only [confRules] at hd HK
                obtain ⟨h7, h8, h6, _⟩ := hd
                simp only [h7, h8, h6] at HK ⊢
                clear h7 h8 h6
                refine wpList_guard_yes (by rfl) ?_
                go_wp2_with (refine (HCK.out _ hB).mono ?_; rintro e w9 ⟨rfl, hB9⟩)
                refine HK.out _ _ hB9 ?_
                rfl
              · intro vv W K hB hd HK
                simp only [confRules] at hd HK
                have h6 := hd
                clear hd
                simp only [h6] at HK ⊢
                clear h6
                refine wpList_guard_yes (by rfl) ?_
                have hT := (hB.block w.heap.size (by omega)).trans HR.out
                go_wp2_with (refine wpList_row_on (by rfl) 61 _ rfl w.heap.size rfl 61 _ _ _ hT Try.underlying61 rfl HIX.out ?_)
                refine HK.out _ _ (Below.refl _ _) ?_
                rfl
              · intro vv W K hB hd HK
                simp only [confRules] at hd HK
                have h6 := hd
                clear hd
                simp only [h6] at HK ⊢
                clear h6
                refine wpList_guard_yes (by rfl) ?_
                go_wp2
                refine HK.out _ _ (Below.refl _ _) ?_
                rfl
              · intro vv W K hB hd HK
                simp only [confRules] at hd HK
                obtain ⟨h10, h11, h9, h6⟩ := hd
                simp only [h10, h11, h9, h6] at HK ⊢
                clear h10 h11 h9 h6
                refine wpList_guard_yes (by rfl) ?_
                go_wp2_with (refine (HCM.out _ hB).mono ?_; rintro e w9 ⟨rfl, hB9⟩)
                refine HK.out _ _ hB9 ?_
                rfl
              · intro vv W K hB hd HK
                simp only [confRules] at hd HK
                obtain ⟨h9, h12, h6⟩ := hd
                simp only [h9, h12, h6] at HK ⊢
                clear h9 h12 h6
                refine wpList_guard_yes (by rfl) ?_
                go_wp2
                refine HK.out _ _ (Below.refl _ _) ?_
                rfl
              · intro vv W K hB hd HK
                simp only [confRules] at hd HK
                obtain ⟨h6, h13, h3⟩ := hd
                simp only [h6, h13, h3] at HK ⊢
                clear h6 h13 h3
                refine wpList_guard_yes (by rfl) ?_
                go_wp2
                refine HK.out _ _ (Below.refl _ _) ?_
                rfl
            case rchend =>
              intro vv W hB hf
              have e3 := hf 3 (by decide)
              have e14 := hf 14 (by decide)
              simp only [endRules] at e3 e14
              simp only [e3, e14, dropRules]
              clear hf e3 e14
              go_wp2
              go_roundw
              case rel => exact ⟨k, k, by omega, by go_num, rfl, by rw [← HST.out]; exact HS.out, HBW.out.trans (hB.mono HBW.out.size)⟩
              case measure => first | (simp [intOf]; omega) | simp [intOf]
          · have t3 : decide (((cnt z L m : Nat) : Int) ≤ ((cnt z L k : Nat) : Int)) = false := decide_eq_false (by omega)
            have HST : Hid (stepB (cnt z L) but m k = m) := Lib.hid (if_neg (fun x => by rcases x.2 with x | x; exact e2 x; exact e3 (by simpa using x)))
            clear hb hB e1 e2 e3
            generalize hdm : ((cnt z L m : Nat) : Int) = lm at *
            generalize hdk : ((cnt z L k : Nat) : Int) = lk at *
            go_wp2
            refine wp_region_conf2 15 [Fact.eq ?rdx0, Fact.eq ?rdx1, Fact.eq (.bool true), Fact.eq (.bool true), Fact.eq ?rdx4, Fact.eq (.bool false), Fact.eq (.bool false), Fact.eq (.agg X), Fact.eq ?rdx8, Fact.eq (.int .i64 lk), Fact.eq (.agg X), Fact.eq ?rdx11, Fact.eq (.int .i64 lm), Fact.eq (.bool false), Fact.eq (.bool false)] ?rdA (by kernel_rfl) (by kernel_rfl) ?rdhA ?rdho ?rdhend
            case rdhA =>
              intro vv
              simp only [putRules, Nat.reduceAdd]
              rfl
            case rdho =>
              refine ⟨?_, ?_, ?_, ?_, ?_, ?_, ?_, ?_, ?_, ?_, ?_, ?_, ?_, ?_, ?_, trivial⟩
              · intro vv W K hB hd HK
                simp only [confRules] at HK
                clear hd
                go_wp2
                refine HK.out _ _ (Below.refl _ _) ?_
                rfl
              · intro vv W K hB hd HK
                simp only [confRules] at HK
                clear hd
                go_wp2
                refine HK.out _ _ (Below.refl _ _) ?_
                rfl
              · intro vv W K hB hd HK
                simp only [confRules] at hd HK
                obtain ⟨h0, h1⟩ := hd
                simp only [h0, h1] at HK ⊢
                clear h0 h1
                go_wp2
                refine HK.out _ _ (Below.refl _ _) ?_
                rfl
              · intro vv W K hB hd HK
                simp only [confRules] at hd HK
                have h2 := hd
                clear hd
                simp only [h2] at HK ⊢
                clear h2
                go_wp2
                refine HK.out _ _ (Below.refl _ _) ?_
                rfl
              · intro vv W K hB hd HK
                simp only [confRules] at hd HK
                have h3 := hd
                clear hd
                simp only [h3] at HK ⊢
                clear h3
                refine wpList_guard_yes (by rfl) ?_
                go_wp2
                refine HK.out _ _ (Below.refl _ _) ?_
                rfl
              · intro vv W K hB hd HK
                simp only [confRules] at hd HK
                obtain ⟨h4, h3⟩ := hd
                simp only [h4, h3] at HK ⊢
                clear h4 h3
                refine wpList_guard_yes (by rfl) ?_
                go_wp2
                refine HK.out _ _ (Below.refl _ _) ?_
                rfl
              · intro vv W K hB hd HK
                simp only [confRules] at hd HK
                obtain ⟨h5, h3, _⟩ := hd
                simp only [h5, h3] at HK ⊢
                clear h5 h3
                refine wpList_guard_yes (by rfl) ?_
                go_wp2
                refine HK.out _ _ (Below.refl _ _) ?_
                rfl
              · intro vv W K hB hd HK
                simp only [confRules] at hd HK
                have h6 := hd
                clear hd
                simp only [h6] at HK ⊢
                clear h6
                refine wpList_guard_yes (by rfl) ?_
                have hT := (hB.block w.heap.size (by omega)).trans HR.out
                go_wp2_with (refine wpList_row_on (by rfl) 61 _ rfl w.heap.size rfl 61 _ _ _ hT Try.underlying61 rfl HIX.out ?_)
                refine HK.out _ _ (Below.refl _ _) ?_
                rfl
              · intro vv W K hB hd HK
                simp only [confRules] at hd HK
                have h6 := hd
                clear hd
                simp only [h6] at HK ⊢
                clear h6
                refine wpList_guard_yes (by rfl) ?_
                go_wp2
                refine HK.out _ _ (Below.refl _ _) ?_
                rfl
              · intro vv W K hB hd HK
                simp only [confRules] at hd HK
                obtain ⟨h7, h8, h6, _⟩ := hd
                simp only [h7, h8, h6] at HK ⊢
                clear h7 h8 h6
                refine wpList_guard_yes (by rfl) ?_
                go_wp2_with (refine (HCK.out _ hB).mono ?_; rintro e w9 ⟨rfl, hB9⟩)
                refine HK.out _ _ hB9 ?_
                rfl
              · intro vv W K hB hd HK
                simp only [confRules] at hd HK
                have h6 := hd
                clear hd
                simp only [h6] at HK ⊢
                clear h6
                refine wpList_guard_yes (by rfl) ?_
                have hT := (hB.block w.heap.size (by omega)).trans HR.out
                go_wp2_with (refine wpList_row_on (by rfl) 61 _ rfl w.heap.size rfl 61 _ _ _ hT Try.underlying61 rfl HIX.out ?_)
                refine HK.out _ _ (Below.refl _ _) ?_
                rfl
              · intro vv W K hB hd HK
                simp only [confRules] at hd HK
                have h6 := hd
                clear hd
                simp only [h6] at HK ⊢
                clear h6
                refine wpList_guard_yes (by rfl) ?_
                go_wp2
                refine HK.out _ _ (Below.refl _ _) ?_
                rfl
              · intro vv W K hB hd HK
                simp only [confRules] at hd HK
                obtain ⟨h10, h11, h9, h6⟩ := hd
                simp only [h10, h11, h9, h6] at HK ⊢
                clear h10 h11 h9 h6
                refine wpList_guard_yes (by rfl) ?_
                go_wp2_with (refine (HCM.out _ hB).mono ?_; rintro e w9 ⟨rfl, hB9⟩)
                refine HK.out _ _ hB9 ?_
                rfl
              · intro vv W K hB hd HK
                simp only [confRules] at hd HK
                obtain ⟨h9, h12, h6⟩ := hd
                simp only [h9, h12, h6] at HK ⊢
                clear h9 h12 h6
                refine wpList_guard_yes (by rfl) ?_
                go_wp2
                refine HK.out _ _ (Below.refl _ _) ?_
                rfl
              · intro vv W K hB hd HK
                simp only [confRules] at hd HK
                obtain ⟨h6, h13, h3⟩ := hd
                simp only [h6, h13, h3] at HK ⊢
                clear h6 h13 h3
                refine wpList_guard_yes (by rfl) ?_
                go_wp2
                refine HK.out _ _ (Below.refl _ _) ?_
                rfl
            case rdhend =>
              intro vv W hB hf
              have e3 := hf 3 (by decide)
              have e14 := hf 14 (by decide)
              simp only [endRules] at e3 e14
              simp only [e3, e14, dropRules]
              clear hf e3 e14
              go_wp2
              go_roundw
              case rel => exact ⟨k, m, by omega, by go_num, rfl, by rw [← HST.out]; exact HS.out, HBW.out.trans (hB.mono HBW.out.size)⟩
              case measure => first | (simp [intOf]; omega) | simp [intOf]
    · obtain rfl : k1 = 0 := by omega
      have t0 : decide ((0 : Int) ≤ ((0 : Nat) : Int) - 1) = false := by decide
      have HE := Lib.hid (PoolM.bestF_eq hb)
      go_wp2
      go_ret
      exact ⟨by rw [← HE.out]; rfl, HBA.out⟩
end Go.Proofs.Ytogijlpclceanaa
