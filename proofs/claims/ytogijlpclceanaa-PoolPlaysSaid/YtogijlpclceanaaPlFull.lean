/- Proved here: the contract of the pool's fullest. -/
import Derived.Test.YtogijlpclceanaaPlA
import Derived.Test.YtogijlpclceanaaConfU
namespace Go.Proofs.Ytogijlpclceanaa
open Go.Conc Go.RowKit Go.Rv Go.Shelf
set_option linter.unusedVariables false
attribute [local go_sem] Oper.semAt_some
open PoolM (dl cnt Ok less IsBest stepF)
set_option maxRecDepth 100000 in
set_option maxHeartbeats 4000000 in
theorem pfull_any (w : World) (P : PR) (L : List Int) (h : PoolIs w P L) (but : Int) :
    Calls Try.prog 49 #[.pointer (some ⟨P.p, 0, none⟩), .int .i64 but] w fun e w' => ∃ b, e = .returned (.int .i64 b) ∧ IsBest 0 P.qc.length (cnt P.g.z L) but b ∧ Below w.heap.size w w' := by
  have h8 := h.len8
  have c6 := h.cells
  have HH := Lib.hid h
  clear h
  go_enter Try.func49, Try.ntmps49
  go_wp2
  go_loopw [5, 13] (fun v i wr => ∃ (k : Nat) (b : Int), k ≤ P.qc.length ∧ i = .int .i64 k ∧ v = .int .i64 b ∧ IsBest 0 k (cnt P.g.z L) but b ∧ Below w.heap.size w wr) (fun _ i _ => P.qc.length - (intOf i).toNat)
  case atStart => exact ⟨0, -1, Nat.zero_le _, rfl, rfl, IsBest.zero _ _, Below.refl _ _⟩
  case round =>
    obtain ⟨k, b, hk, rfl, rfl, hb, hB⟩ := hrel
    by_cases hlt : k < P.qc.length
    · have HW := Lib.hid (HH.out.below hB)
      obtain ⟨q, c, hq⟩ := HW.out.at hlt
      have cp := HW.out.pcell hq
      have c6' := HW.out.cells
      have HS := Lib.hid (hb.stepF)
      have HBW := Lib.hid hB
      have HLW := Lib.hid (fun (W : World) (hW : Below wr.heap.size wr W) => q_len W q c _ _ ((HW.out.below hW).que k q c hq))
      by_cases e1 : (k : Int) = but
      · have t1 : ((k : Int) != but) = false := by simpa using e1
        have HST : Hid (stepF (cnt P.g.z L) but b k = b) := Lib.hid (if_neg (fun x => x.1 e1))
        clear hb hB e1
        go_wp2
        refine wp_region_conf2 19 [Fact.eq ?rax0, Fact.eq ?rax1, Fact.eq (.bool false), Fact.eq (.bool false), Fact.eq undef, Fact.eq undef, Fact.eq undef, Fact.eq undef, Fact.eq undef, Fact.eq undef, Fact.eq undef, Fact.eq undef, Fact.eq undef, Fact.eq undef, Fact.eq undef, Fact.eq undef, Fact.eq undef, Fact.eq undef, Fact.eq undef] ?raA (by kernel_rfl) (by kernel_rfl) ?rahA ?raho ?rahend
        case rahA =>
          intro vv
          simp only [putRules, Nat.reduceAdd]
          rfl
        case raho =>
          refine ⟨?_, ?_, ?_, ?_, ?_, ?_, ?_, ?_, ?_, ?_, ?_, ?_, ?_, ?_, ?_, ?_, ?_, ?_, ?_, trivial⟩
          · intro vv W K hB hd HK
            simp only [confRules] at HK
            clear hd
            go_wp2
            refine HK.out _ _ (Below.refl _ _) ?_
            rfl
          · intro vv W K hB hd HK
            simp only [confRules] at HK
            clear hd
            go_wp2
            refine HK.out _ _ (Below.refl _ _) ?_
            rfl
          · intro vv W K hB hd HK
            simp only [confRules] at hd HK
            obtain ⟨h0, h1⟩ := hd
            simp only [h0, h1] at HK ⊢
            clear h0 h1
            go_wp2
            refine HK.out _ _ (Below.refl _ _) ?_
            rfl
          · intro vv W K hB hd HK
            simp only [confRules] at hd HK
            have h2 := hd
            clear hd
            simp only [h2] at HK ⊢
            clear h2
            go_wp2
            refine HK.out _ _ (Below.refl _ _) ?_
            rfl
          · intro vv W K hB hd HK
            simp only [confRules] at hd HK
            have h3 := hd
            clear hd
            simp only [h3] at HK ⊢
            clear h3
            refine wpList_guard_no (by rfl) ?_
            refine HK.out _ _ (Below.refl _ _) ?_
            rfl
          · intro vv W K hB hd HK
            simp only [confRules] at hd HK
            obtain ⟨h4, h3⟩ := hd
            simp only [h4, h3] at HK ⊢
            clear h4 h3
            refine wpList_guard_no (by rfl) ?_
            refine HK.out _ _ (Below.refl _ _) ?_
            rfl
          · intro vv W K hB hd HK
            simp only [confRules] at hd HK
            obtain ⟨h5, h3, _⟩ := hd
            simp only [h5, h3] at HK ⊢
            clear h5 h3
            refine wpList_guard_no (by rfl) ?_
            refine HK.out _ _ (Below.refl _ _) ?_
            rfl
          · intro vv W K hB hd HK
            simp only [confRules] at hd HK
            have h6 := hd
            clear hd
            simp only [h6] at HK ⊢
            clear h6
            refine wpList_guard_un (by rfl) ?_
            refine HK.out _ _ (Below.refl _ _) ?_
            rfl
          · intro vv W K hB hd HK
            simp only [confRules] at hd HK
            obtain ⟨h7, h6, _⟩ := hd
            simp only [h7, h6] at HK ⊢
            clear h7 h6
            refine wpList_guard_un (by rfl) ?_
            refine HK.out _ _ (Below.refl _ _) ?_
            rfl
          · intro vv W K hB hd HK
            simp only [confRules] at hd HK
            have h6 := hd
            clear hd
            simp only [h6] at HK ⊢
            clear h6
            refine wpList_guard_un (by rfl) ?_
            refine HK.out _ _ (Below.refl _ _) ?_
            rfl
          · intro vv W K hB hd HK
            simp only [confRules] at hd HK
            obtain ⟨h9, h6⟩ := hd
            simp only [h9, h6] at HK ⊢
            clear h9 h6
            refine wpList_guard_un (by rfl) ?_
            refine HK.out _ _ (Below.refl _ _) ?_
            rfl
          · intro vv W K hB hd HK
            simp only [confRules] at hd HK
            obtain ⟨h10, h6⟩ := hd
            simp only [h10, h6] at HK ⊢
            clear h10 h6
            refine wpList_guard_un (by rfl) ?_
            refine HK.out _ _ (Below.refl _ _) ?_
            rfl
          · intro vv W K hB hd HK
            simp only [confRules] at hd HK
            obtain ⟨h11, h6⟩ := hd
            simp only [h11, h6] at HK ⊢
            clear h11 h6
            refine wpList_guard_un (by rfl) ?_
            refine HK.out _ _ (Below.refl _ _) ?_
            rfl
          · intro vv W K hB hd HK
            simp only [confRules] at hd HK
            have h6 := hd
            clear hd
            simp only [h6] at HK ⊢
            clear h6
            refine wpList_guard_un (by rfl) ?_
            refine HK.out _ _ (Below.refl _ _) ?_
            rfl
          · intro vv W K hB hd HK
            simp only [confRules] at hd HK
            obtain ⟨h12, h13, h6⟩ := hd
            simp only [h12, h13, h6] at HK ⊢
            clear h12 h13 h6
            refine wpList_guard_un (by rfl) ?_
            refine HK.out _ _ (Below.refl _ _) ?_
            rfl
          · intro vv W K hB hd HK
            simp only [confRules] at hd HK
            obtain ⟨h14, h6⟩ := hd
            simp only [h14, h6] at HK ⊢
            clear h14 h6
            refine wpList_guard_un (by rfl) ?_
            refine HK.out _ _ (Below.refl _ _) ?_
            rfl
          · intro vv W K hB hd HK
            simp only [confRules] at hd HK
            obtain ⟨h15, h8, h6⟩ := hd
            simp only [h15, h8, h6] at HK ⊢
            clear h15 h8 h6
            refine wpList_guard_un (by rfl) ?_
            refine HK.out _ _ (Below.refl _ _) ?_
            rfl
          · intro vv W K hB hd HK
            simp only [confRules] at hd HK
            obtain ⟨h8, h16, h6⟩ := hd
            simp only [h8, h16, h6] at HK ⊢
            clear h8 h16 h6
            refine wpList_guard_un (by rfl) ?_
            refine HK.out _ _ (Below.refl _ _) ?_
            rfl
          · intro vv W K hB hd HK
            simp only [confRules] at hd HK
            obtain ⟨h6, h17, h3⟩ := hd
            simp only [h6, h17, h3] at HK ⊢
            clear h6 h17 h3
            refine wpList_guard_no (by rfl) ?_
            refine HK.out _ _ (Below.refl _ _) ?_
            rfl
        case rahend =>
          intro vv W hB hf
          have e3 := hf 3 (by decide)
          have e18 := hf 18 (by decide)
          simp only [endRules] at e3 e18
          simp only [e3, e18, dropRules]
          clear hf e3 e18
          go_wp2
          go_roundw
          case rel => exact ⟨k + 1, b, by omega, by go_num, rfl, by rw [← HST.out]; exact HS.out, HBW.out.trans (hB.mono HBW.out.size)⟩
          case measure => simp [intOf]; omega
      · have t1 : ((k : Int) != but) = true := by simpa using e1
        by_cases e2 : b < 0
        · have t2 : decide (b < 0) = true := decide_eq_true e2
          have HST : Hid (stepF (cnt P.g.z L) but b k = k) := Lib.hid (if_pos ⟨e1, .inl e2⟩)
          clear hb hB e1
          go_wp2
          refine wp_region_conf2 19 [Fact.eq ?rbx0, Fact.eq ?rbx1, Fact.eq (.bool true), Fact.eq (.bool true), Fact.eq ?rbx4, Fact.eq (.bool true), Fact.eq (.bool true), Fact.eq undef, Fact.eq undef, Fact.eq undef, Fact.eq undef, Fact.eq undef, Fact.eq undef, Fact.eq undef, Fact.eq undef, Fact.eq undef, Fact.eq undef, Fact.eq undef, Fact.eq (.bool true)] ?rbA (by kernel_rfl) (by kernel_rfl) ?rbhA ?rbho ?rbhend
          case rbhA =>
            intro vv
            simp only [putRules, Nat.reduceAdd]
            rfl
          case rbho =>
            refine ⟨?_, ?_, ?_, ?_, ?_, ?_, ?_, ?_, ?_, ?_, ?_, ?_, ?_, ?_, ?_, ?_, ?_, ?_, ?_, trivial⟩
            · intro vv W K hB hd HK
              simp only [confRules] at HK
              clear hd
              go_wp2
              refine HK.out _ _ (Below.refl _ _) ?_
              rfl
            · intro vv W K hB hd HK
              simp only [confRules] at HK
              clear hd
              go_wp2
              refine HK.out _ _ (Below.refl _ _) ?_
              rfl
            · intro vv W K hB hd HK
              simp only [confRules] at hd HK
              obtain ⟨h0, h1⟩ := hd
              simp only [h0, h1] at HK ⊢
              clear h0 h1
              go_wp2
              refine HK.out _ _ (Below.refl _ _) ?_
              rfl
            · intro vv W K hB hd HK
              simp only [confRules] at hd HK
              have h2 := hd
              clear hd
              simp only [h2] at HK ⊢
              clear h2
              go_wp2
              refine HK.out _ _ (Below.refl _ _) ?_
              rfl
            · intro vv W K hB hd HK
              simp only [confRules] at hd HK
              have h3 := hd
              clear hd
              simp only [h3] at HK ⊢
              clear h3
              refine wpList_guard_yes (by rfl) ?_
              go_wp2
              refine HK.out _ _ (Below.refl _ _) ?_
              rfl
            · intro vv W K hB hd HK
              simp only [confRules] at hd HK
              obtain ⟨h4, h3⟩ := hd
              simp only [h4, h3] at HK ⊢
              clear h4 h3
              refine wpList_guard_yes (by rfl) ?_
              go_wp2
              refine HK.out _ _ (Below.refl _ _) ?_
              rfl
            · intro vv W K hB hd HK
              simp only [confRules] at hd HK
              obtain ⟨h5, h3, _⟩ := hd
              simp only [h5, h3] at HK ⊢
              clear h5 h3
              refine wpList_guard_yes (by rfl) ?_
              go_wp2
              refine HK.out _ _ (Below.refl _ _) ?_
              rfl
            · intro vv W K hB hd HK
              simp only [confRules] at hd HK
              have h6 := hd
              clear hd
              simp only [h6] at HK ⊢
              clear h6
              refine wpList_guard_no (by rfl) ?_
              refine HK.out _ _ (Below.refl _ _) ?_
              rfl
            · intro vv W K hB hd HK
              simp only [confRules] at hd HK
              obtain ⟨h7, h6, _⟩ := hd
              simp only [h7, h6] at HK ⊢
              clear h7 h6
              refine wpList_guard_no (by rfl) ?_
              refine HK.out _ _ (Below.refl _ _) ?_
              rfl
            · intro vv W K hB hd HK
              simp only [confRules] at hd HK
              have h6 := hd
              clear hd
              simp only [h6] at HK ⊢
              clear h6
              refine wpList_guard_no (by rfl) ?_
              refine HK.out _ _ (Below.refl _ _) ?_
              rfl
            · intro vv W K hB hd HK
              simp only [confRules] at hd HK
              obtain ⟨h9, h6⟩ := hd
              simp only [h9, h6] at HK ⊢
              clear h9 h6
              refine wpList_guard_no (by rfl) ?_
              refine HK.out _ _ (Below.refl _ _) ?_
              rfl
            · intro vv W K hB hd HK
              simp only [confRules] at hd HK
              obtain ⟨h10, h6⟩ := hd
              simp only [h10, h6] at HK ⊢
              clear h10 h6
              refine wpList_guard_no (by rfl) ?_
              refine HK.out _ _ (Below.refl _ _) ?_
              rfl
            · intro vv W K hB hd HK
              simp only [confRules] at hd HK
              obtain ⟨h11, h6⟩ := hd
              simp only [h11, h6] at HK ⊢
              clear h11 h6
              refine wpList_guard_no (by rfl) ?_
              refine HK.out _ _ (Below.refl _ _) ?_
              rfl
            · intro vv W K hB hd HK
              simp only [confRules] at hd HK
              have h6 := hd
              clear hd
              simp only [h6] at HK ⊢
              clear h6
              refine wpList_guard_no (by rfl) ?_
              refine HK.out _ _ (Below.refl _ _) ?_
              rfl
            · intro vv W K hB hd HK
              simp only [confRules] at hd HK
              obtain ⟨h12, h13, h6⟩ := hd
              simp only [h12, h13, h6] at HK ⊢
              clear h12 h13 h6
              refine wpList_guard_no (by rfl) ?_
              refine HK.out _ _ (Below.refl _ _) ?_
              rfl
            · intro vv W K hB hd HK
              simp only [confRules] at hd HK
              obtain ⟨h14, h6⟩ := hd
              simp only [h14, h6] at HK ⊢
              clear h14 h6
              refine wpList_guard_no (by rfl) ?_
              refine HK.out _ _ (Below.refl _ _) ?_
              rfl
            · intro vv W K hB hd HK
              simp only [confRules] at hd HK
              obtain ⟨h15, h8, h6⟩ := hd
              simp only [h15, h8, h6] at HK ⊢
              clear h15 h8 h6
              refine wpList_guard_no (by rfl) ?_
              refine HK.out _ _ (Below.refl _ _) ?_
              rfl
            · intro vv W K hB hd HK
              simp only [confRules] at hd HK
              obtain ⟨h8, h16, h6⟩ := hd
              simp only [h8, h16, h6] at HK ⊢
              clear h8 h16 h6
              refine wpList_guard_no (by rfl) ?_
              refine HK.out _ _ (Below.refl _ _) ?_
              rfl
            · intro vv W K hB hd HK
              simp only [confRules] at hd HK
              obtain ⟨h6, h17, h3⟩ := hd
              simp only [h6, h17, h3] at HK ⊢
              clear h6 h17 h3
              refine wpList_guard_yes (by rfl) ?_
              go_wp2
              refine HK.out _ _ (Below.refl _ _) ?_
              rfl
          case rbhend =>
            intro vv W hB hf
            have e3 := hf 3 (by decide)
            have e18 := hf 18 (by decide)
            simp only [endRules] at e3 e18
            simp only [e3, e18, dropRules]
            clear hf e3 e18
            go_wp2
            go_roundw
            case rel => exact ⟨k + 1, k, by omega, by go_num, rfl, by rw [← HST.out]; exact HS.out, HBW.out.trans (hB.mono HBW.out.size)⟩
            case measure => simp [intOf]; omega
        · have t2 : decide (b < 0) = false := decide_eq_false e2
          obtain ⟨m, hm, rfl⟩ : ∃ m : Nat, m < P.qc.length ∧ b = m := by
            rcases hb with ⟨rfl, -⟩ | ⟨m, -, h2, rfl, -⟩
            · omega
            · exact ⟨m, by omega, rfl⟩
          obtain ⟨qm, cm, hqm⟩ := HW.out.at hm
          have cpm := HW.out.pcell hqm
          have HLM := Lib.hid (fun (W : World) (hW : Below wr.heap.size wr W) => q_len W qm cm _ _ ((HW.out.below hW).que m qm cm hqm))
          by_cases e3 : cnt P.g.z L m < cnt P.g.z L k
          · have t3 : decide (((dl P.g.z L m).length : Int) < ((dl P.g.z L k).length : Int)) = true := decide_eq_true (by unfold cnt at e3; omega)
            have HST : Hid (stepF (cnt P.g.z L) but m k = k) := Lib.hid (if_pos ⟨e1, .inr (by simpa using e3)⟩)
            clear hb hB e1 e2 e3
            generalize hdm : ((dl P.g.z L m).length : Int) = lm at *
            generalize hdk : ((dl P.g.z L k).length : Int) = lk at *
            go_wp2
            refine wp_region_conf2 19 [Fact.eq ?rcx0, Fact.eq ?rcx1, Fact.eq (.bool true), Fact.eq (.bool true), Fact.eq ?rcx4, Fact.eq (.bool false), Fact.eq (.bool false), Fact.eq ?rcx7, Fact.eq ?rcx8, Fact.eq ?rcx9, Fact.eq ?rcx10, Fact.eq ?rcx11, Fact.eq ?rcx12, Fact.eq ?rcx13, Fact.eq ?rcx14, Fact.eq ?rcx15, Fact.eq ?rcx16, Fact.eq (.bool true), Fact.eq (.bool true)] ?rcA (by kernel_rfl) (by kernel_rfl) ?rchA ?rcho ?rchend
            case rchA =>
              intro vv
              simp only [putRules, Nat.reduceAdd]
              rfl
            case rcho =>
              refine ⟨?_, ?_, ?_, ?_, ?_, ?_, ?_, ?_, ?_, ?_, ?_, ?_, ?_, ?_, ?_, ?_, ?_, ?_, ?_, trivial⟩
              · intro vv W K hB hd HK
                simp only [confRules] at HK
                clear hd
                go_wp2
                refine HK.out _ _ (Below.refl _ _) ?_
                rfl
              · intro vv W K hB hd HK
                simp only [confRules] at HK
                clear hd
                go_wp2
                refine HK.out _ _ (Below.refl _ _) ?_
                rfl
              · intro vv W K hB hd HK
                simp only [confRules] at hd HK
                obtain ⟨h0, h1⟩ := hd
                simp only [h0, h1] at HK ⊢
                clear h0 h1
                go_wp2
                refine HK.out _ _ (Below.refl _ _) ?_
                rfl
              · intro vv W K hB hd HK
                simp only [confRules] at hd HK
                have h2 := hd
                clear hd
                simp only [h2] at HK ⊢
                clear h2
                go_wp2
                refine HK.out _ _ (Below.refl _ _) ?_
                rfl
              · intro vv W K hB hd HK
                simp only [confRules] at hd HK
                have h3 := hd
                clear hd
                simp only [h3] at HK ⊢
                clear h3
                refine wpList_guard_yes (by rfl) ?_
                go_wp2
                refine HK.out _ _ (Below.refl _ _) ?_
                rfl
              · intro vv W K hB hd HK
                simp only [confRules] at hd HK
                obtain ⟨h4, h3⟩ := hd
                simp only [h4, h3] at HK ⊢
                clear h4 h3
                refine wpList_guard_yes (by rfl) ?_
                go_wp2
                refine HK.out _ _ (Below.refl _ _) ?_
                rfl
              · intro vv W K hB hd HK
                simp only [confRules] at hd HK
                obtain ⟨h5, h3, _⟩ := hd
                simp only [h5, h3] at HK ⊢
                clear h5 h3
                refine wpList_guard_yes (by rfl) ?_
                go_wp2
                refine HK.out _ _ (Below.refl _ _) ?_
                rfl
              · intro vv W K hB hd HK
                simp only [confRules] at hd HK
                have h6 := hd
                clear hd
                simp only [h6] at HK ⊢
                clear h6
                refine wpList_guard_yes (by rfl) ?_
                go_wp2
                refine HK.out _ _ (Below.refl _ _) ?_
                rfl
              · intro vv W K hB hd HK
                simp only [confRules] at hd HK
                obtain ⟨h7, h6, _⟩ := hd
                simp only [h7, h6] at HK ⊢
                clear h7 h6
                refine wpList_guard_yes (by rfl) ?_
                go_wp2_with (refine (HLW.out _ hB).mono ?_; rintro e w9 ⟨rfl, rfl⟩)
                refine HK.out _ _ (Below.refl _ _) ?_
                rfl
              · intro vv W K hB hd HK
                simp only [confRules] at hd HK
                have h6 := hd
                clear hd
                simp only [h6] at HK ⊢
                clear h6
                refine wpList_guard_yes (by rfl) ?_
                go_wp2
                refine HK.out _ _ (Below.refl _ _) ?_
                rfl
              · intro vv W K hB hd HK
                simp only [confRules] at hd HK
                obtain ⟨h9, h6⟩ := hd
                simp only [h9, h6] at HK ⊢
                clear h9 h6
                refine wpList_guard_yes (by rfl) ?_
                go_wp2
                refine HK.out _ _ (Below.refl _ _) ?_
                rfl
              · intro vv W K hB hd HK
                simp only [confRules] at hd HK
                obtain ⟨h10, h6⟩ := hd
                simp only [h10, h6] at HK ⊢
                clear h10 h6
                refine wpList_guard_yes (by rfl) ?_
                go_wp2
                refine HK.out _ _ (Below.refl _ _) ?_
                rfl
              · intro vv W K hB hd HK
                simp only [confRules] at hd HK
                obtain ⟨h11, h6⟩ := hd
                simp only [h11, h6] at HK ⊢
                clear h11 h6
                refine wpList_guard_yes (by rfl) ?_
                have hT := (HW.out.below hB).cells
                go_wp2
                refine HK.out _ _ (Below.refl _ _) ?_
                rfl
              · intro vv W K hB hd HK
                simp only [confRules] at hd HK
                have h6 := hd
                clear hd
                simp only [h6] at HK ⊢
                clear h6
                refine wpList_guard_yes (by rfl) ?_
                go_wp2
                refine HK.out _ _ (Below.refl _ _) ?_
                rfl
              · intro vv W K hB hd HK
                simp only [confRules] at hd HK
                obtain ⟨h12, h13, h6⟩ := hd
                simp only [h12, h13, h6] at HK ⊢
                clear h12 h13 h6
                refine wpList_guard_yes (by rfl) ?_
                go_wp2
                refine HK.out _ _ (Below.refl _ _) ?_
                rfl
              · intro vv W K hB hd HK
                simp only [confRules] at hd HK
                obtain ⟨h14, h6⟩ := hd
                simp only [h14, h6] at HK ⊢
                clear h14 h6
                refine wpList_guard_yes (by rfl) ?_
                have hT := (HW.out.below hB).pcell hqm
                go_wp2
                refine HK.out _ _ (Below.refl _ _) ?_
                rfl
              · intro vv W K hB hd HK
                simp only [confRules] at hd HK
                obtain ⟨h15, h8, h6⟩ := hd
                simp only [h15, h8, h6] at HK ⊢
                clear h15 h8 h6
                refine wpList_guard_yes (by rfl) ?_
                go_wp2_with (refine (HLM.out _ hB).mono ?_; rintro e w9 ⟨rfl, rfl⟩)
                refine HK.out _ _ (Below.refl _ _) ?_
                rfl
              · intro vv W K hB hd HK
                simp only [confRules] at hd HK
                obtain ⟨h8, h16, h6⟩ := hd
                simp only [h8, h16, h6] at HK ⊢
                clear h8 h16 h6
                refine wpList_guard_yes (by rfl) ?_
                go_wp2
                refine HK.out _ _ (Below.refl _ _) ?_
                rfl
              · intro vv W K hB hd HK
                simp only [confRules] at hd HK
                obtain ⟨h6, h17, h3⟩ := hd
                simp only [h6, h17, h3] at HK ⊢
                clear h6 h17 h3
                refine wpList_guard_yes (by rfl) ?_
                go_wp2
                refine HK.out _ _ (Below.refl _ _) ?_
                rfl
            case rchend =>
              intro vv W hB hf
              have e3 := hf 3 (by decide)
              have e18 := hf 18 (by decide)
              simp only [endRules] at e3 e18
              simp only [e3, e18, dropRules]
              clear hf e3 e18
              go_wp2
              go_roundw
              case rel => exact ⟨k + 1, k, by omega, by go_num, rfl, by rw [← HST.out]; exact HS.out, HBW.out.trans (hB.mono HBW.out.size)⟩
              case measure => simp [intOf]; omega
          · have t3 : decide (((dl P.g.z L m).length : Int) < ((dl P.g.z L k).length : Int)) = false := decide_eq_false (by unfold cnt at e3; omega)
            have HST : Hid (stepF (cnt P.g.z L) but m k = m) := Lib.hid (if_neg (fun x => by rcases x.2 with x | x; exact e2 x; exact e3 (by simpa using x)))
            clear hb hB e1 e2 e3
            generalize hdm : ((dl P.g.z L m).length : Int) = lm at *
            generalize hdk : ((dl P.g.z L k).length : Int) = lk at *
            go_wp2
            refine wp_region_conf2 19 [Fact.eq ?rdx0, Fact.eq ?rdx1, Fact.eq (.bool true), Fact.eq (.bool true), Fact.eq ?rdx4, Fact.eq (.bool false), Fact.eq (.bool false), Fact.eq ?rdx7, Fact.eq ?rdx8, Fact.eq ?rdx9, Fact.eq ?rdx10, Fact.eq ?rdx11, Fact.eq ?rdx12, Fact.eq ?rdx13, Fact.eq ?rdx14, Fact.eq ?rdx15, Fact.eq ?rdx16, Fact.eq (.bool false), Fact.eq (.bool false)] ?rdA (by kernel_rfl) (by kernel_rfl) ?rdhA ?rdho ?rdhend
            case rdhA =>
              intro vv
              simp only [putRules, Nat.reduceAdd]
              rfl
            case rdho =>
              refine ⟨?_, ?_, ?_, ?_, ?_, ?_, ?_, ?_, ?_, ?_, ?_, ?_, ?_, ?_, ?_, ?_, ?_, ?_, ?_, trivial⟩
              · intro vv W K hB hd HK
                simp only [confRules] at HK
                clear hd
                go_wp2
                refine HK.out _ _ (Below.refl _ _) ?_
                rfl
              · intro vv W K hB hd HK
                simp only [confRules] at HK
                clear hd
                go_wp2
                refine HK.out _ _ (Below.refl _ _) ?_
                rfl
              · intro vv W K hB hd HK
                simp only [confRules] at hd HK
                obtain ⟨h0, h1⟩ := hd
                simp only [h0, h1] at HK ⊢
                clear h0 h1
                go_wp2
                refine HK.out _ _ (Below.refl _ _) ?_
                rfl
              · intro vv W K hB hd HK
                simp only [confRules] at hd HK
                have h2 := hd
                clear hd
                simp only [h2] at HK ⊢
                clear h2
                go_wp2
                refine HK.out _ _ (Below.refl _ _) ?_
                rfl
              · intro vv W K hB hd HK
                simp only [confRules] at hd HK
                have h3 := hd
                clear hd
                simp only [h3] at HK ⊢
                clear h3
                refine wpList_guard_yes (by rfl) ?_
                go_wp2
                refine HK.out _ _ (Below.refl _ _) ?_
                rfl
              · intro vv W K hB hd HK
                simp only [confRules] at hd HK
                obtain ⟨h4, h3⟩ := hd
                simp only [h4, h3] at HK ⊢
                clear h4 h3
                refine wpList_guard_yes (by rfl) ?_
                go_wp2
                refine HK.out _ _ (Below.refl _ _) ?_
                rfl
              · intro vv W K hB hd HK
                simp only [confRules] at hd HK
                obtain ⟨h5, h3, _⟩ := hd
                simp only [h5, h3] at HK ⊢
                clear h5 h3
                refine wpList_guard_yes (by rfl) ?_
                go_wp2
                refine HK.out _ _ (Below.refl _ _) ?_
                rfl
              · intro vv W K hB hd HK
                simp only [confRules] at hd HK
                have h6 := hd
                clear hd
                simp only [h6] at HK ⊢
                clear h6
                refine wpList_guard_yes (by rfl) ?_
                go_wp2
                refine HK.out _ _ (Below.refl _ _) ?_
                rfl
              · intro vv W K hB hd HK
                simp only [confRules] at hd HK
                obtain ⟨h7, h6, _⟩ := hd
                simp only [h7, h6] at HK ⊢
                clear h7 h6
                refine wpList_guard_yes (by rfl) ?_
                go_wp2_with (refine (HLW.out _ hB).mono ?_; rintro e w9 ⟨rfl, rfl⟩)
                refine HK.out _ _ (Below.refl _ _) ?_
                rfl
              · intro vv W K hB hd HK
                simp only [confRules] at hd HK
                have h6 := hd
                clear hd
                simp only [h6] at HK ⊢
                clear h6
                refine wpList_guard_yes (by rfl) ?_
                go_wp2
                refine HK.out _ _ (Below.refl _ _) ?_
                rfl
              · intro vv W K hB hd HK
                simp only [confRules] at hd HK
                obtain ⟨h9, h6⟩ := hd
                simp only [h9, h6] at HK ⊢
                clear h9 h6
                refine wpList_guard_yes (by rfl) ?_
                go_wp2
                refine HK.out _ _ (Below.refl _ _) ?_
                rfl
              · intro vv W K hB hd HK
                simp only [confRules] at hd HK
                obtain ⟨h10, h6⟩ := hd
                simp only [h10, h6] at HK ⊢
                clear h10 h6
                refine wpList_guard_yes (by rfl) ?_
                go_wp2
                refine HK.out _ _ (Below.refl _ _) ?_
                rfl
              · intro vv W K hB hd HK
                simp only [confRules] at hd HK
                obtain ⟨h11, h6⟩ := hd
                simp only [h11, h6] at HK ⊢
                clear h11 h6
                refine wpList_guard_yes (by rfl) ?_
                have hT := (HW.out.below hB).cells
                go_wp2
                refine HK.out _ _ (Below.refl _ _) ?_
                rfl
              · intro vv W K hB hd HK
                simp only [confRules] at hd HK
                have h6 := hd
                clear hd
                simp only [h6] at HK ⊢
                clear h6
                refine wpList_guard_yes (by rfl) ?_
                go_wp2
                refine HK.out _ _ (Below.refl _ _) ?_
                rfl
              · intro vv W K hB hd HK
                simp only [confRules] at hd HK
                obtain ⟨h12, h13, h6⟩ := hd
                simp only [h12, h13, h6] at HK ⊢
                clear h12 h13 h6
                refine wpList_guard_yes (by rfl) ?_
                go_wp2
                refine HK.out _ _ (Below.refl _ _) ?_
                rfl
              · intro vv W K hB hd HK
                simp only [confRules] at hd HK
                obtain ⟨h14, h6⟩ := hd
                simp only [h14, h6] at HK ⊢
                clear h14 h6
                refine wpList_guard_yes (by rfl) ?_
                have hT := (HW.out.below hB).pcell hqm
                go_wp2
                refine HK.out _ _ (Below.refl _ _) ?_
                rfl
              · intro vv W K hB hd HK
                simp only [confRules] at hd HK
                obtain ⟨h15, h8, h6⟩ := hd
                simp only [h15, h8, h6] at HK ⊢
                clear h15 h8 h6
                refine wpList_guard_yes (by rfl) ?_
                go_wp2_with (refine (HLM.out _ hB).mono ?_; rintro e w9 ⟨rfl, rfl⟩)
                refine HK.out _ _ (Below.refl _ _) ?_
                rfl
              · intro vv W K hB hd HK
                simp only [confRules] at hd HK
                obtain ⟨h8, h16, h6⟩ := hd
                simp only [h8, h16, h6] at HK ⊢
                clear h8 h16 h6
                refine wpList_guard_yes (by rfl) ?_
                go_wp2
                refine HK.out _ _ (Below.refl _ _) ?_
                rfl
              · intro vv W K hB hd HK
                simp only [confRules] at hd HK
                obtain ⟨h6, h17, h3⟩ := hd
                simp only [h6, h17, h3] at HK ⊢
                clear h6 h17 h3
                refine wpList_guard_yes (by rfl) ?_
                go_wp2
                refine HK.out _ _ (Below.refl _ _) ?_
                rfl
            case rdhend =>
              intro vv W hB hf
              have e3 := hf 3 (by decide)
              have e18 := hf 18 (by decide)
              simp only [endRules] at e3 e18
              simp only [e3, e18, dropRules]
              clear hf e3 e18
              go_wp2
              go_roundw
              case rel => exact ⟨k + 1, m, by omega, by go_num, rfl, by rw [← HST.out]; exact HS.out, HBW.out.trans (hB.mono HBW.out.size)⟩
              case measure => simp [intOf]; omega
    · obtain rfl : k = P.qc.length := by omega
      go_wp2
      go_ret
      exact ⟨b, rfl, hb, hB⟩
end Go.Proofs.Ytogijlpclceanaa
