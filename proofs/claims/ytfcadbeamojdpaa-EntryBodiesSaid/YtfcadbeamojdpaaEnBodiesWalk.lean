/- Proved here: the walk of the law on the bodies of entries. -/
import Derived.Test.YtfcadbeamojdpaaEnEq
import Derived.Test.YtfcadbeamojdpaaEnAnchor
import Derived.Test.YtfcadbeamojdpaaFrFits
namespace Go.Proofs.Ytfcadbeamojdpaa
open Go.RowKit Go.Rv Frm
set_option linter.unusedVariables false
theorem body_cells_one (l : List Nat) : (byteCells l).all (·.oneCell') = true := by
  rw [Array.all_eq_true]
  intro i hi
  simp [byteCells, Value.oneCell']
theorem built_b0 : Try.prog.built 22 [] = some (byteCells (List.replicate 44 0)) := by kernel_rfl
set_option maxRecDepth 100000 in
set_option maxHeartbeats 8000000 in
theorem en_bodies_core (X BC G OC EZ Z : Array Value) (kind ke be oe : Int) (r okb : Bool) (w : World)
    (hIX : (Try.prog.info? 55).map (·.size) = some X.size) (hIB : (Try.prog.info? 22).map (·.size) = some BC.size) (hIG : (Try.prog.info? 22).map (·.size) = some G.size)
    (hIO : (Try.prog.info? 55).map (·.size) = some OC.size) (hIT : (Try.prog.info? 64).map (·.size) = some OC.size)
    (h1X : X.all (·.oneCell') = true) (h1B : BC.all (·.oneCell') = true) (h1O : OC.all (·.oneCell') = true)
    (hSX : EZ.size = X.size) (hSB : Z.size = BC.size) (hSO : EZ.size = OC.size)
    (hzE : ∀ w : World, (zeroValue 55).run Try.prog w = .ok (.agg EZ) w) (hzT : ∀ w : World, (zeroValue 64).run Try.prog w = .ok (.agg EZ) w) (hzA : ∀ w : World, (zeroValue 22).run Try.prog w = .ok (.agg Z) w)
    (hb0 : Try.prog.built 55 [] = some EZ) (hbz : Try.prog.built 22 [] = some Z)
    (hKE : ∀ (W : World) (b : Nat), W.heap[b]? = some (.cells X 55 (0, 0)) → W.cell? ⟨b, 0, none⟩ = some (.int .i64 ke))
    (hBD : ∀ W, Calls Try.prog 28 #[.agg X] W fun x w' => x = .returned (.tuple #[.agg BC, .int .i64 be]) ∧ Below W.heap.size W w')
    (hRT : ∀ W, Calls Try.prog 29 #[.agg X] W fun x w' => x = .returned (.bool r) ∧ Below W.heap.size W w')
    (hLO : ∀ W, Calls Try.prog 32 #[.agg X] W fun x w' => x = .returned (.agg X) ∧ Below W.heap.size W w')
    (hLP : ∀ W, Calls Try.prog 32 #[.agg OC] W fun x w' => x = .returned (.agg OC) ∧ Below W.heap.size W w')
    (hRR : ∀ W, Calls Try.prog 33 #[.agg X] W fun x w' => x = .returned (.bool r) ∧ Below W.heap.size W w')
    (hOF : ∀ W, Calls Try.prog 34 #[.int .i64 kind, .agg G] W fun x w' => x = .returned (.tuple #[.agg OC, .int .i64 oe]) ∧ Below W.heap.size W w')
    (hRO : ∀ W, Calls Try.prog 36 #[.int .i64 kind, .agg G] W fun x w' => x = .returned (.tuple #[.agg OC, .bool okb]) ∧ Below W.heap.size W w')
    (hqX : ∀ W, (Op.equalIn 10000 55 (.agg X) (.agg X)).run Try.prog W = .ok true W) (hqB : ∀ W, (Op.equalIn 10000 22 (.agg BC) (.agg BC)).run Try.prog W = .ok true W)
    (hqG : ∀ W, (Op.equalIn 10000 22 (.agg G) (.agg G)).run Try.prog W = .ok true W) (hqO : ∀ W, (Op.equalIn 10000 64 (.agg OC) (.agg OC)).run Try.prog W = .ok true W)
    (hqZ : ∀ W, (Op.equalIn 10000 55 (.agg EZ) (.agg EZ)).run Try.prog W = .ok true W)
    (h1 : (r = false ∧ be = 10 ∧ BC = Z) ∨ (r = true ∧ be = 0 ∧ (∀ W, Calls Try.prog 35 #[.agg X] W fun x w' => x = .returned (.agg BC) ∧ Below W.heap.size W w') ∧
      (∀ W, Calls Try.prog 34 #[.int .i64 ke, .agg BC] W fun x w' => x = .returned (.tuple #[.agg X, .int .i64 0]) ∧ Below W.heap.size W w')))
    (h2 : (okb = false ∧ oe = 10 ∧ OC = EZ) ∨ (okb = true ∧ oe = 0 ∧ (∀ W, Calls Try.prog 35 #[.agg OC] W fun x w' => x = .returned (.agg G) ∧ Below W.heap.size W w'))) :
    Calls Try.prog 12 #[.agg X, .int .i64 kind, .agg G] w fun e w' => e = .returned (.bool true) ∧ Below w.heap.size w w' := by
  have HIX := Lib.hid hIX
  have HIB := Lib.hid hIB
  have HIG := Lib.hid hIG
  have HIO := Lib.hid hIO
  have HIT := Lib.hid hIT
  have H1X := Lib.hid h1X
  have H1B := Lib.hid h1B
  have H1O := Lib.hid h1O
  have HSX := Lib.hid hSX
  have HSB := Lib.hid hSB
  have HSO := Lib.hid hSO
  have Hb0 := Lib.hid hb0
  have Hbz := Lib.hid hbz
  have HKE := Lib.hid hKE
  have HBD := Lib.hid hBD
  have HRT := Lib.hid hRT
  have HLO := Lib.hid hLO
  have HLP := Lib.hid hLP
  have HRR := Lib.hid hRR
  have HOF := Lib.hid hOF
  have HRO := Lib.hid hRO
  have HqX := Lib.hid hqX
  have HqB := Lib.hid hqB
  have HqG := Lib.hid hqG
  have HqO := Lib.hid hqO
  have HqZ := Lib.hid hqZ
  have H1 := Lib.hid h1
  have H2 := Lib.hid h2
  clear hIX hIB hIG hIO hIT h1X h1B h1O hSX hSB hSO hb0 hbz hKE hBD hRT hLO hLP hRR hOF hRO hqX hqB hqG hqO hqZ h1 h2
  have HAN := Lib.hid (fun W => en_anchor W)
  have hB0 := ((Below.refl w.heap.size w).alloc (Nat.le_refl _) (.cells X 55)).alloc (by simp) (.cells G 22)
  have hX0 := heap_alloc2_old w (.cells X 55) (.cells G 22)
  have hG0 := heap_alloc2_new w (.cells X 55) (.cells G 22)
  go_enter Try.func12, Try.ntmps12
  go_wp2_with fail
  refine (HAN.out _).mono ?_
  rintro x w1 ⟨rfl, hB1⟩
  have z1 := hB1.size
  simp only [World.size_alloc] at z1
  have HX1 := Lib.hid ((hB1.block w.heap.size (by simp; omega)).trans hX0)
  have HG1 := Lib.hid ((hB1.block (w.heap.size + 1) (by simp)).trans hG0)
  have HBB1 := Lib.hid (hB0.trans (hB1.mono (by simp; omega)))
  clear hX0 hG0 hB0 hB1
  go_wp2_with (refine wpList_load_row rfl 55 _ rfl w.heap.size rfl 55 _ _ _ HX1.out Try.underlying55 rfl HIX.out ?_)
  refine (HBD.out _).mono ?_
  rintro x w2 ⟨rfl, hB2⟩
  have z2 := hB2.size
  obtain ⟨W3, hW3⟩ : ∃ W3, w2.alloc (.cells BC 22) = W3 := ⟨_, rfl⟩
  have hb3 : Below w2.heap.size w2 W3 := by rw [← hW3]; exact (Below.refl _ _).alloc (Nat.le_refl _) _
  have HB3 : Hid (W3.heap[w2.heap.size]? = some (.cells BC 22 (0, 0))) := Lib.hid (by rw [← hW3]; exact heap_alloc_new w2 _)
  have hB13 : Below w1.heap.size w1 W3 := hB2.trans (hb3.mono z2)
  have HX3 := Lib.hid ((hB13.block w.heap.size (by omega)).trans HX1.out)
  have HG3 := Lib.hid ((hB13.block (w.heap.size + 1) (by omega)).trans HG1.out)
  have HBB3 := Lib.hid (HBB1.out.trans (hB13.mono HBB1.out.size))
  have z3 : w2.heap.size < W3.heap.size := (Array.getElem?_eq_some_iff.1 HB3.out).1
  have HW3 := Lib.hid hW3
  clear hB2 hb3 hB13 hW3
  go_upto_region 4 with (refine wpList_store_row rfl 22 _ _ rfl w2.heap.size BC rfl rfl 22 Z (heap_alloc_new w2 _) HIB.out HSB.out H1B.out ?_; rw [World.setRow_alloc_new])
  rw [HW3.out]
  have h1 := H1.out
  rcases h1 with ⟨rfl, rfl, rfl⟩ | ⟨rfl, rfl, hRB, hOB⟩
  · clear H1
    refine wp_region_conf2 5 [Fact.eq (.agg X), Fact.eq (.bool false), Fact.eq (.agg X), Fact.eq (.agg X), Fact.eq (.bool false)] ?ranA (by kernel_rfl) (by kernel_rfl) ?ranhA ?ranho ?ranhend
    case ranhA =>
      intro vv
      simp only [putRules, Nat.reduceAdd]
      rfl
    case ranho =>
      refine ⟨?_, ?_, ?_, ?_, ?_, trivial⟩
      · intro vv W K hB hd HK
        simp only [confRules] at HK
        clear hd
        have hT := (hB.block (w.heap.size) (by omega)).trans HX3.out
        go_wp2_with (refine wpList_row_on (by rfl) 55 _ rfl w.heap.size rfl 55 _ _ _ hT Try.underlying55 rfl HIX.out ?_)
        refine HK.out _ _ (Below.refl _ _) ?_
        rfl
      · intro vv W K hB hd HK
        simp only [confRules] at hd HK
        have h0 := hd
        clear hd
        simp only [h0] at HK ⊢
        clear h0
        go_wp2_with (refine (HRT.out _).mono ?_; rintro e w9 ⟨rfl, hB9⟩)
        refine HK.out _ _ hB9 ?_
        rfl
      · intro vv W K hB hd HK
        simp only [confRules] at HK
        clear hd
        have hT := (hB.block (w.heap.size) (by omega)).trans HX3.out
        go_wp2_with (refine wpList_row_on (by rfl) 55 _ rfl w.heap.size rfl 55 _ _ _ hT Try.underlying55 rfl HIX.out ?_)
        refine HK.out _ _ (Below.refl _ _) ?_
        rfl
      · intro vv W K hB hd HK
        simp only [confRules] at hd HK
        obtain ⟨h2, h1⟩ := hd
        simp only [h2, h1] at HK ⊢
        clear h2 h1
        go_wp2_with (refine (HLO.out _).mono ?_; rintro e w9 ⟨rfl, hB9⟩)
        refine HK.out _ _ hB9 ?_
        rfl
      · intro vv W K hB hd HK
        simp only [confRules] at hd HK
        obtain ⟨h3, _⟩ := hd
        simp only [h3] at HK ⊢
        clear h3
        go_wp2_with (refine (HRR.out _).mono ?_; rintro e w9 ⟨rfl, hB9⟩)
        refine HK.out _ _ hB9 ?_
        rfl
    case ranhend =>
      intro vv W hB hf
      have e1 := hf 1 (by decide)
      have e4 := hf 4 (by decide)
      simp only [endRules] at e1 e4
      simp only [e1, e4, dropRules]
      clear hf e1 e4
      have HX5 := Lib.hid ((hB.block w.heap.size (by omega)).trans HX3.out)
      have HG5 := Lib.hid ((hB.block (w.heap.size + 1) (by omega)).trans HG3.out)
      have HC5 := Lib.hid ((hB.block w2.heap.size z3).trans HB3.out)
      have HBB5 := Lib.hid (HBB3.out.trans (hB.mono HBB3.out.size))
      have z5 := hB.size
      clear hB
      go_wp2_with (refine wpList_load_row rfl 55 _ rfl w.heap.size rfl 55 _ _ _ HX5.out Try.underlying55 rfl HIX.out ?_)
      refine (HLO.out _).mono ?_
      rintro x w10 ⟨rfl, hB10⟩
      go_wp2_with fail
      refine (HRR.out _).mono ?_
      rintro x w11 ⟨rfl, hB11⟩
      have hB := hB10.trans (hB11.mono hB10.size)
      have z11 := hB.size
      have HX11 := Lib.hid ((hB.block w.heap.size (by omega)).trans HX5.out)
      have HG11 := Lib.hid ((hB.block (w.heap.size + 1) (by omega)).trans HG5.out)
      have HC11 := Lib.hid ((hB.block w2.heap.size (by omega)).trans HC5.out)
      have HBB11 := Lib.hid (HBB5.out.trans (hB.mono HBB5.out.size))
      clear hB hB10 hB11
      go_upto_region 7 with (fail)
      go_wp2_with (first | (refine wpList_row_on (by rfl) 22 _ rfl w2.heap.size rfl 22 _ _ _ HC11.out Try.underlying22 rfl HIB.out ?_) | (refine wpList_build_asked (by rfl) 22 _ rfl #[] (by simp) BC Hbz.out ?_) | (refine wpList_neq_on (by rfl) 22 22 _ _ rfl BC BC rfl rfl (by kernel_rfl) true HqB.out ?_) | (refine wpList_row_on (by rfl) 22 _ rfl (w.heap.size + 1) rfl 22 _ _ _ HG11.out Try.underlying22 rfl HIG.out ?_))
      have zG := (Array.getElem?_eq_some_iff.1 HG11.out).1
      refine (HOF.out _).mono ?_
      rintro x w6 ⟨rfl, hB6⟩
      have z6 := hB6.size
      obtain ⟨W7, hW7⟩ : ∃ W7, w6.alloc (.cells OC 55) = W7 := ⟨_, rfl⟩
      have hb7 : Below w6.heap.size w6 W7 := by rw [← hW7]; exact (Below.refl _ _).alloc (Nat.le_refl _) _
      have HO7 : Hid (W7.heap[w6.heap.size]? = some (.cells OC 55 (0, 0))) := Lib.hid (by rw [← hW7]; exact heap_alloc_new w6 _)
      have hB57 : Below w11.heap.size w11 W7 := hB6.trans (hb7.mono z6)
      have HG7 := Lib.hid ((hB57.block (w.heap.size + 1) zG).trans HG11.out)
      have HBB7 := Lib.hid (HBB11.out.trans (hB57.mono HBB11.out.size))
      have z7 : w6.heap.size < W7.heap.size := (Array.getElem?_eq_some_iff.1 HO7.out).1
      have HW7 := Lib.hid hW7
      clear hB6 hb7 hB57 hW7
      go_upto_region 13 with (refine wpList_store_row rfl 55 _ _ rfl w6.heap.size OC rfl rfl 55 EZ (heap_alloc_new w6 _) HIO.out HSO.out H1O.out ?_; rw [World.setRow_alloc_new])
      rw [HW7.out]
      go_wp2_with (refine wpList_load_row rfl 22 _ rfl (w.heap.size + 1) rfl 22 _ _ _ HG7.out Try.underlying22 rfl HIG.out ?_)
      refine (HRO.out _).mono ?_
      rintro x w8 ⟨rfl, hB8⟩
      have z8 := hB8.size
      obtain ⟨W9, hW9⟩ : ∃ W9, w8.alloc (.cells OC 64) = W9 := ⟨_, rfl⟩
      have hb9 : Below w8.heap.size w8 W9 := by rw [← hW9]; exact (Below.refl _ _).alloc (Nat.le_refl _) _
      have HP9 : Hid (W9.heap[w8.heap.size]? = some (.cells OC 64 (0, 0))) := Lib.hid (by rw [← hW9]; exact heap_alloc_new w8 _)
      have hB79 : Below W7.heap.size W7 W9 := hB8.trans (hb9.mono z8)
      have HO9 := Lib.hid ((hB79.block w6.heap.size z7).trans HO7.out)
      have HG9 := Lib.hid ((hB79.block (w.heap.size + 1) (by omega)).trans HG7.out)
      have HBB9 := Lib.hid (HBB7.out.trans (hB79.mono HBB7.out.size))
      have z9 : w8.heap.size < W9.heap.size := (Array.getElem?_eq_some_iff.1 HP9.out).1
      have z79 := hB79.size
      have HW9 := Lib.hid hW9
      clear hB8 hb9 hB79 hW9
      go_upto_region 14 with (refine wpList_store_row rfl 64 _ _ rfl w8.heap.size OC rfl rfl 64 EZ (heap_alloc_new w8 _) HIT.out HSO.out H1O.out ?_; rw [World.setRow_alloc_new])
      rw [HW9.out]
      have h2 := H2.out
      rcases h2 with ⟨rfl, rfl, rfl⟩ | ⟨rfl, rfl, hGB⟩
      · go_upto_region 15 with (fail)
        go_wp2_with (first | (refine wpList_row_on (by rfl) 55 _ rfl w6.heap.size rfl 55 _ _ _ HO9.out Try.underlying55 rfl HIO.out ?_) | (refine wpList_build_asked (by rfl) 55 _ rfl #[] (by simp) OC Hb0.out ?_) | (refine wpList_eql_on (by rfl) 55 55 _ _ rfl OC OC rfl rfl (by kernel_rfl) true HqZ.out ?_))
        go_ret
        exact ⟨rfl, HBB9.out⟩
      · have HGB := Lib.hid hGB
        clear hGB
        go_upto_region 16 with (fail)
        refine wp_region_conf2 14 [Fact.eq (.int .i64 0), Fact.eq (.bool true), Fact.eq (.bool true), Fact.eq (.agg OC), Fact.eq (.agg OC), Fact.eq (.agg OC), Fact.eq (.bool true), Fact.eq (.bool true), Fact.eq (.bool true), Fact.eq (.agg OC), Fact.eq (.agg G), Fact.eq (.agg G), Fact.eq (.bool true), Fact.eq (.bool true)] ?rbnA (by kernel_rfl) (by kernel_rfl) ?rbnhA ?rbnho ?rbnhend
        case rbnhA =>
          intro vv
          simp only [putRules, Nat.reduceAdd]
          rfl
        case rbnho =>
          refine ⟨?_, ?_, ?_, ?_, ?_, ?_, ?_, ?_, ?_, ?_, ?_, ?_, ?_, ?_, trivial⟩
          · intro vv W K hB hd HK
            simp only [confRules] at HK
            clear hd
            go_wp2
            refine HK.out _ _ (Below.refl _ _) ?_
            rfl
          · intro vv W K hB hd HK
            simp only [confRules] at hd HK
            have h0 := hd
            clear hd
            simp only [h0] at HK ⊢
            clear h0
            go_wp2
            refine HK.out _ _ (Below.refl _ _) ?_
            rfl
          · intro vv W K hB hd HK
            simp only [confRules] at hd HK
            have h1 := hd
            clear hd
            simp only [h1] at HK ⊢
            clear h1
            go_wp2
            refine HK.out _ _ (Below.refl _ _) ?_
            rfl
          · intro vv W K hB hd HK
            simp only [confRules] at hd HK
            have h2 := hd
            clear hd
            simp only [h2] at HK ⊢
            clear h2
            refine wpList_guard_yes (by rfl) ?_
            have hT := (hB.block (w6.heap.size) (by omega)).trans HO9.out
            go_wp2_with (refine wpList_row_on (by rfl) 55 _ rfl w6.heap.size rfl 55 _ _ _ hT Try.underlying55 rfl HIO.out ?_)
            refine HK.out _ _ (Below.refl _ _) ?_
            rfl
          · intro vv W K hB hd HK
            simp only [confRules] at hd HK
            obtain ⟨h3, h2, _⟩ := hd
            simp only [h3, h2] at HK ⊢
            clear h3 h2
            refine wpList_guard_yes (by rfl) ?_
            go_wp2_with (refine (HLP.out _).mono ?_; rintro e w9 ⟨rfl, hB9⟩)
            refine HK.out _ _ hB9 ?_
            rfl
          · intro vv W K hB hd HK
            simp only [confRules] at hd HK
            have h2 := hd
            clear hd
            simp only [h2] at HK ⊢
            clear h2
            refine wpList_guard_yes (by rfl) ?_
            have hT := (hB.block (w8.heap.size) (by omega)).trans HP9.out
            go_wp2_with (refine wpList_row_on (by rfl) 64 _ rfl w8.heap.size rfl 64 _ _ _ hT Try.underlying64 rfl HIT.out ?_)
            refine HK.out _ _ (Below.refl _ _) ?_
            rfl
          · intro vv W K hB hd HK
            simp only [confRules] at hd HK
            obtain ⟨h4, h5, h2⟩ := hd
            simp only [h4, h5, h2] at HK ⊢
            clear h4 h5 h2
            refine wpList_guard_yes (by rfl) ?_
            go_wp2_with (refine wpList_eql_on (by rfl) 64 64 _ _ rfl OC OC rfl rfl (by kernel_rfl) true HqO.out ?_)
            refine HK.out _ _ (Below.refl _ _) ?_
            rfl
          · intro vv W K hB hd HK
            simp only [confRules] at hd HK
            obtain ⟨h2, h6⟩ := hd
            simp only [h2, h6] at HK ⊢
            clear h2 h6
            go_wp2
            refine HK.out _ _ (Below.refl _ _) ?_
            rfl
          · intro vv W K hB hd HK
            simp only [confRules] at hd HK
            obtain ⟨h7, h4⟩ := hd
            simp only [h7, h4] at HK ⊢
            clear h7 h4
            go_wp2
            refine HK.out _ _ (Below.refl _ _) ?_
            rfl
          · intro vv W K hB hd HK
            simp only [confRules] at hd HK
            have h8 := hd
            clear hd
            simp only [h8] at HK ⊢
            clear h8
            refine wpList_guard_yes (by rfl) ?_
            have hT := (hB.block (w8.heap.size) (by omega)).trans HP9.out
            go_wp2_with (refine wpList_row_on (by rfl) 64 _ rfl w8.heap.size rfl 64 _ _ _ hT Try.underlying64 rfl HIT.out ?_)
            refine HK.out _ _ (Below.refl _ _) ?_
            rfl
          · intro vv W K hB hd HK
            simp only [confRules] at hd HK
            obtain ⟨h9, h8, _⟩ := hd
            simp only [h9, h8] at HK ⊢
            clear h9 h8
            refine wpList_guard_yes (by rfl) ?_
            go_wp2_with (refine (HGB.out _).mono ?_; rintro e w9 ⟨rfl, hB9⟩)
            refine HK.out _ _ hB9 ?_
            rfl
          · intro vv W K hB hd HK
            simp only [confRules] at hd HK
            have h8 := hd
            clear hd
            simp only [h8] at HK ⊢
            clear h8
            refine wpList_guard_yes (by rfl) ?_
            have hT := (hB.block ((w.heap.size + 1)) (by omega)).trans HG9.out
            go_wp2_with (refine wpList_row_on (by rfl) 22 _ rfl (w.heap.size + 1) rfl 22 _ _ _ hT Try.underlying22 rfl HIG.out ?_)
            refine HK.out _ _ (Below.refl _ _) ?_
            rfl
          · intro vv W K hB hd HK
            simp only [confRules] at hd HK
            obtain ⟨h10, h11, h8⟩ := hd
            simp only [h10, h11, h8] at HK ⊢
            clear h10 h11 h8
            refine wpList_guard_yes (by rfl) ?_
            go_wp2_with (refine wpList_eql_on (by rfl) 22 22 _ _ rfl G G rfl rfl (by kernel_rfl) true HqG.out ?_)
            refine HK.out _ _ (Below.refl _ _) ?_
            rfl
          · intro vv W K hB hd HK
            simp only [confRules] at hd HK
            obtain ⟨h8, h12⟩ := hd
            simp only [h8, h12] at HK ⊢
            clear h8 h12
            go_wp2
            refine HK.out _ _ (Below.refl _ _) ?_
            rfl
        case rbnhend =>
          intro vv W hB hf
          have e13 := hf 13 (by decide)
          simp only [endRules] at e13
          simp only [e13, dropRules]
          clear hf e13
          go_wp2
          go_ret
          exact ⟨rfl, HBB9.out.trans (hB.mono HBB9.out.size)⟩
  · clear H1
    refine wp_region_conf2 5 [Fact.eq (.agg X), Fact.eq (.bool true), Fact.eq (.agg X), Fact.eq (.agg X), Fact.eq (.bool true)] ?rayA (by kernel_rfl) (by kernel_rfl) ?rayhA ?rayho ?rayhend
    case rayhA =>
      intro vv
      simp only [putRules, Nat.reduceAdd]
      rfl
    case rayho =>
      refine ⟨?_, ?_, ?_, ?_, ?_, trivial⟩
      · intro vv W K hB hd HK
        simp only [confRules] at HK
        clear hd
        have hT := (hB.block (w.heap.size) (by omega)).trans HX3.out
        go_wp2_with (refine wpList_row_on (by rfl) 55 _ rfl w.heap.size rfl 55 _ _ _ hT Try.underlying55 rfl HIX.out ?_)
        refine HK.out _ _ (Below.refl _ _) ?_
        rfl
      · intro vv W K hB hd HK
        simp only [confRules] at hd HK
        have h0 := hd
        clear hd
        simp only [h0] at HK ⊢
        clear h0
        go_wp2_with (refine (HRT.out _).mono ?_; rintro e w9 ⟨rfl, hB9⟩)
        refine HK.out _ _ hB9 ?_
        rfl
      · intro vv W K hB hd HK
        simp only [confRules] at HK
        clear hd
        have hT := (hB.block (w.heap.size) (by omega)).trans HX3.out
        go_wp2_with (refine wpList_row_on (by rfl) 55 _ rfl w.heap.size rfl 55 _ _ _ hT Try.underlying55 rfl HIX.out ?_)
        refine HK.out _ _ (Below.refl _ _) ?_
        rfl
      · intro vv W K hB hd HK
        simp only [confRules] at hd HK
        obtain ⟨h2, h1⟩ := hd
        simp only [h2, h1] at HK ⊢
        clear h2 h1
        go_wp2_with (refine (HLO.out _).mono ?_; rintro e w9 ⟨rfl, hB9⟩)
        refine HK.out _ _ hB9 ?_
        rfl
      · intro vv W K hB hd HK
        simp only [confRules] at hd HK
        obtain ⟨h3, _⟩ := hd
        simp only [h3] at HK ⊢
        clear h3
        go_wp2_with (refine (HRR.out _).mono ?_; rintro e w9 ⟨rfl, hB9⟩)
        refine HK.out _ _ hB9 ?_
        rfl
    case rayhend =>
      intro vv W hB hf
      have e1 := hf 1 (by decide)
      have e4 := hf 4 (by decide)
      simp only [endRules] at e1 e4
      simp only [e1, e4, dropRules]
      clear hf e1 e4
      have HX5 := Lib.hid ((hB.block w.heap.size (by omega)).trans HX3.out)
      have HG5 := Lib.hid ((hB.block (w.heap.size + 1) (by omega)).trans HG3.out)
      have HC5 := Lib.hid ((hB.block w2.heap.size z3).trans HB3.out)
      have HBB5 := Lib.hid (HBB3.out.trans (hB.mono HBB3.out.size))
      have z5 := hB.size
      clear hB
      go_wp2_with (refine wpList_load_row rfl 55 _ rfl w.heap.size rfl 55 _ _ _ HX5.out Try.underlying55 rfl HIX.out ?_)
      refine (HLO.out _).mono ?_
      rintro x w10 ⟨rfl, hB10⟩
      go_wp2_with fail
      refine (HRR.out _).mono ?_
      rintro x w11 ⟨rfl, hB11⟩
      have hB := hB10.trans (hB11.mono hB10.size)
      have z11 := hB.size
      have HX11 := Lib.hid ((hB.block w.heap.size (by omega)).trans HX5.out)
      have HG11 := Lib.hid ((hB.block (w.heap.size + 1) (by omega)).trans HG5.out)
      have HC11 := Lib.hid ((hB.block w2.heap.size (by omega)).trans HC5.out)
      have HBB11 := Lib.hid (HBB5.out.trans (hB.mono HBB5.out.size))
      clear hB hB10 hB11
      have HRB := Lib.hid hRB
      have HOB := Lib.hid hOB
      clear hRB hOB
      have hk0 := HKE.out _ _ HX11.out
      go_upto_region 9 with (fail)
      go_wp2_with (refine wpList_load_row rfl 22 _ rfl w2.heap.size rfl 22 _ _ _ HC11.out Try.underlying22 rfl HIB.out ?_)
      refine (HOB.out _).mono ?_
      rintro x w12 ⟨rfl, hB12⟩
      have z12 := hB12.size
      obtain ⟨W14, hW14⟩ : ∃ W14, w12.alloc (.cells X 55) = W14 := ⟨_, rfl⟩
      have hb14 : Below w12.heap.size w12 W14 := by rw [← hW14]; exact (Below.refl _ _).alloc (Nat.le_refl _) _
      have HY14 : Hid (W14.heap[w12.heap.size]? = some (.cells X 55 (0, 0))) := Lib.hid (by rw [← hW14]; exact heap_alloc_new w12 _)
      have hB := hB12.trans (hb14.mono z12)
      have HX14 := Lib.hid ((hB.block w.heap.size (by omega)).trans HX11.out)
      have HG14 := Lib.hid ((hB.block (w.heap.size + 1) (by omega)).trans HG11.out)
      have HC14 := Lib.hid ((hB.block w2.heap.size (by omega)).trans HC11.out)
      have HBB14 := Lib.hid (HBB11.out.trans (hB.mono HBB11.out.size))
      have z14 : w12.heap.size < W14.heap.size := (Array.getElem?_eq_some_iff.1 HY14.out).1
      have HW14 := Lib.hid hW14
      clear hB hB12 hb14 hW14
      go_upto_region 10 with (refine wpList_store_row rfl 55 _ _ rfl w12.heap.size X rfl rfl 55 EZ (heap_alloc_new w12 _) HIX.out HSX.out H1X.out ?_; rw [World.setRow_alloc_new])
      rw [HW14.out]
      refine wp_region_conf2 17 [Fact.eq (.int .i64 0), Fact.eq (.bool false), Fact.eq (.bool false), Fact.eq (.agg BC), Fact.eq (.agg X), Fact.eq (.agg X), Fact.eq (.agg BC), Fact.eq (.bool false), Fact.eq (.bool false), Fact.eq (.bool false), Fact.eq (.agg X), Fact.eq (.agg X), Fact.eq (.bool false), Fact.eq (.bool false), Fact.eq (.bool false), Fact.eq (.int .i64 0), Fact.eq (.bool false)] ?rcA (by kernel_rfl) (by kernel_rfl) ?rchA ?rcho ?rchend
      case rchA =>
        intro vv
        simp only [putRules, Nat.reduceAdd]
        rfl
      case rcho =>
        refine ⟨?_, ?_, ?_, ?_, ?_, ?_, ?_, ?_, ?_, ?_, ?_, ?_, ?_, ?_, ?_, ?_, ?_, trivial⟩
        · intro vv W K hB hd HK
          simp only [confRules] at HK
          clear hd
          go_wp2
          refine HK.out _ _ (Below.refl _ _) ?_
          rfl
        · intro vv W K hB hd HK
          simp only [confRules] at hd HK
          have h0 := hd
          clear hd
          simp only [h0] at HK ⊢
          clear h0
          go_wp2
          refine HK.out _ _ (Below.refl _ _) ?_
          rfl
        · intro vv W K hB hd HK
          simp only [confRules] at hd HK
          have h1 := hd
          clear hd
          simp only [h1] at HK ⊢
          clear h1
          go_wp2
          refine HK.out _ _ (Below.refl _ _) ?_
          rfl
        · intro vv W K hB hd HK
          simp only [confRules] at hd HK
          have h2 := hd
          clear hd
          simp only [h2] at HK ⊢
          clear h2
          refine wpList_guard_yes (by rfl) ?_
          have hT := (hB.block (w2.heap.size) (by omega)).trans HC14.out
          go_wp2_with (refine wpList_row_on (by rfl) 22 _ rfl w2.heap.size rfl 22 _ _ _ hT Try.underlying22 rfl HIB.out ?_)
          refine HK.out _ _ (Below.refl _ _) ?_
          rfl
        · intro vv W K hB hd HK
          simp only [confRules] at hd HK
          have h2 := hd
          clear hd
          simp only [h2] at HK ⊢
          clear h2
          refine wpList_guard_yes (by rfl) ?_
          have hT := (hB.block (w.heap.size) (by omega)).trans HX14.out
          go_wp2_with (refine wpList_row_on (by rfl) 55 _ rfl w.heap.size rfl 55 _ _ _ hT Try.underlying55 rfl HIX.out ?_)
          refine HK.out _ _ (Below.refl _ _) ?_
          rfl
        · intro vv W K hB hd HK
          simp only [confRules] at hd HK
          obtain ⟨h4, h2, _⟩ := hd
          simp only [h4, h2] at HK ⊢
          clear h4 h2
          refine wpList_guard_yes (by rfl) ?_
          go_wp2_with (refine (HLO.out _).mono ?_; rintro e w9 ⟨rfl, hB9⟩)
          refine HK.out _ _ hB9 ?_
          rfl
        · intro vv W K hB hd HK
          simp only [confRules] at hd HK
          obtain ⟨h5, _, h2⟩ := hd
          simp only [h5, h2] at HK ⊢
          clear h5 h2
          refine wpList_guard_yes (by rfl) ?_
          go_wp2_with (refine (HRB.out _).mono ?_; rintro e w9 ⟨rfl, hB9⟩)
          refine HK.out _ _ hB9 ?_
          rfl
        · intro vv W K hB hd HK
          simp only [confRules] at hd HK
          obtain ⟨h3, h6, h2⟩ := hd
          simp only [h3, h6, h2] at HK ⊢
          clear h3 h6 h2
          refine wpList_guard_yes (by rfl) ?_
          go_wp2_with (refine wpList_neq_on (by rfl) 22 22 _ _ rfl BC BC rfl rfl (by kernel_rfl) true HqB.out ?_)
          refine HK.out _ _ (Below.refl _ _) ?_
          rfl
        · intro vv W K hB hd HK
          simp only [confRules] at hd HK
          obtain ⟨h2, h7⟩ := hd
          simp only [h2, h7] at HK ⊢
          clear h2 h7
          go_wp2
          refine HK.out _ _ (Below.refl _ _) ?_
          rfl
        · intro vv W K hB hd HK
          simp only [confRules] at hd HK
          obtain ⟨h8, h6⟩ := hd
          simp only [h8, h6] at HK ⊢
          clear h8 h6
          go_wp2
          refine HK.out _ _ (Below.refl _ _) ?_
          rfl
        · intro vv W K hB hd HK
          simp only [confRules] at hd HK
          have h9 := hd
          clear hd
          simp only [h9] at HK ⊢
          clear h9
          refine wpList_guard_yes (by rfl) ?_
          have hT := (hB.block (w12.heap.size) (by omega)).trans HY14.out
          go_wp2_with (refine wpList_row_on (by rfl) 55 _ rfl w12.heap.size rfl 55 _ _ _ hT Try.underlying55 rfl HIX.out ?_)
          refine HK.out _ _ (Below.refl _ _) ?_
          rfl
        · intro vv W K hB hd HK
          simp only [confRules] at hd HK
          have h9 := hd
          clear hd
          simp only [h9] at HK ⊢
          clear h9
          refine wpList_guard_yes (by rfl) ?_
          have hT := (hB.block (w.heap.size) (by omega)).trans HX14.out
          go_wp2_with (refine wpList_row_on (by rfl) 55 _ rfl w.heap.size rfl 55 _ _ _ hT Try.underlying55 rfl HIX.out ?_)
          refine HK.out _ _ (Below.refl _ _) ?_
          rfl
        · intro vv W K hB hd HK
          simp only [confRules] at hd HK
          obtain ⟨h10, h11, h9⟩ := hd
          simp only [h10, h11, h9] at HK ⊢
          clear h10 h11 h9
          refine wpList_guard_yes (by rfl) ?_
          go_wp2_with (refine wpList_neq_on (by rfl) 55 55 _ _ rfl X X rfl rfl (by kernel_rfl) true HqX.out ?_)
          refine HK.out _ _ (Below.refl _ _) ?_
          rfl
        · intro vv W K hB hd HK
          simp only [confRules] at hd HK
          obtain ⟨h9, h12⟩ := hd
          simp only [h9, h12] at HK ⊢
          clear h9 h12
          go_wp2
          refine HK.out _ _ (Below.refl _ _) ?_
          rfl
        · intro vv W K hB hd HK
          simp only [confRules] at hd HK
          obtain ⟨h13, h9⟩ := hd
          simp only [h13, h9] at HK ⊢
          clear h13 h9
          go_wp2
          refine HK.out _ _ (Below.refl _ _) ?_
          rfl
        · intro vv W K hB hd HK
          simp only [confRules] at hd HK
          have h14 := hd
          clear hd
          simp only [h14] at HK ⊢
          clear h14
          refine wpList_guard_yes (by rfl) ?_
          go_wp2
          refine HK.out _ _ (Below.refl _ _) ?_
          rfl
        · intro vv W K hB hd HK
          simp only [confRules] at hd HK
          obtain ⟨h15, h14⟩ := hd
          simp only [h15, h14] at HK ⊢
          clear h15 h14
          refine wpList_guard_yes (by rfl) ?_
          go_wp2
          refine HK.out _ _ (Below.refl _ _) ?_
          rfl
      case rchend =>
        intro vv W hB hf
        have e14 := hf 14 (by decide)
        have e16 := hf 16 (by decide)
        simp only [endRules] at e14 e16
        simp only [e14, e16, dropRules]
        clear hf e14 e16
        have HG15 := Lib.hid ((hB.block (w.heap.size + 1) (by omega)).trans HG14.out)
        have HBB15 := Lib.hid (HBB14.out.trans (hB.mono HBB14.out.size))
        have z15 := hB.size
        clear hB
        have zG := (Array.getElem?_eq_some_iff.1 HG15.out).1
        go_wp2_with (refine wpList_load_row rfl 22 _ rfl (w.heap.size + 1) rfl 22 _ _ _ HG15.out Try.underlying22 rfl HIG.out ?_)
        refine (HOF.out _).mono ?_
        rintro x w6 ⟨rfl, hB6⟩
        have z6 := hB6.size
        obtain ⟨W7, hW7⟩ : ∃ W7, w6.alloc (.cells OC 55) = W7 := ⟨_, rfl⟩
        have hb7 : Below w6.heap.size w6 W7 := by rw [← hW7]; exact (Below.refl _ _).alloc (Nat.le_refl _) _
        have HO7 : Hid (W7.heap[w6.heap.size]? = some (.cells OC 55 (0, 0))) := Lib.hid (by rw [← hW7]; exact heap_alloc_new w6 _)
        have hB57 : Below W.heap.size W W7 := hB6.trans (hb7.mono z6)
        have HG7 := Lib.hid ((hB57.block (w.heap.size + 1) zG).trans HG15.out)
        have HBB7 := Lib.hid (HBB15.out.trans (hB57.mono HBB15.out.size))
        have z7 : w6.heap.size < W7.heap.size := (Array.getElem?_eq_some_iff.1 HO7.out).1
        have HW7 := Lib.hid hW7
        clear hB6 hb7 hB57 hW7
        go_upto_region 13 with (refine wpList_store_row rfl 55 _ _ rfl w6.heap.size OC rfl rfl 55 EZ (heap_alloc_new w6 _) HIO.out HSO.out H1O.out ?_; rw [World.setRow_alloc_new])
        rw [HW7.out]
        go_wp2_with (refine wpList_load_row rfl 22 _ rfl (w.heap.size + 1) rfl 22 _ _ _ HG7.out Try.underlying22 rfl HIG.out ?_)
        refine (HRO.out _).mono ?_
        rintro x w8 ⟨rfl, hB8⟩
        have z8 := hB8.size
        obtain ⟨W9, hW9⟩ : ∃ W9, w8.alloc (.cells OC 64) = W9 := ⟨_, rfl⟩
        have hb9 : Below w8.heap.size w8 W9 := by rw [← hW9]; exact (Below.refl _ _).alloc (Nat.le_refl _) _
        have HP9 : Hid (W9.heap[w8.heap.size]? = some (.cells OC 64 (0, 0))) := Lib.hid (by rw [← hW9]; exact heap_alloc_new w8 _)
        have hB79 : Below W7.heap.size W7 W9 := hB8.trans (hb9.mono z8)
        have HO9 := Lib.hid ((hB79.block w6.heap.size z7).trans HO7.out)
        have HG9 := Lib.hid ((hB79.block (w.heap.size + 1) (by omega)).trans HG7.out)
        have HBB9 := Lib.hid (HBB7.out.trans (hB79.mono HBB7.out.size))
        have z9 : w8.heap.size < W9.heap.size := (Array.getElem?_eq_some_iff.1 HP9.out).1
        have z79 := hB79.size
        have HW9 := Lib.hid hW9
        clear hB8 hb9 hB79 hW9
        go_upto_region 14 with (refine wpList_store_row rfl 64 _ _ rfl w8.heap.size OC rfl rfl 64 EZ (heap_alloc_new w8 _) HIT.out HSO.out H1O.out ?_; rw [World.setRow_alloc_new])
        rw [HW9.out]
        have h2 := H2.out
        rcases h2 with ⟨rfl, rfl, rfl⟩ | ⟨rfl, rfl, hGB⟩
        · go_upto_region 15 with (fail)
          go_wp2_with (first | (refine wpList_row_on (by rfl) 55 _ rfl w6.heap.size rfl 55 _ _ _ HO9.out Try.underlying55 rfl HIO.out ?_) | (refine wpList_build_asked (by rfl) 55 _ rfl #[] (by simp) OC Hb0.out ?_) | (refine wpList_eql_on (by rfl) 55 55 _ _ rfl OC OC rfl rfl (by kernel_rfl) true HqZ.out ?_))
          go_ret
          exact ⟨rfl, HBB9.out⟩
        · have HGB := Lib.hid hGB
          clear hGB
          go_upto_region 16 with (fail)
          refine wp_region_conf2 14 [Fact.eq (.int .i64 0), Fact.eq (.bool true), Fact.eq (.bool true), Fact.eq (.agg OC), Fact.eq (.agg OC), Fact.eq (.agg OC), Fact.eq (.bool true), Fact.eq (.bool true), Fact.eq (.bool true), Fact.eq (.agg OC), Fact.eq (.agg G), Fact.eq (.agg G), Fact.eq (.bool true), Fact.eq (.bool true)] ?rbyA (by kernel_rfl) (by kernel_rfl) ?rbyhA ?rbyho ?rbyhend
          case rbyhA =>
            intro vv
            simp only [putRules, Nat.reduceAdd]
            rfl
          case rbyho =>
            refine ⟨?_, ?_, ?_, ?_, ?_, ?_, ?_, ?_, ?_, ?_, ?_, ?_, ?_, ?_, trivial⟩
            · intro vv W K hB hd HK
              simp only [confRules] at HK
              clear hd
              go_wp2
              refine HK.out _ _ (Below.refl _ _) ?_
              rfl
            · intro vv W K hB hd HK
              simp only [confRules] at hd HK
              have h0 := hd
              clear hd
              simp only [h0] at HK ⊢
              clear h0
              go_wp2
              refine HK.out _ _ (Below.refl _ _) ?_
              rfl
            · intro vv W K hB hd HK
              simp only [confRules] at hd HK
              have h1 := hd
              clear hd
              simp only [h1] at HK ⊢
              clear h1
              go_wp2
              refine HK.out _ _ (Below.refl _ _) ?_
              rfl
            · intro vv W K hB hd HK
              simp only [confRules] at hd HK
              have h2 := hd
              clear hd
              simp only [h2] at HK ⊢
              clear h2
              refine wpList_guard_yes (by rfl) ?_
              have hT := (hB.block (w6.heap.size) (by omega)).trans HO9.out
              go_wp2_with (refine wpList_row_on (by rfl) 55 _ rfl w6.heap.size rfl 55 _ _ _ hT Try.underlying55 rfl HIO.out ?_)
              refine HK.out _ _ (Below.refl _ _) ?_
              rfl
            · intro vv W K hB hd HK
              simp only [confRules] at hd HK
              obtain ⟨h3, h2, _⟩ := hd
              simp only [h3, h2] at HK ⊢
              clear h3 h2
              refine wpList_guard_yes (by rfl) ?_
              go_wp2_with (refine (HLP.out _).mono ?_; rintro e w9 ⟨rfl, hB9⟩)
              refine HK.out _ _ hB9 ?_
              rfl
            · intro vv W K hB hd HK
              simp only [confRules] at hd HK
              have h2 := hd
              clear hd
              simp only [h2] at HK ⊢
              clear h2
              refine wpList_guard_yes (by rfl) ?_
              have hT := (hB.block (w8.heap.size) (by omega)).trans HP9.out
              go_wp2_with (refine wpList_row_on (by rfl) 64 _ rfl w8.heap.size rfl 64 _ _ _ hT Try.underlying64 rfl HIT.out ?_)
              refine HK.out _ _ (Below.refl _ _) ?_
              rfl
            · intro vv W K hB hd HK
              simp only [confRules] at hd HK
              obtain ⟨h4, h5, h2⟩ := hd
              simp only [h4, h5, h2] at HK ⊢
              clear h4 h5 h2
              refine wpList_guard_yes (by rfl) ?_
              go_wp2_with (refine wpList_eql_on (by rfl) 64 64 _ _ rfl OC OC rfl rfl (by kernel_rfl) true HqO.out ?_)
              refine HK.out _ _ (Below.refl _ _) ?_
              rfl
            · intro vv W K hB hd HK
              simp only [confRules] at hd HK
              obtain ⟨h2, h6⟩ := hd
              simp only [h2, h6] at HK ⊢
              clear h2 h6
              go_wp2
              refine HK.out _ _ (Below.refl _ _) ?_
              rfl
            · intro vv W K hB hd HK
              simp only [confRules] at hd HK
              obtain ⟨h7, h4⟩ := hd
              simp only [h7, h4] at HK ⊢
              clear h7 h4
              go_wp2
              refine HK.out _ _ (Below.refl _ _) ?_
              rfl
            · intro vv W K hB hd HK
              simp only [confRules] at hd HK
              have h8 := hd
              clear hd
              simp only [h8] at HK ⊢
              clear h8
              refine wpList_guard_yes (by rfl) ?_
              have hT := (hB.block (w8.heap.size) (by omega)).trans HP9.out
              go_wp2_with (refine wpList_row_on (by rfl) 64 _ rfl w8.heap.size rfl 64 _ _ _ hT Try.underlying64 rfl HIT.out ?_)
              refine HK.out _ _ (Below.refl _ _) ?_
              rfl
            · intro vv W K hB hd HK
              simp only [confRules] at hd HK
              obtain ⟨h9, h8, _⟩ := hd
              simp only [h9, h8] at HK ⊢
              clear h9 h8
              refine wpList_guard_yes (by rfl) ?_
              go_wp2_with (refine (HGB.out _).mono ?_; rintro e w9 ⟨rfl, hB9⟩)
              refine HK.out _ _ hB9 ?_
              rfl
            · intro vv W K hB hd HK
              simp only [confRules] at hd HK
              have h8 := hd
              clear hd
              simp only [h8] at HK ⊢
              clear h8
              refine wpList_guard_yes (by rfl) ?_
              have hT := (hB.block ((w.heap.size + 1)) (by omega)).trans HG9.out
              go_wp2_with (refine wpList_row_on (by rfl) 22 _ rfl (w.heap.size + 1) rfl 22 _ _ _ hT Try.underlying22 rfl HIG.out ?_)
              refine HK.out _ _ (Below.refl _ _) ?_
              rfl
            · intro vv W K hB hd HK
              simp only [confRules] at hd HK
              obtain ⟨h10, h11, h8⟩ := hd
              simp only [h10, h11, h8] at HK ⊢
              clear h10 h11 h8
              refine wpList_guard_yes (by rfl) ?_
              go_wp2_with (refine wpList_eql_on (by rfl) 22 22 _ _ rfl G G rfl rfl (by kernel_rfl) true HqG.out ?_)
              refine HK.out _ _ (Below.refl _ _) ?_
              rfl
            · intro vv W K hB hd HK
              simp only [confRules] at hd HK
              obtain ⟨h8, h12⟩ := hd
              simp only [h8, h12] at HK ⊢
              clear h8 h12
              go_wp2
              refine HK.out _ _ (Below.refl _ _) ?_
              rfl
          case rbyhend =>
            intro vv W hB hf
            have e13 := hf 13 (by decide)
            simp only [endRules] at e13
            simp only [e13, dropRules]
            clear hf e13
            go_wp2
            go_ret
            exact ⟨rfl, HBB9.out.trans (hB.mono HBB9.out.size)⟩
theorem en_bodies_walk (e : En.E) (kind : Int) (l : List Nat) (w : World) (hb : EBody e) (hn : Num38 e) (hk : (Lit.int .i64 kind).wf = true) (hl : l.length = 44) (hc : ∀ c ∈ l, c < 256) :
    Calls Try.prog 12 #[.agg (EC e), .int .i64 kind, .agg (byteCells l)] w fun e w' => e = .returned (.bool true) ∧ Below w.heap.size w w' := by
  have hob := ofE_body (kind := kind) hl hc
  have hon := ofE_num (kind := kind) (b := l) hk hc
  have hbb : (if En.right e = true then En.body e else List.replicate 44 0).length = 44 ∧ ∀ c ∈ (if En.right e = true then En.body e else List.replicate 44 0), c < 256 := by
    split
    · exact ⟨En.body_length hb.1, En.body_bytes hb.2⟩
    · simp
  have hz : ∀ g : En.E, EBody g → (EC En.E.zero).size = (EC g).size := fun g h => by rw [EC_size, EC_size, h.1]; rfl
  refine en_bodies_core (EC e) (byteCells (if En.right e = true then En.body e else List.replicate 44 0)) (byteCells l) (EC (En.ofE kind l).1) (EC En.E.zero) (byteCells (List.replicate 44 0)) kind e.kind (if En.right e = true then 0 else 10) (En.ofE kind l).2 (En.right e) (decide ((En.ofE kind l).2 = 0)) w
    (size_ent hb.1) (size_body hbb.1) (size_body hl) (size_ent hob.1) (size_re hob.1) (EC_one e) (body_cells_one _) (EC_one _) (hz e hb) (by rw [size_byteCells, size_byteCells, hbb.1]; simp) (hz _ hob)
    (zero_of_info Try.infoEntry).1 (zero_of_info Try.infoRE).1 (zero_of_info Try.infoBody).1 built_ent0 built_b0
    (fun W b h => (ent_cells h).1) (fun W => ebody_any e W hb) (fun W => eright_any e W hb) (fun W => lof_any e W hb) (fun W => lof_any _ W hob) (fun W => rright_any e W hb)
    (fun W => eof_any kind l W hl hc) (fun W => rof_any kind l W hl hc)
    (fun W => eq_ent e e hb hb hn hn true (by simp) W) (fun W => eq_body _ _ hbb.1 hbb.1 hbb.2 hbb.2 true (by simp) W) (fun W => eq_body l l hl hl hc hc true (by simp) W)
    (fun W => eq_re _ _ hob hob hon hon true (by simp) W) (fun W => eq_ent _ _ zero_ebody zero_ebody zero_num zero_num true (by simp) W) ?_ ?_
  · by_cases hr : En.right e = true
    · refine .inr ?_
      simp only [hr, if_true, true_and]
      refine ⟨fun W => rbody_any e W hb hr, fun W => ?_⟩
      have h := eof_any e.kind (En.body e) W (En.body_length hb.1) (En.body_bytes hb.2)
      have ho : En.ofE e.kind (En.body e) = (e, 0) := by unfold En.ofE; rw [En.parse_body hr hb.1, if_pos hr]
      unfold EntPost at h
      rw [ho] at h
      exact h
    · refine .inl ?_
      simp [hr]
  · have ho : En.ofE kind l = if En.right (En.parse kind l) = true then (En.parse kind l, 0) else (En.E.zero, 10) := rfl
    by_cases hr : En.right (En.parse kind l) = true
    · rw [if_pos hr] at ho
      refine .inr ?_
      rw [ho]
      refine ⟨rfl, rfl, fun W => ?_⟩
      have h := rbody_any (En.parse kind l) W (parse_ebody hl hc) hr
      rwa [En.body_parse hl hc] at h
    · rw [if_neg hr] at ho
      refine .inl ?_
      rw [ho]
      exact ⟨rfl, rfl, rfl⟩
theorem body44_of_fits {w : World} {v : Value} (h : Fits Try.prog w 6 22 v.cells.toList) : ∃ l : List Nat, v = .agg (byteCells l) ∧ l.length = 44 ∧ ∀ c ∈ l, c < 256 := by
  obtain ⟨l, hl, hb, hc⟩ := arr_of_fits (d := 4) Try.underlying22 Try.underlying5 (by kernel_rfl) (by kernel_rfl) h
  obtain ⟨xs, rfl⟩ := agg_of_cells (v := v) (n := 44) (by rw [hc, Array.length_toList, size_byteCells, hl]) (by omega)
  have : xs = byteCells l := Array.toList_inj.1 hc
  exact ⟨l, by rw [this], hl, hb⟩
end Go.Proofs.Ytfcadbeamojdpaa
