/- Proved here: the walk of the law on what sectors are frames'. -/
import Derived.Test.YtfcadbeamojdpaaFrDecodesJ
namespace Go.Proofs.Ytfcadbeamojdpaa
open Go.RowKit Go.Rv Frm
set_option linter.unusedVariables false
theorem putNone (a : Act) (u : Value) : a.put none u = a := rfl
set_option maxRecDepth 100000 in
set_option maxHeartbeats 4000000 in
theorem fr_decodes_core (SA X : Array Value) (er : Int) (b0 b1 b2 b3 : Nat) (w : World) (k0 : b0 < 256) (k1 : b1 < 256) (k2 : b2 < 256) (k3 : b3 < 256)
    (hIS : (Try.prog.info? 31).map (·.size) = some SA.size) (hIX : (Try.prog.info? 24).map (·.size) = some X.size) (hIR : (Try.prog.info? 40).map (·.size) = some X.size) (h1X : X.all (·.oneCell') = true)
    (HD' : ∀ W, Calls Try.prog 18 #[.agg Tb.tabV, .agg SA] W fun x w' => x = .returned (.tuple #[.agg X, .int .i64 er]) ∧ Below W.heap.size W w')
    (HR' : ∀ W, Calls Try.prog 19 #[.agg SA] W fun x w' => x = .returned (.tuple #[.agg X, .int .i64 er]) ∧ Below W.heap.size W w')
    (HS' : ∀ W, Calls Try.prog 20 #[.agg SA] W fun x w' => x = .returned (.int .i64 ((b0 : Int) + 256 * (b1 : Int) + 65536 * (b2 : Int) + 16777216 * (b3 : Int))) ∧ Below W.heap.size W w')
    (hq : ∀ W, (Op.equalIn 10000 40 (.agg X) (.agg X)).run Try.prog W = .ok true W)
    (hC : ∀ (W : World) (g : Nat), W.heap[g]? = some (.cells SA 31 (0, 0)) → W.cell? ⟨g, 60, none⟩ = some (.int .u8 (b0 : Nat)) ∧ W.cell? ⟨g, 61, none⟩ = some (.int .u8 (b1 : Nat)) ∧ W.cell? ⟨g, 62, none⟩ = some (.int .u8 (b2 : Nat)) ∧ W.cell? ⟨g, 63, none⟩ = some (.int .u8 (b3 : Nat))) :
    Calls Try.prog 5 #[.agg SA] w fun e w' => e = .returned (.bool true) ∧ Below w.heap.size w w' := by
  have hzF := (zero_of_info Try.infoFrame).1
  have hzR := (zero_of_info Try.infoRf).1
  have HIS := Lib.hid hIS
  have HIX := Lib.hid hIX
  have HIR := Lib.hid hIR
  have H1X := Lib.hid h1X
  have HD := Lib.hid HD'
  have HR := Lib.hid HR'
  have HSU := Lib.hid HS'
  have HQ := Lib.hid hq
  have HC := Lib.hid hC
  have HN := Lib.hid (fun W => new_any W)
  have HAN := Lib.hid (fun W => fr_anchor W)
  have hz49 := (zero_of_info Try.infoFrame).2
  have HZX : Hid ((FC Fr.zero).size = X.size) := Lib.hid (by rw [FC_size]; rw [hz49] at hIX; simpa [Fr.zero] using hIX)
  clear hIS hIX hIR h1X HD' HR' HS' hq hC hz49
  generalize FC Fr.zero = ZF at *
  generalize Tb.tabV = TV at *
  have hB0 := (Below.refl w.heap.size w).alloc (Nat.le_refl _) (.cells SA 31)
  have hS0 := heap_alloc_new w (.cells SA 31)
  go_enter Try.func5, Try.ntmps5
  go_wp2_with fail
  refine (HAN.out _).mono ?_
  rintro x w1 ⟨rfl, hB1⟩
  have hS1 := (hB1.block w.heap.size (by simp)).trans hS0
  have hBB1 := hB0.trans (hB1.mono hB0.size)
  have hz1 : w.heap.size < w1.heap.size := by have := hB1.size; simp at this; omega
  have HS1 := Lib.hid hS1
  clear hB0 hS0 hB1 hS1
  go_wp2_with fail
  refine wp_region_conf3 8 (J3 TV SA X ZF er w1) ?rA (by kernel_rfl) (by kernel_rfl) ?rhA ?rho ?rhs ?rhend
  case rhA =>
    intro vv
    simp only [putRules, putNone, Nat.reduceAdd]
    rfl
  case rhs =>
    intro vv
    refine ⟨(Below.refl _ _).drew, ?_, ?_, ?_, ?_, ?_, ?_, ?_, ?_⟩
    all_goals (intro h; rw [getD_replicate_false] at h; cases h)
  case rho =>
    intro i o hi ho L vv W K hun hdep hJ HK
    have hbw := hJ.1
    have hsw := (hbw.block w.heap.size hz1).trans HS1.out
    rcases i with _ | _ | _ | _ | _ | _ | _ | _ | i
    · simp only [List.getElem?_toArray, List.getElem?_cons_zero, List.getElem?_cons_succ, Option.some.injEq] at ho
      subst ho
      simp only [confRules, putNone, Nat.reduceAdd] at HK
      clear hdep
      go_wp2_with (refine (HN.out _).mono ?_; rintro x w9 ⟨rfl, hB9⟩)
      refine HK.out _ _ (hJ.step hB9 _ _ ⟨by omega, by omega⟩ ?_ ?_ ?_ ?_ ?_ ?_)
      all_goals (intro h; first | rfl | (exfalso; omega))
    · simp only [List.getElem?_toArray, List.getElem?_cons_zero, List.getElem?_cons_succ, Option.some.injEq] at ho
      subst ho
      simp only [confRules, putNone, Nat.reduceAdd] at HK
      clear hdep
      go_wp2_with (refine wpList_load_row rfl 31 _ rfl w.heap.size rfl 31 _ _ _ hsw Try.underlying31 rfl HIS.out ?_)
      refine HK.out _ _ (hJ.step (Below.refl _ _) _ _ ⟨by omega, by omega⟩ ?_ ?_ ?_ ?_ ?_ ?_)
      all_goals (intro h; first | rfl | (exfalso; omega))
    · simp only [List.getElem?_toArray, List.getElem?_cons_zero, List.getElem?_cons_succ, Option.some.injEq] at ho
      subst ho
      simp only [confRules, putNone, Nat.reduceAdd] at HK
      have h0 := hJ.2.1 (hdep ⟨0, .data⟩ (by simp) rfl)
      have h1 := hJ.2.2.1 (hdep ⟨1, .data⟩ (by simp) rfl)
      simp only [h0, h1] at HK ⊢
      clear h0 h1
      clear hdep
      go_wp2_with (refine (HD.out _).mono ?_; rintro x w9 ⟨rfl, hB9⟩)
      refine HK.out _ _ (hJ.step hB9 _ _ ⟨by omega, by omega⟩ ?_ ?_ ?_ ?_ ?_ ?_)
      all_goals (intro h; first | rfl | (exfalso; omega))
    · simp only [List.getElem?_toArray, List.getElem?_cons_zero, List.getElem?_cons_succ, Option.some.injEq] at ho
      subst ho
      simp only [confRules, putNone, Nat.reduceAdd] at HK
      have h2 := hJ.2.2.2.1 (hdep ⟨2, .data⟩ (by simp) rfl)
      simp only [h2] at HK ⊢
      clear h2
      clear hdep
      go_wp2
      refine HK.out _ _ (hJ.step (Below.refl _ _) _ _ ⟨by omega, by omega⟩ ?_ ?_ ?_ ?_ ?_ ?_)
      all_goals (intro h; first | rfl | (exfalso; omega))
    · simp only [List.getElem?_toArray, List.getElem?_cons_zero, List.getElem?_cons_succ, Option.some.injEq] at ho
      subst ho
      simp only [confRules, putNone, Nat.reduceAdd] at HK
      have h3 := hJ.2.2.2.2.1 (hdep ⟨3, .data⟩ (by simp) rfl)
      simp only [h3] at HK ⊢
      clear h3
      clear hdep
      go_wp2
      refine HK.out _ _ (hJ.step (Below.refl _ _) _ _ ⟨by omega, by omega⟩ ?_ ?_ ?_ ?_ ?_ ?_)
      all_goals (intro h; first | rfl | (exfalso; omega))
    · simp only [List.getElem?_toArray, List.getElem?_cons_zero, List.getElem?_cons_succ, Option.some.injEq] at ho
      subst ho
      simp only [confRules, putNone, Nat.reduceAdd] at HK
      have h3 := hJ.2.2.2.2.1 (hdep ⟨3, .data⟩ (by simp) rfl)
      simp only [h3] at HK ⊢
      clear h3
      clear hdep
      go_wp2
      refine HK.out _ _ (hJ.step (Below.refl _ _) _ _ ⟨by omega, by omega⟩ ?_ ?_ ?_ ?_ ?_ ?_)
      all_goals (intro h; first | rfl | (exfalso; omega))
    · simp only [List.getElem?_toArray, List.getElem?_cons_zero, List.getElem?_cons_succ, Option.some.injEq] at ho
      subst ho
      simp only [confRules, putNone, Nat.reduceAdd] at HK
      clear hdep
      go_wp2
      exact HK.out _ _ (hJ.laid hun)
    · simp only [List.getElem?_toArray, List.getElem?_cons_zero, List.getElem?_cons_succ, Option.some.injEq] at ho
      subst ho
      simp only [confRules, putNone, Nat.reduceAdd] at HK
      have l6 := hdep ⟨6, .data⟩ (by simp) rfl
      obtain ⟨g, e6, hg, hr⟩ := hJ.2.2.2.2.2.2.2.2 l6
      have h4 := hJ.2.2.2.2.2.1 (hdep ⟨4, .data⟩ (by simp) rfl)
      simp only [h4, e6] at HK ⊢
      obtain ⟨C, hCC⟩ : ∃ C, (if L.getD 7 false = true then X else ZF) = C := ⟨_, rfl⟩
      have HCS : Hid (C.size = X.size) := Lib.hid (by rw [← hCC]; split; rfl; exact HZX.out)
      rw [hCC] at hr
      clear hdep hCC h4
      go_wp2_with (refine wpList_store_row rfl 24 _ _ rfl g X rfl rfl 24 C hr HIX.out HCS.out H1X.out ?_)
      exact HK.out undef _ (hJ.put undef g C l6 hun e6 hg hr)
    · omega
  case rhend =>
    intro vv W hJ
    obtain ⟨hbw, -, -, -, -, -, a5, -, a6⟩ := hJ
    have e5 := a5 (by decide)
    obtain ⟨g, e6, hg, hr⟩ := a6 (by decide)
    rw [if_pos (by decide)] at hr
    have hsw := (hbw.block w.heap.size hz1).trans HS1.out
    have hBW := hBB1.trans (hbw.mono hBB1.size)
    have hzW : w.heap.size < W.heap.size := Nat.lt_of_lt_of_le hz1 hbw.size
    have hgW : g < W.heap.size := (Array.getElem?_eq_some_iff.1 hr).1
    simp only [e5, e6, dropRules]
    have HRW := Lib.hid hr
    clear a5 a6 e5 e6 hr
    go_wp2_with (refine wpList_load_row rfl 31 _ rfl w.heap.size rfl 31 _ _ _ hsw Try.underlying31 rfl HIS.out ?_)
    refine (HR.out _).mono ?_
    rintro x w3 ⟨rfl, hB3⟩
    have hs3 := (hB3.block w.heap.size hzW).trans hsw
    have hg3 := (hB3.block g hgW).trans HRW.out
    have hBB3 := hBW.trans (hB3.mono hBW.size)
    have z3 := hB3.size
    have hba := (Below.refl w3.heap.size w3).alloc (Nat.le_refl _) (.cells X 40)
    have hX4 := heap_alloc_new w3 (.cells X 40)
    obtain ⟨W4, hW4⟩ : ∃ W4, w3.alloc (.cells X 40) = W4 := ⟨_, rfl⟩
    rw [hW4] at hba hX4
    have hs4 := (hba.block w.heap.size (by omega)).trans hs3
    have hg4 := (hba.block g (by omega)).trans hg3
    have hBB4 := hBB3.trans (hba.mono hBB3.size)
    have HW4 := Lib.hid hW4
    obtain ⟨d0, d1, d2, d3⟩ := HC.out _ _ hs4
    clear hW4 hba hB3 hs3 hg3 hBB3 hsw hBW
    go_wp2_with (first | (refine wpList_store_row rfl 40 _ _ rfl w3.heap.size X rfl rfl 40 ZF (heap_alloc_new w3 _) HIR.out HZX.out H1X.out ?_; rw [World.setRow_alloc_new, HW4.out]) | (refine wpList_load_row_asked (by rfl) 24 _ rfl g rfl 24 _ _ _ hg4 Try.underlying24 rfl HIX.out ?_) | (refine wpList_load_row_asked (by rfl) 40 _ rfl w3.heap.size rfl 40 _ _ _ hX4 Try.underlying40 rfl HIR.out ?_) | (refine wpList_eql_asked (by rfl) 40 40 _ _ rfl X X rfl rfl (by kernel_rfl) true HQ.out ?_) | (refine wpList_load_row_asked (by rfl) 31 _ rfl w.heap.size rfl 31 _ _ _ hs4 Try.underlying31 rfl HIS.out ?_))
    refine (HSU.out _).mono ?_
    rintro x w5 ⟨rfl, hB5⟩
    go_wp2
    go_ret
    exact ⟨rfl, hBB4.trans (hB5.mono hBB4.size)⟩
theorem lits_rf (f : Fr) (hb : Body f.body) (hn : Num64 f) : Try.prog.keyLits 3 40 (FC f).toList = some (frLits f) := by
  obtain ⟨n0, n1, n2, n3, n4⟩ := hn
  have k1 : Try.prog.cellsOf 3 = 1 := by kernel_rfl
  have k44 : Try.prog.cellsOf 22 = 44 := by kernel_rfl
  have k49 : Try.prog.cellsOf 40 = 49 := by kernel_rfl
  have hlen : (FC f).toList.length = 49 := by rw [Array.length_toList, FC_size, hb.1]
  have c0 : ((FC f).toList.drop 0).take 1 = [.int .i64 f.kind] := by simp [FC]
  have c1 : ((FC f).toList.drop 1).take 1 = [.int .i64 f.zone] := by simp [FC]
  have c2 : ((FC f).toList.drop 2).take 1 = [.int .i64 f.off] := by simp [FC]
  have c3 : ((FC f).toList.drop 3).take 1 = [.int .i64 f.epoch] := by simp [FC]
  have c4 : ((FC f).toList.drop 4).take 1 = [.int .i64 f.seq] := by simp [FC]
  have c5 : ((FC f).toList.drop 5).take 44 = (byteCells f.body).toList := by
    simp [FC]
    rw [List.take_of_length_le (by rw [Array.length_toList, size_byteCells, hb.1]; omega)]
  have i : ∀ n : Int, (Lit.int .i64 n).wf = true → Try.prog.keyLits 2 3 [.int .i64 n] = some [.int .i64 n] := by
    intro n hn
    simp only [Program.keyLits, Try.underlying3, hn, and_self, if_true]
  have hB := lits_bytes Try.underlying22 Try.underlying5 (by kernel_rfl) k44 f.body hb.1 hb.2 0
  unfold Program.keyLits
  simp only [Try.underlying40, k49, hlen]
  rw [if_pos ⟨trivial, by decide +kernel⟩]
  simp only [List.mapM_cons, List.mapM_nil, k1, k44, c0, c1, c2, c3, c4, c5, i _ n0, i _ n1, i _ n2, i _ n3, i _ n4, hB]
  simp [frLits]
theorem eq_rf (f g : Fr) (hf : Body f.body) (hg : Body g.body) (nf : Num64 f) (ng : Num64 g) (b : Bool) (hb : b = true ↔ f = g) (w : World) :
    (Op.equalIn 10000 40 (.agg (FC f)) (.agg (FC g))).run Try.prog w = .ok b w := by
  have hF : ∀ f : Fr, Body f.body → (Value.agg (FC f)).formed Try.prog 40 = true := by
    intro l hl
    simp only [Value.formed, Try.underlying40, FC_size, hl.1]
    kernel_rfl
  exact eq_deep (by kernel_rfl) (hF f hf) (hF g hg) (lits_rf f hf nf) (lits_rf g hg ng) b (hb.trans ⟨fun h => by rw [h], frLits_inj⟩) w
theorem dec_good (s : List Nat) (hl : s.length = 64) (hs : ∀ c ∈ s, c < 256) : Body (decF s).1.body ∧ Num64 (decF s).1 := by
  have hz : Body Fr.zero.body ∧ Num64 Fr.zero := ⟨body_zeros, rfl, rfl, rfl, rfl, rfl⟩
  unfold decF
  split
  · split
    · have ht : ∀ c ∈ s.take 60, c < 256 := fun c hc => hs c (List.mem_of_mem_take hc)
      have hw : ∀ a b : Nat, b ≤ 6 → (Lit.int .i64 (Cod.rd (((s.take 60).drop a).take b) : Nat)).wf = true := by
        intro a b hb
        have h1 := Cod.rd_lt (((s.take 60).drop a).take b) (fun c hc => ht c (List.mem_of_mem_drop (List.mem_of_mem_take hc)))
        have h2 : (256 : Nat) ^ (((s.take 60).drop a).take b).length ≤ 256 ^ 6 := Nat.pow_le_pow_right (by omega) (by rw [List.length_take]; omega)
        have h3 : (256 : Nat) ^ 6 = 281474976710656 := by decide
        exact Go.WalkArith.wf_i64 (by omega)
      refine ⟨⟨?_, ?_⟩, ?_, hw 2 2 (by omega), hw 4 2 (by omega), hw 6 4 (by omega), hw 10 6 (by omega)⟩
      · simp only [parseF]
        simp
        omega
      · intro c hc
        exact ht c (List.mem_of_mem_drop (List.mem_of_mem_take hc))
      · have := hw 0 1 (by omega)
        rw [List.drop_zero] at this
        exact this
    · exact hz
  · exact hz
theorem fr_decodes_walk (s : List Nat) (w : World) (hl : s.length = 64) (hs : ∀ c ∈ s, c < 256) :
    Calls Try.prog 5 #[.agg (byteCells s)] w fun e w' => e = .returned (.bool true) ∧ Below w.heap.size w w' := by
  obtain ⟨hb, hn⟩ := dec_good s hl hs
  have hg : ∀ j, j < 64 → s.getD j 0 < 256 := by
    intro j hj
    rw [List.getD_eq_getElem?_getD, List.getElem?_eq_getElem (by omega)]
    exact hs _ (List.getElem_mem _)
  have hsum : ((Cod.rd (s.drop 60) : Nat) : Int) = (s.getD 60 0 : Nat) + 256 * ((s.getD 61 0 : Nat) : Int) + 65536 * ((s.getD 62 0 : Nat) : Int) + 16777216 * ((s.getD 63 0 : Nat) : Int) := by
    have e : ∀ j, j < 64 → s[j]? = some (s.getD j 0) := by
      intro j hj
      rw [List.getD_eq_getElem?_getD, List.getElem?_eq_getElem (by omega)]
      rfl
    rw [Cod.rd_drop s 60 _ (e 60 (by omega)), Cod.rd_drop s 61 _ (e 61 (by omega)), Cod.rd_drop s 62 _ (e 62 (by omega)), Cod.rd_drop s 63 _ (e 63 (by omega)), List.drop_of_length_le (show s.length ≤ 64 by omega)]
    simp only [Cod.rd]
    omega
  refine fr_decodes_core (byteCells s) (FC (decF s).1) (decF s).2 (s.getD 60 0) (s.getD 61 0) (s.getD 62 0) (s.getD 63 0) w (hg 60 (by omega)) (hg 61 (by omega)) (hg 62 (by omega)) (hg 63 (by omega)) (size_sec hl) (size_frm hb.1) (size_rf hb.1) (FC_one _) (fun W => decode_any s W hl hs) (fun W => rfread_core s W hl hs) ?_ (fun W => eq_rf _ _ hb hb hn hn true (by simp) W) ?_
  · intro W
    have := fsum_any s W hl hs
    rwa [hsum] at this
  · intro W g h
    have hc : ∀ j, j < 64 → W.cell? ⟨g, j, none⟩ = some (.int .u8 (s.getD j 0 : Nat)) := fun j hj => (cell_of_row _ _ _ _ _ _ h).trans (byteCells_at s j (by omega))
    exact ⟨hc 60 (by omega), hc 61 (by omega), hc 62 (by omega), hc 63 (by omega)⟩
end Go.Proofs.Ytfcadbeamojdpaa
