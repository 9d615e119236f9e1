/- Proved here: the walk of the law on entries that are read from any frame. -/
import Derived.Test.YtfcadbeamojdpaaEnEq
import Derived.Test.YtfcadbeamojdpaaEnAnchor
import Derived.Test.YtfcadbeamojdpaaRfRight
namespace Go.Proofs.Ytfcadbeamojdpaa
open Go.RowKit Go.Rv Frm
set_option linter.unusedVariables false
set_option maxRecDepth 100000 in
set_option maxHeartbeats 8000000 in
theorem en_reads_walk (f : Fr) (w : World) (hb : Body f.body) (hn : Num64 f) :
    Calls Try.prog 14 #[.agg (FC f)] w fun e w' => e = .returned (.bool true) ∧ Below w.heap.size w w' := by
  have hcases := readE_cases f hb
  have HAN := Lib.hid (fun W => en_anchor W)
  have hzE := (zero_of_info Try.infoEntry).1
  have hzT := (zero_of_info Try.infoRE).1
  have hzF := (zero_of_info Try.infoFrame).1
  have hob := ofE_body (kind := f.kind) hb.1 hb.2
  have hon := ofE_num (kind := f.kind) (b := f.body) hn.1 hb.2
  have HIF := Lib.hid (size_frm hb.1)
  have H1F := Lib.hid (FC_one f)
  have HQF : Hid (∀ W, (Op.equalIn 10000 24 (.agg (FC f)) (.agg (FC f))).run Try.prog W = .ok true W) := Lib.hid (fun W => eq_frame f f hb hb hn hn true (by simp) W)
  have HRD := Lib.hid (fun W => eread_any f W hb)
  have HOF : Hid (∀ W, Calls Try.prog 36 #[.int .i64 f.kind, .agg (byteCells f.body).toList.toArray] W (RofPost (En.ofE f.kind f.body) W)) := Lib.hid (fun W => by rw [Array.toArray_toList]; exact rof_any f.kind f.body W hb.1 hb.2)
  have HRR := Lib.hid (fun W => rfright_any f W)
  have HIL : Hid ((Try.prog.info? 22).map (·.size) = some (byteCells f.body).toList.length) := Lib.hid (by rw [Array.length_toList]; exact size_body hb.1)
  have hF0 := heap_alloc_new w (.cells (FC f) 24)
  have hB0 : Below w.heap.size w (w.alloc (.cells (FC f) 24)) := (Below.refl _ w).alloc (Nat.le_refl _) _
  have HFC := Lib.hid (fun (W : World) (h : W.heap[w.heap.size]? = some (.cells (FC f) 24 (0, 0))) => And.intro (frame_cells h) (frame_range h))
  obtain ⟨re, her⟩ : ∃ re, readE f = re := ⟨_, rfl⟩
  obtain ⟨q, hq⟩ : ∃ q, En.ofE f.kind f.body = q := ⟨_, rfl⟩
  rw [her, hq] at hcases
  rw [hq] at hob hon HOF
  rw [her] at HRD
  have hrb : EBody re.1 ∧ Num38 re.1 := by
    rcases hcases with ⟨_, h⟩ | ⟨_, _, h⟩ | ⟨_, _, _, h⟩ | ⟨_, _, _, _, h⟩ | ⟨_, _, _, _, h, _⟩
    all_goals rw [h]
    all_goals first | exact ⟨zero_ebody, zero_num⟩ | exact ⟨hob, hon⟩
  have hfe := fun W => eframe_any q.1 f.zone f.off f.epoch f.seq W hob
  have hlo := fun W => lof_any q.1 W hob
  have HIX := Lib.hid (size_ent hrb.1.1)
  have H1X := Lib.hid (EC_one re.1)
  have HSX : Hid ((EC En.E.zero).size = (EC re.1).size) := Lib.hid (by rw [EC_size, EC_size, hrb.1.1]; rfl)
  have HIY := Lib.hid (size_re (e := q.1) hob.1)
  have H1Y := Lib.hid (EC_one q.1)
  have HSY : Hid ((EC En.E.zero).size = (EC q.1).size) := Lib.hid (by rw [EC_size, EC_size, hob.1]; rfl)
  have HYC := Lib.hid (fun (W : World) (b : Nat) (h : W.heap[b]? = some (.cells (EC q.1) 64 (0, 0))) => (⟨(ent_cells h).2.1, (ent_cells h).2.2.1⟩ : W.cell? ⟨b, 1, none⟩ = some (.int .i64 q.1.first) ∧ W.cell? ⟨b, 2, none⟩ = some (.int .i64 q.1.count)))
  have hbnd : q.2 = 0 → -1000 ≤ q.1.first ∧ q.1.first ≤ 281474976710655 ∧ -1000 ≤ q.1.count ∧ q.1.count ≤ 1000 := fun h => by
    have h1 : En.right q.1 = true := by
      rw [← hq] at h ⊢
      unfold En.ofE at h ⊢
      split at h
      · rename_i hr; rw [if_pos hr]; exact hr
      · simp at h
    obtain ⟨a1, a2, a3, a4, a5, ha, b1, b2, b3, b4, b5, b6⟩ := En.right_nat h1
    rw [ha]
    simp only
    omega
  have hqz : ∀ W, (Op.equalIn 10000 55 (.agg (EC re.1)) (.agg (EC re.1))).run Try.prog W = .ok true W := fun W => eq_ent re.1 re.1 hrb.1 hrb.1 hrb.2 hrb.2 true (by simp) W
  have HBZ : Hid (re.1 = En.E.zero → Try.prog.built 55 [] = some (EC re.1)) := Lib.hid (fun h => by rw [h]; exact built_ent0)
  have hqy : re.1 = q.1 → ∀ W, (Op.equalIn 10000 64 (.agg (EC re.1)) (.agg (EC q.1))).run Try.prog W = .ok true W := fun h W => eq_re re.1 q.1 hrb.1 hob hrb.2 hon true (by simp [h]) W
  have hRP := HRD.out
  unfold EntPost at hRP
  have HRD2 := Lib.hid hRP
  have hOP := HOF.out
  unfold RofPost at hOP
  have HOF2 := Lib.hid hOP
  have HQZ := Lib.hid hqz
  have HQY := Lib.hid hqy
  have HFE := Lib.hid hfe
  have HLO := Lib.hid hlo
  have HCS := Lib.hid hcases
  have HFZ : Hid ((FC Fr.zero).size = (FC f).size) := Lib.hid (by rw [FC_size, FC_size, hb.1]; rfl)
  clear HRD HOF hRP hOP hqz hqy hfe hlo hcases hrb hob hon her hq hb hn
  obtain ⟨re1, er⟩ := re
  obtain ⟨oe, oer⟩ := q
  try simp only at hbnd
  obtain ⟨okb, hok⟩ : ∃ okb, decide (oer = 0) = okb := ⟨_, rfl⟩
  have HOK := Lib.hid hok
  have HOF3 := Lib.hid (fun W => by have := HOF2.out W; rwa [hok] at this)
  obtain ⟨F, hF⟩ : ∃ F, FC f = F := ⟨_, rfl⟩
  obtain ⟨X, hX⟩ : ∃ X, EC re1 = X := ⟨_, rfl⟩
  obtain ⟨Y, hY⟩ : ∃ Y, EC oe = Y := ⟨_, rfl⟩
  obtain ⟨BL, hBL⟩ : ∃ BL, (byteCells f.body).toList = BL := ⟨_, rfl⟩
  rw [hF] at HIF H1F HQF hF0 hB0 HFC HFZ HRD2 HRR ⊢
  rw [hBL] at HFC HOF3 HIL
  try simp only at HIX H1X HSX HIY H1Y HSY HYC HQZ HQY HFE HLO HBZ
  rw [hX] at HIX H1X HSX HQZ HQY HBZ
  have HRD3 := Lib.hid (fun W => by have := HRD2.out W; rwa [hX] at this)
  have HOF4 := Lib.hid (fun W => by have := HOF3.out W; rwa [hY] at this)
  rw [hY] at HIY H1Y HSY HYC HQY HFE HLO
  have HX := Lib.hid hX
  have HY := Lib.hid hY
  have HF := Lib.hid hF
  clear HRD2 HOF2 HOF3 hF hX hY hBL hok
  obtain ⟨⟨c0, c1, c2, c3, c4⟩, hmid⟩ := HFC.out _ hF0
  go_enter Try.func14, Try.ntmps14
  go_wp2_with fail
  refine (HAN.out _).mono ?_
  rintro x w1 ⟨rfl, hB1⟩
  have hF1 := (hB1.block w.heap.size (by simp)).trans hF0
  have hBw1 := hB0.trans (hB1.mono hB0.size)
  have z1 : w.heap.size < w1.heap.size := (Array.getElem?_eq_some_iff.1 hF1).1
  clear c0 c1 c2 c3 c4 hmid hF0 hB0 hB1
  go_wp2_with (refine wpList_load_row rfl 24 _ rfl w.heap.size rfl 24 _ _ _ hF1 Try.underlying24 rfl HIF.out ?_)
  refine (HRD3.out _).mono ?_
  rintro x w2 ⟨rfl, hB2⟩
  have z2 := hB2.size
  obtain ⟨W3, hW3⟩ : ∃ W3, w2.alloc (.cells X 55) = W3 := ⟨_, rfl⟩
  have hb3 : Below w2.heap.size w2 W3 := by rw [← hW3]; exact (Below.refl _ _).alloc (Nat.le_refl _) _
  have hX3 : W3.heap[w2.heap.size]? = some (.cells X 55 (0, 0)) := by rw [← hW3]; exact heap_alloc_new w2 _
  have hB13 : Below w1.heap.size w1 W3 := hB2.trans (hb3.mono z2)
  have hF3 := (hB13.block w.heap.size z1).trans hF1
  have hBw3 := hBw1.trans (hB13.mono hBw1.size)
  have z3 : w2.heap.size < W3.heap.size := (Array.getElem?_eq_some_iff.1 hX3).1
  have HW3 := Lib.hid hW3
  obtain ⟨⟨c0, c1, c2, c3, c4⟩, hmid⟩ := HFC.out _ hF3
  have HX3 := Lib.hid hX3
  clear hB2 hb3 hB13 hW3 hF1 hBw1 hX3
  go_upto_region 4 with (refine wpList_store_row rfl 55 _ _ rfl w2.heap.size X rfl rfl 55 (EC En.E.zero) (heap_alloc_new w2 _) HIX.out HSX.out H1X.out ?_; rw [World.setRow_alloc_new])
  rw [HW3.out]
  go_wp2_with (refine wpList_load_mid_asked (by rfl) 22 _ rfl w.heap.size 5 rfl BL _ hmid Try.underlying22 rfl HIL.out ?_)
  refine (HOF4.out _).mono ?_
  rintro x w4 ⟨rfl, hB4⟩
  have z4 := hB4.size
  obtain ⟨W5, hW5⟩ : ∃ W5, w4.alloc (.cells Y 64) = W5 := ⟨_, rfl⟩
  have hb5 : Below w4.heap.size w4 W5 := by rw [← hW5]; exact (Below.refl _ _).alloc (Nat.le_refl _) _
  have hY5 : W5.heap[w4.heap.size]? = some (.cells Y 64 (0, 0)) := by rw [← hW5]; exact heap_alloc_new w4 _
  have hB35 : Below W3.heap.size W3 W5 := hB4.trans (hb5.mono z4)
  have hF5 := (hB35.block w.heap.size (by omega)).trans hF3
  have hX5 := (hB35.block w2.heap.size z3).trans HX3.out
  have hBw5 := hBw3.trans (hB35.mono hBw3.size)
  have z5 : w4.heap.size < W5.heap.size := (Array.getElem?_eq_some_iff.1 hY5).1
  have HW5 := Lib.hid hW5
  have HF5 := Lib.hid hF5
  have HX5 := Lib.hid hX5
  have HY5 := Lib.hid hY5
  have HBW5 := Lib.hid hBw5
  clear hB4 hb5 hB35 hW5 hF3 hBw3 c0 c1 c2 c3 c4 hmid hX5 hY5 hBw5
  go_upto_region 5 with (refine wpList_store_row rfl 64 _ _ rfl w4.heap.size Y rfl rfl 64 (EC En.E.zero) (heap_alloc_new w4 _) HIY.out HSY.out H1Y.out ?_; rw [World.setRow_alloc_new])
  rw [HW5.out]
  have hcs := HCS.out
  simp only [ne_eq, Prod.mk.injEq] at hcs
  rcases hcs with ⟨k1, rfl, rfl⟩ | ⟨rfl, k2, rfl, rfl⟩ | ⟨rfl, k2, k3, rfl, rfl⟩ | ⟨rfl, k2, k3, k4, rfl, rfl⟩ | ⟨rfl, k2, k3, k4, ⟨rfl, rfl⟩, k5⟩
  · have hokb : okb = false := by rw [← HOK.out]; exact decide_eq_false k1
    subst hokb
    have HBX := Lib.hid (HBZ.out rfl)
    clear k1 hbnd
    go_upto_region 6 with (fail)
    go_wp2_with (first | (refine wpList_row_on (by rfl) 55 _ rfl w2.heap.size rfl 55 _ _ _ HX5.out Try.underlying55 rfl HIX.out ?_) | (refine wpList_build_asked (by rfl) 55 _ rfl #[] (by simp) X HBX.out ?_) | (refine wpList_eql_asked (by rfl) 55 55 _ _ rfl X X rfl rfl (by kernel_rfl) true HQZ.out ?_))
    go_ret
    exact ⟨rfl, HBW5.out⟩
  · have hokb : okb = true := by rw [← HOK.out]; rfl
    subst hokb
    rw [k2] at HRR
    have HBX := Lib.hid (HBZ.out rfl)
    have hbd := hbnd rfl
    obtain ⟨fi, hfi⟩ : ∃ fi, oe.first = fi := ⟨_, rfl⟩
    obtain ⟨co, hco⟩ : ∃ co, oe.count = co := ⟨_, rfl⟩
    simp only [hfi, hco] at hbd HYC
    clear k2 hbnd hfi hco
    have hq1 := IntWalk.i64_in (fi + co) (by omega)
    go_wp2_with (refine wpList_row_on (by rfl) 24 _ rfl w.heap.size rfl 24 _ _ _ HF5.out Try.underlying24 rfl HIF.out ?_)
    refine (HRR.out _).mono ?_
    rintro x w6 ⟨rfl, hB6⟩
    have hF6 := (hB6.block w.heap.size (by omega)).trans HF5.out
    have hX6 := (hB6.block w2.heap.size (by omega)).trans HX5.out
    have hY6 := (hB6.block w4.heap.size (by omega)).trans HY5.out
    have HBW6 := Lib.hid (HBW5.out.trans (hB6.mono HBW5.out.size))
    obtain ⟨y1, y2⟩ := HYC.out _ _ hY6
    obtain ⟨⟨c0, c1, c2, c3, c4⟩, -⟩ := HFC.out _ hF6
    clear hF6 hY6 hB6
    go_upto_region 6 with (fail)
    go_wp2_with (first | (refine wpList_row_on (by rfl) 55 _ rfl w2.heap.size rfl 55 _ _ _ hX6 Try.underlying55 rfl HIX.out ?_) | (refine wpList_build_asked (by rfl) 55 _ rfl #[] (by simp) X HBX.out ?_) | (refine wpList_eql_asked (by rfl) 55 55 _ _ rfl X X rfl rfl (by kernel_rfl) true HQZ.out ?_))
    go_ret
    exact ⟨rfl, HBW6.out⟩
  · have hokb : okb = true := by rw [← HOK.out]; rfl
    subst hokb
    rw [k2] at HRR
    have HBX := Lib.hid (HBZ.out rfl)
    have hbd := hbnd rfl
    have t3 : decide (f.seq < oe.first) = true := decide_eq_true (by omega)
    obtain ⟨fi, hfi⟩ : ∃ fi, oe.first = fi := ⟨_, rfl⟩
    obtain ⟨co, hco⟩ : ∃ co, oe.count = co := ⟨_, rfl⟩
    simp only [hfi, hco] at hbd HYC t3
    clear k2 k3 hbnd hfi hco
    have hq1 := IntWalk.i64_in (fi + co) (by omega)
    go_wp2_with (refine wpList_row_on (by rfl) 24 _ rfl w.heap.size rfl 24 _ _ _ HF5.out Try.underlying24 rfl HIF.out ?_)
    refine (HRR.out _).mono ?_
    rintro x w6 ⟨rfl, hB6⟩
    have hF6 := (hB6.block w.heap.size (by omega)).trans HF5.out
    have hX6 := (hB6.block w2.heap.size (by omega)).trans HX5.out
    have hY6 := (hB6.block w4.heap.size (by omega)).trans HY5.out
    have HBW6 := Lib.hid (HBW5.out.trans (hB6.mono HBW5.out.size))
    obtain ⟨y1, y2⟩ := HYC.out _ _ hY6
    obtain ⟨⟨c0, c1, c2, c3, c4⟩, -⟩ := HFC.out _ hF6
    clear hF6 hY6 hB6
    go_upto_region 6 with (fail)
    go_wp2_with (first | (refine wpList_row_on (by rfl) 55 _ rfl w2.heap.size rfl 55 _ _ _ hX6 Try.underlying55 rfl HIX.out ?_) | (refine wpList_build_asked (by rfl) 55 _ rfl #[] (by simp) X HBX.out ?_) | (refine wpList_eql_asked (by rfl) 55 55 _ _ rfl X X rfl rfl (by kernel_rfl) true HQZ.out ?_))
    go_ret
    exact ⟨rfl, HBW6.out⟩
  · have hokb : okb = true := by rw [← HOK.out]; rfl
    subst hokb
    rw [k2] at HRR
    have HBX := Lib.hid (HBZ.out rfl)
    have hbd := hbnd rfl
    have t3 : decide (f.seq < oe.first) = false := decide_eq_false (by omega)
    have t4 : decide (oe.first + oe.count ≤ f.seq) = true := decide_eq_true (by omega)
    obtain ⟨fi, hfi⟩ : ∃ fi, oe.first = fi := ⟨_, rfl⟩
    obtain ⟨co, hco⟩ : ∃ co, oe.count = co := ⟨_, rfl⟩
    simp only [hfi, hco] at hbd HYC t3 t4
    clear k2 k3 k4 hbnd hfi hco
    have hq1 := IntWalk.i64_in (fi + co) (by omega)
    go_wp2_with (refine wpList_row_on (by rfl) 24 _ rfl w.heap.size rfl 24 _ _ _ HF5.out Try.underlying24 rfl HIF.out ?_)
    refine (HRR.out _).mono ?_
    rintro x w6 ⟨rfl, hB6⟩
    have hF6 := (hB6.block w.heap.size (by omega)).trans HF5.out
    have hX6 := (hB6.block w2.heap.size (by omega)).trans HX5.out
    have hY6 := (hB6.block w4.heap.size (by omega)).trans HY5.out
    have HBW6 := Lib.hid (HBW5.out.trans (hB6.mono HBW5.out.size))
    obtain ⟨y1, y2⟩ := HYC.out _ _ hY6
    obtain ⟨⟨c0, c1, c2, c3, c4⟩, -⟩ := HFC.out _ hF6
    clear hF6 hY6 hB6
    go_upto_region 6 with (fail)
    go_wp2_with (first | (refine wpList_row_on (by rfl) 55 _ rfl w2.heap.size rfl 55 _ _ _ hX6 Try.underlying55 rfl HIX.out ?_) | (refine wpList_build_asked (by rfl) 55 _ rfl #[] (by simp) X HBX.out ?_) | (refine wpList_eql_asked (by rfl) 55 55 _ _ rfl X X rfl rfl (by kernel_rfl) true HQZ.out ?_))
    go_ret
    exact ⟨rfl, HBW6.out⟩
  · have hokb : okb = true := by rw [← HOK.out]; rfl
    subst hokb
    rw [k2] at HRR
    have hqy := HQY.out rfl
    have hbd := hbnd rfl
    have t3 : decide (f.seq < re1.first) = false := decide_eq_false (by omega)
    have t4 : decide (re1.first + re1.count ≤ f.seq) = false := decide_eq_false (by omega)
    have HFE2 : Hid (∀ W, Calls Try.prog 30 #[.agg X, .int .i64 f.zone, .int .i64 f.off, .int .i64 f.epoch, .int .i64 f.seq] W fun x w' => x = .returned (.tuple #[.agg F, .int .i64 0]) ∧ Below W.heap.size W w') := Lib.hid (fun W => by
      have := HFE.out W
      unfold FrmPost at this
      rw [k5] at this
      try simp only at this
      rw [HF.out] at this
      rwa [← HY.out, HX.out] at this)
    have HXY : Hid (X = Y) := Lib.hid (by rw [← HX.out, HY.out])
    have HLO2 : Hid (∀ W, Calls Try.prog 32 #[.agg X] W fun x w' => x = .returned (.agg X) ∧ Below W.heap.size W w') := Lib.hid (fun W => by have := HLO.out W; rwa [← HY.out, HX.out] at this)
    have HQX : Hid (∀ W, (Op.equalIn 10000 64 (.agg X) (.agg Y)).run Try.prog W = .ok true W) := Lib.hid hqy
    clear k2 k3 k4 k5 hbnd hqy HFE HLO HCS
    obtain ⟨fi, hfi⟩ : ∃ fi, re1.first = fi := ⟨_, rfl⟩
    obtain ⟨co, hco⟩ : ∃ co, re1.count = co := ⟨_, rfl⟩
    rw [hfi, hco] at hbd HYC t4
    rw [hfi] at t3
    clear hfi hco
    obtain ⟨y1, y2⟩ := HYC.out _ _ HY5.out
    obtain ⟨⟨c0, c1, c2, c3, c4⟩, -⟩ := HFC.out _ HF5.out
    have hq1 := IntWalk.i64_in (fi + co) (by omega)
    go_wp2_with (refine wpList_row_on (by rfl) 24 _ rfl w.heap.size rfl 24 _ _ _ HF5.out Try.underlying24 rfl HIF.out ?_)
    refine (HRR.out _).mono ?_
    rintro x w6 ⟨rfl, hB6⟩
    have hF6 := (hB6.block w.heap.size (by omega)).trans HF5.out
    have hX6 := (hB6.block w2.heap.size (by omega)).trans HX5.out
    have hY6 := (hB6.block w4.heap.size (by omega)).trans HY5.out
    have HBW6 := Lib.hid (HBW5.out.trans (hB6.mono HBW5.out.size))
    have z6 := hB6.size
    obtain ⟨y1, y2⟩ := HYC.out _ _ hY6
    obtain ⟨⟨c0, c1, c2, c3, c4⟩, -⟩ := HFC.out _ hF6
    have HF6 := Lib.hid hF6
    have HX6 := Lib.hid hX6
    have HY6 := Lib.hid hY6
    clear hF6 hY6 hB6
    go_upto_region 7 with (fail)
    go_wp2_with (refine wpList_row_on (by rfl) 55 _ rfl w2.heap.size rfl 55 _ _ _ HX6.out Try.underlying55 rfl HIX.out ?_)
    refine (HFE2.out _).mono ?_
    rintro x w7 ⟨rfl, hB7⟩
    have z7 := hB7.size
    obtain ⟨W8, hW8⟩ : ∃ W8, w7.alloc (.cells F 24) = W8 := ⟨_, rfl⟩
    have hb8 : Below w7.heap.size w7 W8 := by rw [← hW8]; exact (Below.refl _ _).alloc (Nat.le_refl _) _
    have HG8 : Hid (W8.heap[w7.heap.size]? = some (.cells F 24 (0, 0))) := Lib.hid (by rw [← hW8]; exact heap_alloc_new w7 _)
    have hB68 : Below w6.heap.size w6 W8 := hB7.trans (hb8.mono z7)
    have HF8 := Lib.hid ((hB68.block w.heap.size (by omega)).trans HF6.out)
    have HX8 := Lib.hid ((hB68.block w2.heap.size (by omega)).trans HX6.out)
    have HY8 := Lib.hid ((hB68.block w4.heap.size (by omega)).trans HY6.out)
    have HBW8 := Lib.hid (HBW6.out.trans (hB68.mono HBW6.out.size))
    have z8 := hB68.size
    have z78 : w7.heap.size < W8.heap.size := (Array.getElem?_eq_some_iff.1 HG8.out).1
    have HW8 := Lib.hid hW8
    clear hB7 hb8 hB68 hW8 hX6 y1 y2 c0 c1 c2 c3 c4
    go_upto_region 8 with (refine wpList_store_row rfl 24 _ _ rfl w7.heap.size F rfl rfl 24 (FC Fr.zero) (heap_alloc_new w7 _) HIF.out HFZ.out H1F.out ?_; rw [World.setRow_alloc_new])
    rw [HW8.out]
    refine wp_region_conf2 17 [Fact.eq ?rax0, Fact.eq (.bool true), Fact.eq ?rax2, Fact.eq ?rax3, Fact.eq ?rax4, Fact.eq ?rax5, Fact.eq (.bool true), Fact.eq ?rax7, Fact.eq ?rax8, Fact.eq ?rax9, Fact.eq ?rax10, Fact.eq (.bool true), Fact.eq ?rax12, Fact.eq ?rax13, Fact.eq ?rax14, Fact.eq (.bool true), Fact.eq ?rax16] ?raA (by kernel_rfl) (by kernel_rfl) ?rahA ?raho ?rahend
    case rahA =>
      intro vv
      simp only [putRules, Nat.reduceAdd]
      rfl
    case raho =>
      refine ⟨?_, ?_, ?_, ?_, ?_, ?_, ?_, ?_, ?_, ?_, ?_, ?_, ?_, ?_, ?_, ?_, ?_, trivial⟩
      · intro vv W K hB hd HK
        simp only [confRules] at HK
        clear hd
        go_wp2
        refine HK.out _ _ (Below.refl _ _) ?_
        rfl
      · intro vv W K hB hd HK
        simp only [confRules] at hd HK
        have h0 := hd
        clear hd
        simp only [h0] at HK ⊢
        clear h0
        go_wp2
        refine HK.out _ _ (Below.refl _ _) ?_
        rfl
      · intro vv W K hB hd HK
        simp only [confRules] at hd HK
        have h1 := hd
        clear hd
        simp only [h1] at HK ⊢
        clear h1
        go_wp2
        refine HK.out _ _ (Below.refl _ _) ?_
        rfl
      · intro vv W K hB hd HK
        simp only [confRules] at hd HK
        have h2 := hd
        clear hd
        simp only [h2] at HK ⊢
        clear h2
        refine wpList_guard_yes (by rfl) ?_
        have hT := (hB.block (w2.heap.size) (by omega)).trans HX8.out
        go_wp2_with (refine wpList_row_on (by rfl) 55 _ rfl w2.heap.size rfl 55 _ _ _ hT Try.underlying55 rfl HIX.out ?_)
        refine HK.out _ _ (Below.refl _ _) ?_
        rfl
      · intro vv W K hB hd HK
        simp only [confRules] at hd HK
        obtain ⟨h3, h2, _⟩ := hd
        simp only [h3, h2] at HK ⊢
        clear h3 h2
        refine wpList_guard_yes (by rfl) ?_
        go_wp2_with (refine (HLO2.out _).mono ?_; rintro e w9 ⟨rfl, hB9⟩)
        refine HK.out _ _ hB9 ?_
        rfl
      · intro vv W K hB hd HK
        simp only [confRules] at hd HK
        have h2 := hd
        clear hd
        simp only [h2] at HK ⊢
        clear h2
        refine wpList_guard_yes (by rfl) ?_
        have hT := (hB.block (w4.heap.size) (by omega)).trans HY8.out
        go_wp2_with (refine wpList_row_on (by rfl) 64 _ rfl w4.heap.size rfl 64 _ _ _ hT Try.underlying64 rfl HIY.out ?_)
        refine HK.out _ _ (Below.refl _ _) ?_
        rfl
      · intro vv W K hB hd HK
        simp only [confRules] at hd HK
        obtain ⟨h4, h5, h2⟩ := hd
        simp only [h4, h5, h2] at HK ⊢
        clear h4 h5 h2
        refine wpList_guard_yes (by rfl) ?_
        go_wp2_with (refine wpList_eql_on (by rfl) 64 64 _ _ rfl X Y rfl rfl (by kernel_rfl) true HQX.out ?_)
        refine HK.out _ _ (Below.refl _ _) ?_
        rfl
      · intro vv W K hB hd HK
        simp only [confRules] at hd HK
        obtain ⟨h2, h6⟩ := hd
        simp only [h2, h6] at HK ⊢
        clear h2 h6
        go_wp2
        refine HK.out _ _ (Below.refl _ _) ?_
        rfl
      · intro vv W K hB hd HK
        simp only [confRules] at hd HK
        obtain ⟨h7, h4⟩ := hd
        simp only [h7, h4] at HK ⊢
        clear h7 h4
        go_wp2
        refine HK.out _ _ (Below.refl _ _) ?_
        rfl
      · intro vv W K hB hd HK
        simp only [confRules] at hd HK
        have h8 := hd
        clear hd
        simp only [h8] at HK ⊢
        clear h8
        refine wpList_guard_yes (by rfl) ?_
        have hT := (hB.block (w7.heap.size) (by omega)).trans HG8.out
        go_wp2_with (refine wpList_row_on (by rfl) 24 _ rfl w7.heap.size rfl 24 _ _ _ hT Try.underlying24 rfl HIF.out ?_)
        refine HK.out _ _ (Below.refl _ _) ?_
        rfl
      · intro vv W K hB hd HK
        simp only [confRules] at hd HK
        have h8 := hd
        clear hd
        simp only [h8] at HK ⊢
        clear h8
        refine wpList_guard_yes (by rfl) ?_
        have hT := (hB.block (w.heap.size) (by omega)).trans HF8.out
        go_wp2_with (refine wpList_row_on (by rfl) 24 _ rfl w.heap.size rfl 24 _ _ _ hT Try.underlying24 rfl HIF.out ?_)
        refine HK.out _ _ (Below.refl _ _) ?_
        rfl
      · intro vv W K hB hd HK
        simp only [confRules] at hd HK
        obtain ⟨h9, h10, h8⟩ := hd
        simp only [h9, h10, h8] at HK ⊢
        clear h9 h10 h8
        refine wpList_guard_yes (by rfl) ?_
        go_wp2_with (refine wpList_eql_on (by rfl) 24 24 _ _ rfl F F rfl rfl (by kernel_rfl) true HQF.out ?_)
        refine HK.out _ _ (Below.refl _ _) ?_
        rfl
      · intro vv W K hB hd HK
        simp only [confRules] at hd HK
        obtain ⟨h8, h11⟩ := hd
        simp only [h8, h11] at HK ⊢
        clear h8 h11
        go_wp2
        refine HK.out _ _ (Below.refl _ _) ?_
        rfl
      · intro vv W K hB hd HK
        simp only [confRules] at hd HK
        obtain ⟨h12, h8⟩ := hd
        simp only [h12, h8] at HK ⊢
        clear h12 h8
        go_wp2
        refine HK.out _ _ (Below.refl _ _) ?_
        rfl
      · intro vv W K hB hd HK
        simp only [confRules] at hd HK
        have h13 := hd
        clear hd
        simp only [h13] at HK ⊢
        clear h13
        refine wpList_guard_yes (by rfl) ?_
        go_wp2
        refine HK.out _ _ (Below.refl _ _) ?_
        rfl
      · intro vv W K hB hd HK
        simp only [confRules] at hd HK
        obtain ⟨h14, h13⟩ := hd
        simp only [h14, h13] at HK ⊢
        clear h14 h13
        refine wpList_guard_yes (by rfl) ?_
        go_wp2
        refine HK.out _ _ (Below.refl _ _) ?_
        rfl
      · intro vv W K hB hd HK
        simp only [confRules] at hd HK
        obtain ⟨h13, h15⟩ := hd
        simp only [h13, h15] at HK ⊢
        clear h13 h15
        go_wp2
        refine HK.out _ _ (Below.refl _ _) ?_
        rfl
    case rahend =>
      intro vv W hB hf
      have e16 := hf 16 (by decide)
      simp only [endRules] at e16
      simp only [e16, dropRules]
      clear hf e16
      go_wp2
      go_ret
      exact ⟨rfl, HBW8.out.trans (hB.mono HBW8.out.size)⟩
end Go.Proofs.Ytfcadbeamojdpaa
