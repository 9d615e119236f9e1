/- Proved here: the walk of the law on groups of entries. -/
import Derived.Test.YtfcadbeamojdpaaEnAnchor
import Derived.LoopTactic
namespace Go.Proofs.Ytfcadbeamojdpaa
open Go.RowKit Go.Rv Frm
set_option linter.unusedVariables false
theorem en_kind {e : En.E} (h : En.right e = true) : 1 ≤ e.kind ∧ e.kind ≤ 3 := by
  simp only [En.right, Bool.and_eq_true] at h
  obtain ⟨-, -, -, h7⟩ := h
  unfold En.counts at h7
  split at h7
  · rename_i hk
    rw [beq_iff_eq] at hk
    omega
  · split at h7
    · rename_i hk
      rw [beq_iff_eq] at hk
      omega
    · simp only [Bool.and_eq_true, beq_iff_eq] at h7
      omega
set_option maxRecDepth 100000 in
set_option maxHeartbeats 4000000 in
theorem en_groups_core (C : Array Value) (k : Int) (f c : Nat) (seq : Int) (F : Nat → Fr) (fl : Fr) (er : Int) (w : World)
    (hc1 : 1 ≤ c) (hc4 : c ≤ 4) (hf : f ≤ 1099511627776) (hs0 : 0 ≤ seq) (hs1 : seq ≤ 2199023255552)
    (hIC : (Try.prog.info? 55).map (·.size) = some C.size)
    (hC : ∀ (W : World) (b : Nat), W.heap[b]? = some (.cells C 55 (0, 0)) → W.cell? ⟨b, 0, none⟩ = some (.int .i64 k) ∧ W.cell? ⟨b, 1, none⟩ = some (.int .i64 f) ∧ W.cell? ⟨b, 2, none⟩ = some (.int .i64 c))
    (hF : ∀ i, i < c → (F i).body.length = 44 ∧ (F i).kind = k) (hfl : fl.body.length = 44)
    (HR' : ∀ W, Calls Try.prog 29 #[.agg C] W fun x w' => x = .returned (.bool true) ∧ Below W.heap.size W w')
    (HF' : ∀ i, i < c → ∀ W, Calls Try.prog 30 #[.agg C, .int .i64 0, .int .i64 0, .int .i64 1, .int .i64 ((f : Int) + (i : Int))] W fun x w' => x = .returned (.tuple #[.agg (FC (F i)), .int .i64 0]) ∧ Below W.heap.size W w')
    (HL' : ∀ W, Calls Try.prog 30 #[.agg C, .int .i64 0, .int .i64 0, .int .i64 1, .int .i64 seq] W fun x w' => x = .returned (.tuple #[.agg (FC fl), .int .i64 er]) ∧ Below W.heap.size W w')
    (hr : (seq < f ∧ er = 10) ∨ ((f : Int) ≤ seq ∧ seq < f + c ∧ er = 0) ∨ ((f : Int) + c ≤ seq ∧ er = 10)) :
    Calls Try.prog 10 #[.agg C, .int .i64 seq] w fun e w' => e = .returned (.bool true) ∧ Below w.heap.size w w' := by
  have hzF := (zero_of_info Try.infoFrame).1
  have HIC := Lib.hid hIC
  have HC := Lib.hid hC
  have HFF := Lib.hid hF
  have HFL := Lib.hid hfl
  have HR := Lib.hid HR'
  have HF := Lib.hid HF'
  have HL := Lib.hid HL'
  have HE := Lib.hid hr
  have HAN := Lib.hid (fun W => en_anchor W)
  have HSZ := Lib.hid (fun (g : Fr) (h : g.body.length = 44) => (show (FC Fr.zero).size = (FC g).size by rw [FC_size, FC_size, h]; simp [Fr.zero]))
  clear hIC hC hF hfl HR' HF' HL' hr
  generalize FC Fr.zero = ZF at *
  have hB0 := (Below.refl w.heap.size w).alloc (Nat.le_refl _) (.cells C 55)
  have hE0 := heap_alloc_new w (.cells C 55)
  go_enter Try.func10, Try.ntmps10
  go_wp2_with fail
  refine (HAN.out _).mono ?_
  rintro x w1 ⟨rfl, hB1⟩
  have z1 := hB1.size
  rw [World.size_alloc] at z1
  have hE1 := (hB1.block w.heap.size (by simp)).trans hE0
  have hBB1 := hB0.trans (hB1.mono hB0.size)
  clear hE0 hB0 hB1
  go_wp2_with (refine wpList_load_row rfl 55 _ rfl w.heap.size rfl 55 _ _ _ hE1 Try.underlying55 rfl HIC.out ?_)
  refine (HR.out _).mono ?_
  rintro x w2 ⟨rfl, hB2⟩
  have z2 := hB2.size
  have hE2 := (hB2.block w.heap.size (by omega)).trans hE1
  have hBB2 := hBB1.trans (hB2.mono (by omega))
  have HE2 := Lib.hid hE2
  obtain ⟨c0, c1, c2⟩ := HC.out _ _ hE2
  clear hE1 hBB1 hB2 hE2
  go_wp2
  clear c0 c1 c2
  go_loopw [5, 31] (fun n i wr => ∃ j : Nat, j ≤ c ∧ i = .int .i64 j ∧ n = .int .i64 j ∧ wr.heap[w.heap.size]? = some (.cells C 55 (0, 0)) ∧ Below w.heap.size w wr ∧ w.heap.size < wr.heap.size) (fun _ i _ => c - (intOf i).toNat)
  case atStart => exact ⟨0, Nat.zero_le _, rfl, rfl, HE2.out, hBB2, by omega⟩
  case round =>
    obtain ⟨j, hj, rfl, rfl, hE, hB, hz⟩ := hrel
    obtain ⟨c0, c1, c2⟩ := HC.out _ _ hE
    by_cases hlt : j < c
    · obtain ⟨hl, hk⟩ := HFF.out j hlt
      obtain ⟨X, hX⟩ : ∃ X, F j = X := ⟨_, rfl⟩
      have HFJ := Lib.hid (HF.out j hlt)
      rw [hX] at HFJ hl hk
      have HIX := Lib.hid (size_frm hl)
      have HZX := Lib.hid (HSZ.out X hl)
      have HCX := Lib.hid (fun (W : World) (g : Nat) (h : W.heap[g]? = some (.cells (FC X) 24 (0, 0))) => (show W.cell? ⟨g, 0, none⟩ = some (.int .i64 k) by rw [(frame_cells h).1, hk]))
      have H1X := Lib.hid (FC_one X)
      generalize FC X = XA at *
      clear hX hl hk
      go_wp2_with (refine wpList_load_row rfl 55 _ rfl w.heap.size rfl 55 _ _ _ hE Try.underlying55 rfl HIC.out ?_)
      refine (HFJ.out _).mono ?_
      rintro x w3 ⟨rfl, hB3⟩
      have z3 := hB3.size
      have hE3 := (hB3.block w.heap.size hz).trans hE
      have hBB3 := hB.trans (hB3.mono (by omega))
      have hba := (Below.refl w3.heap.size w3).alloc (Nat.le_refl _) (.cells XA 24)
      have hX4 := heap_alloc_new w3 (.cells XA 24)
      obtain ⟨W4, hW4⟩ : ∃ W4, w3.alloc (.cells XA 24) = W4 := ⟨_, rfl⟩
      rw [hW4] at hba hX4
      have z4 := hba.size
      have hE4 := (hba.block w.heap.size (by omega)).trans hE3
      have hBB4 := hBB3.trans (hba.mono (by omega))
      have HW4 := Lib.hid hW4
      have d0 := HCX.out _ _ hX4
      have HE4 := Lib.hid hE4
      clear c0 c1 c2
      obtain ⟨c0, c1, c2⟩ := HC.out _ _ hE4
      clear hE hE3 hBB3 hB3 hba hW4 hE4
      go_wp2_with (refine wpList_store_row rfl 24 _ _ rfl w3.heap.size XA rfl rfl 24 ZF (heap_alloc_new w3 _) HIX.out HZX.out H1X.out ?_; rw [World.setRow_alloc_new, HW4.out])
      go_roundw
      case rel => exact ⟨j + 1, by omega, by go_num, by go_num, HE4.out, hBB4, by omega⟩
      case measure => simp [intOf]; omega
    · obtain rfl : c = j := by omega
      have HIX := Lib.hid (size_frm HFL.out)
      have HZX := Lib.hid (HSZ.out fl HFL.out)
      have H1X := Lib.hid (FC_one fl)
      generalize FC fl = XA at *
      go_wp2_with (refine wpList_load_row rfl 55 _ rfl w.heap.size rfl 55 _ _ _ hE Try.underlying55 rfl HIC.out ?_)
      refine (HL.out _).mono ?_
      rintro x w3 ⟨rfl, hB3⟩
      have z3 := hB3.size
      have hE3 := (hB3.block w.heap.size hz).trans hE
      have hBB3 := hB.trans (hB3.mono (by omega))
      have hba := (Below.refl w3.heap.size w3).alloc (Nat.le_refl _) (.cells XA 24)
      obtain ⟨W4, hW4⟩ : ∃ W4, w3.alloc (.cells XA 24) = W4 := ⟨_, rfl⟩
      rw [hW4] at hba
      have hE4 := (hba.block w.heap.size (by omega)).trans hE3
      have hBB4 := hBB3.trans (hba.mono (by omega))
      have HW4 := Lib.hid hW4
      clear c0 c1 c2
      obtain ⟨c0, c1, c2⟩ := HC.out _ _ hE4
      clear hE hE3 hBB3 hB3 hba hW4 hE4
      go_upto_region 14 with (refine wpList_store_row rfl 24 _ _ rfl w3.heap.size XA rfl rfl 24 ZF (heap_alloc_new w3 _) HIX.out HZX.out H1X.out ?_; rw [World.setRow_alloc_new, HW4.out])
      rcases HE.out with ⟨t1, rfl⟩ | ⟨t1, t2, rfl⟩ | ⟨t1, rfl⟩
      · clear HE
        go_wp2
        go_ret
        exact ⟨rfl, hBB4⟩
      · clear HE
        go_wp2
        go_ret
        exact ⟨rfl, hBB4⟩
      · clear HE
        have t2 : decide (seq < (f : Int) + (c : Int)) = false := decide_eq_false (by omega)
        go_wp2
        go_ret
        exact ⟨rfl, hBB4⟩
set_option maxRecDepth 100000 in
set_option maxHeartbeats 4000000 in
theorem en_groups_no (C : Array Value) (f seq : Int) (r : Bool) (w : World)
    (hIC : (Try.prog.info? 55).map (·.size) = some C.size)
    (hC : ∀ (W : World) (b : Nat), W.heap[b]? = some (.cells C 55 (0, 0)) → W.cell? ⟨b, 1, none⟩ = some (.int .i64 f))
    (HR' : ∀ W, Calls Try.prog 29 #[.agg C] W fun x w' => x = .returned (.bool r) ∧ Below W.heap.size W w')
    (hr : r = false ∨ (r = true ∧ 1099511627776 < f) ∨ (r = true ∧ f ≤ 1099511627776 ∧ seq < 0) ∨ (r = true ∧ f ≤ 1099511627776 ∧ 0 ≤ seq ∧ 2199023255552 < seq)) :
    Calls Try.prog 10 #[.agg C, .int .i64 seq] w fun e w' => e = .returned (.bool true) ∧ Below w.heap.size w w' := by
  have HIC := Lib.hid hIC
  have HC := Lib.hid hC
  have HR := Lib.hid HR'
  have HE := Lib.hid hr
  have HAN := Lib.hid (fun W => en_anchor W)
  clear hIC hC HR' hr
  have hB0 := (Below.refl w.heap.size w).alloc (Nat.le_refl _) (.cells C 55)
  have hE0 := heap_alloc_new w (.cells C 55)
  go_enter Try.func10, Try.ntmps10
  go_wp2_with fail
  refine (HAN.out _).mono ?_
  rintro x w1 ⟨rfl, hB1⟩
  have z1 := hB1.size
  rw [World.size_alloc] at z1
  have hE1 := (hB1.block w.heap.size (by simp)).trans hE0
  have hBB1 := hB0.trans (hB1.mono hB0.size)
  clear hE0 hB0 hB1
  go_wp2_with (refine wpList_load_row rfl 55 _ rfl w.heap.size rfl 55 _ _ _ hE1 Try.underlying55 rfl HIC.out ?_)
  refine (HR.out _).mono ?_
  rintro x w2 ⟨rfl, hB2⟩
  have hBB2 := hBB1.trans (hB2.mono (by omega))
  have c1 := HC.out _ _ ((hB2.block w.heap.size (by omega)).trans hE1)
  clear hE1 hBB1 hB2
  rcases HE.out with rfl | ⟨rfl, t1⟩ | ⟨rfl, t1, t2⟩ | ⟨rfl, t1, t2, t3⟩
  all_goals
    clear HE
    go_wp2
    go_ret
    exact ⟨rfl, hBB2⟩
theorem en_groups_walk (e : En.E) (seq : Int) (w : World) (hb : EBody e) :
    Calls Try.prog 10 #[.agg (EC e), .int .i64 seq] w fun e w' => e = .returned (.bool true) ∧ Below w.heap.size w w' := by
  by_cases hno : En.right e = false ∨ 1099511627776 < e.first ∨ seq < 0 ∨ 2199023255552 < seq
  · refine en_groups_no (EC e) e.first seq (En.right e) w (size_ent hb.1) (fun W g h => (ent_cells h).2.1) (fun W => eright_any e W hb) ?_
    cases hr : En.right e
    · exact .inl rfl
    · rw [hr] at hno
      rcases hno with h | h | h | h
      · cases h
      · exact .inr (.inl ⟨rfl, h⟩)
      · by_cases h1 : 1099511627776 < e.first
        · exact .inr (.inl ⟨rfl, h1⟩)
        · exact .inr (.inr (.inl ⟨rfl, by omega, h⟩))
      · by_cases h1 : 1099511627776 < e.first
        · exact .inr (.inl ⟨rfl, h1⟩)
        · exact .inr (.inr (.inr ⟨rfl, by omega, by omega, h⟩))
  · have hr : En.right e = true := by
      rw [← Bool.not_eq_false]
      exact fun h => hno (.inl h)
    obtain ⟨f, c, b, m, t, he, b1, b2, b3, b4, b5, b6⟩ := En.right_nat hr
    have e1 : e.first = (f : Int) := by rw [he]
    have e2 : e.count = (c : Int) := by rw [he]
    obtain ⟨k1, k2⟩ := en_kind hr
    have hf : f ≤ 1099511627776 := by
      by_cases h : 1099511627776 < e.first
      · exact absurd (.inr (.inl h)) hno
      · omega
    have hs0 : 0 ≤ seq := by
      by_cases h : seq < 0
      · exact absurd (.inr (.inr (.inl h))) hno
      · omega
    have hs1 : seq ≤ 2199023255552 := by
      by_cases h : 2199023255552 < seq
      · exact absurd (.inr (.inr (.inr h))) hno
      · omega
    have hrf : ∀ s : Int, 0 ≤ s → s ≤ 281474976710655 → rightF ⟨e.kind, 0, 0, 1, s, En.body e⟩ = true := by
      intro s h1 h2
      simp only [rightF, decide_eq_true_eq]
      omega
    have hfr : ∀ s : Int, 0 ≤ s → s ≤ 281474976710655 → (f : Int) ≤ s → s < f + c → frameE e 0 0 1 s = (⟨e.kind, 0, 0, 1, s, En.body e⟩, 0) := by
      intro s h1 h2 h3 h4
      unfold frameE
      rw [if_pos ⟨hr, hrf s h1 h2, by omega, by omega⟩]
    have hfn : ∀ s : Int, (s < f ∨ (f : Int) + c ≤ s) → frameE e 0 0 1 s = (Fr.zero, 10) := by
      intro s h
      unfold frameE
      rw [if_neg (by omega)]
    refine en_groups_core (EC e) e.kind f c seq (fun i => ⟨e.kind, 0, 0, 1, (f : Int) + (i : Int), En.body e⟩) (frameE e 0 0 1 seq).1 (frameE e 0 0 1 seq).2 w b2 b3 hf hs0 hs1 (size_ent hb.1) ?_ (fun i _ => ⟨En.body_length hb.1, rfl⟩) ?_ (fun W => by have := eright_any e W hb; rwa [hr] at this) ?_ (fun W => eframe_any e 0 0 1 seq W hb) ?_
    · intro W g h
      obtain ⟨c0, c1, c2, -⟩ := ent_cells h
      rw [e1] at c1
      rw [e2] at c2
      exact ⟨c0, c1, c2⟩
    · by_cases h : (f : Int) ≤ seq ∧ seq < f + c
      · rw [hfr seq hs0 (by omega) h.1 h.2]
        exact En.body_length hb.1
      · rw [hfn seq (by omega)]
        simp [Fr.zero]
    · intro i hi W
      have := eframe_any e 0 0 1 ((f : Int) + (i : Int)) W hb
      rw [hfr _ (by omega) (by omega) (by omega) (by omega)] at this
      exact this
    · by_cases h1 : seq < f
      · exact .inl ⟨h1, by rw [hfn seq (.inl h1)]⟩
      · by_cases h2 : seq < f + c
        · exact .inr (.inl ⟨by omega, h2, by rw [hfr seq hs0 (by omega) (by omega) h2]⟩)
        · exact .inr (.inr ⟨by omega, by rw [hfn seq (.inr (by omega))]⟩)
end Go.Proofs.Ytfcadbeamojdpaa
