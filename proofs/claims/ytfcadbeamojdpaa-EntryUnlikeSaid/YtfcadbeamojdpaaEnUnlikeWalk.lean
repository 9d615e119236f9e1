/- Proved here: the walk of the law on entries that are unlike. -/
import Derived.Test.YtfcadbeamojdpaaEnAnchor
import Derived.Test.YtfcadbeamojdpaaConf2
namespace En
theorem body_inj {a b : E} (ha : right a = true) (hb : right b = true) (la : a.bytes.length = 32) (lb : b.bytes.length = 32) (hk : a.kind = b.kind) (h : body a = body b) : a = b := by
  obtain ⟨f, c, k, m, t, ea, a1, a2, a3, a4, a5, a6⟩ := right_nat ha
  obtain ⟨f', c', k', m', t', eb, b1, b2, b3, b4, b5, b6⟩ := right_nat hb
  obtain ⟨ka, fa, ca, ba, ma, ta, bya⟩ := a
  obtain ⟨kb, fb, cb, bb, mb, tb, byb⟩ := b
  simp only [E.mk.injEq, true_and, and_true] at ea eb hk la lb
  obtain ⟨rfl, rfl, rfl, rfl, rfl⟩ := ea
  obtain ⟨rfl, rfl, rfl, rfl, rfl⟩ := eb
  simp only [body, Int.toNat_natCast] at h
  obtain ⟨h, e1⟩ := List.append_inj' h (by rw [la, lb])
  obtain ⟨h, e2⟩ := List.append_inj' h (by simp [Cod.leN_length])
  obtain ⟨h, e3⟩ := List.append_inj' h (by simp [Cod.leN_length])
  obtain ⟨h, e4⟩ := List.append_inj' h (by simp [Cod.leN_length])
  obtain ⟨h, e5⟩ := List.append_inj' h (by simp [Cod.leN_length])
  have p1 : (256 : Nat) ^ 6 = 281474976710656 := by decide
  have p2 : (256 : Nat) ^ 2 = 65536 := by decide
  have p3 : (256 : Nat) ^ 1 = 256 := by decide
  have q1 := Cod.leN_inj (n := 6) (by omega) (by omega) h
  have q2 := Cod.leN_inj (n := 1) (by omega) (by omega) e5
  have q3 := Cod.leN_inj (n := 1) (by omega) (by omega) e4
  have q4 := Cod.leN_inj (n := 2) (by omega) (by omega) e3
  have q5 := Cod.leN_inj (n := 2) (by omega) (by omega) e2
  subst hk e1 q1 q2 q3 q4 q5
  rfl
end En
namespace Go.Proofs.Ytfcadbeamojdpaa
open Go.RowKit Go.Rv Frm
set_option linter.unusedVariables false
set_option maxRecDepth 100000 in
set_option maxHeartbeats 4000000 in
theorem en_unlike_core (A B XA XB : Array Value) (ka kb ea eb : Int) (r : Bool) (w : World)
    (hIA : (Try.prog.info? 55).map (·.size) = some A.size) (hIB : (Try.prog.info? 55).map (·.size) = some B.size)
    (hIX : (Try.prog.info? 22).map (·.size) = some XA.size) (hIY : (Try.prog.info? 22).map (·.size) = some XB.size)
    (h1X : XA.all (·.oneCell') = true) (h1Y : XB.all (·.oneCell') = true)
    (HA' : ∀ W, Calls Try.prog 28 #[.agg A] W fun x w' => x = .returned (.tuple #[.agg XA, .int .i64 ea]) ∧ Below W.heap.size W w')
    (HB' : ∀ W, Calls Try.prog 28 #[.agg B] W fun x w' => x = .returned (.tuple #[.agg XB, .int .i64 eb]) ∧ Below W.heap.size W w')
    (hKA : ∀ (W : World) (b : Nat), W.heap[b]? = some (.cells A 55 (0, 0)) → W.cell? ⟨b, 0, none⟩ = some (.int .i64 ka)) (hKB : ∀ (W : World) (b : Nat), W.heap[b]? = some (.cells B 55 (0, 0)) → W.cell? ⟨b, 0, none⟩ = some (.int .i64 kb))
    (hr : (ea != 0) = true ∨ ((ea != 0) = false ∧ (eb != 0) = true) ∨ ((ea != 0) = false ∧ (eb != 0) = false ∧ (ka != kb) = true) ∨ ((ea != 0) = false ∧ (eb != 0) = false ∧ (ka != kb) = false ∧ (∀ W, (Op.equalIn 10000 22 (.agg XA) (.agg XB)).run Try.prog W = .ok r W) ∧ (∀ W, (Op.equalIn 10000 55 (.agg A) (.agg B)).run Try.prog W = .ok r W))) :
    Calls Try.prog 9 #[.agg A, .agg B] w fun e w' => e = .returned (.bool true) ∧ Below w.heap.size w w' := by
  have hzB := (zero_of_info Try.infoBody).1
  have HIA := Lib.hid hIA
  have HIB := Lib.hid hIB
  have HIX := Lib.hid hIX
  have HIY := Lib.hid hIY
  have H1X := Lib.hid h1X
  have H1Y := Lib.hid h1Y
  have HA := Lib.hid HA'
  have HB := Lib.hid HB'
  have HKA := Lib.hid hKA
  have HKB := Lib.hid hKB
  have HR := Lib.hid hr
  have HAN := Lib.hid (fun W => en_anchor W)
  have hz44 := (zero_of_info Try.infoBody).2
  have HZX : Hid ((byteCells (List.replicate 44 0)).size = XA.size) := Lib.hid (by rw [size_byteCells]; rw [hz44] at hIX; simpa using hIX)
  have HZY : Hid ((byteCells (List.replicate 44 0)).size = XB.size) := Lib.hid (by rw [size_byteCells]; rw [hz44] at hIY; simpa using hIY)
  clear hIA hIB hIX hIY h1X h1Y HA' HB' hKA hKB hr hz44
  generalize byteCells (List.replicate 44 0) = Z at *
  have hB0 := ((Below.refl w.heap.size w).alloc (Nat.le_refl _) (.cells A 55)).alloc (by simp) (.cells B 55)
  have hA0 := heap_alloc2_old w (.cells A 55) (.cells B 55)
  have hE0 := heap_alloc2_new w (.cells A 55) (.cells B 55)
  go_enter Try.func9, Try.ntmps9
  go_wp2_with fail
  refine (HAN.out _).mono ?_
  rintro x w1 ⟨rfl, hB1⟩
  have z1 := hB1.size
  simp only [World.size_alloc] at z1
  have hA1 := (hB1.block w.heap.size (by simp; omega)).trans hA0
  have hE1 := (hB1.block (w.heap.size + 1) (by simp)).trans hE0
  have hBB1 := hB0.trans (hB1.mono (by simp; omega))
  clear hA0 hE0 hB0 hB1
  go_wp2_with (refine wpList_load_row rfl 55 _ rfl w.heap.size rfl 55 _ _ _ hA1 Try.underlying55 rfl HIA.out ?_)
  refine (HA.out _).mono ?_
  rintro x w2 ⟨rfl, hB2⟩
  have z2 := hB2.size
  have hA2 := (hB2.block w.heap.size (by omega)).trans hA1
  have hE2 := (hB2.block (w.heap.size + 1) (by omega)).trans hE1
  have hBB2 := hBB1.trans (hB2.mono (by omega))
  have hba := (Below.refl w2.heap.size w2).alloc (Nat.le_refl _) (.cells XA 22)
  have hX3 := heap_alloc_new w2 (.cells XA 22)
  have z3 : (w2.alloc (.cells XA 22)).heap.size = w2.heap.size + 1 := by simp
  obtain ⟨W3, hW3⟩ : ∃ W3, w2.alloc (.cells XA 22) = W3 := ⟨_, rfl⟩
  rw [hW3] at hba hX3 z3
  have hA3 := (hba.block w.heap.size (by omega)).trans hA2
  have hE3 := (hba.block (w.heap.size + 1) (by omega)).trans hE2
  have hBB3 := hBB2.trans (hba.mono (by omega))
  have HW3 := Lib.hid hW3
  clear hA1 hE1 hBB1 hB2 hA2 hE2 hBB2 hba hW3
  go_wp2_with (first | (refine wpList_store_row rfl 22 _ _ rfl w2.heap.size XA rfl rfl 22 Z (heap_alloc_new w2 _) HIX.out HZX.out H1X.out ?_; rw [World.setRow_alloc_new, HW3.out]) | (refine wpList_load_row rfl 55 _ rfl (w.heap.size + 1) rfl 55 _ _ _ hE3 Try.underlying55 rfl HIB.out ?_))
  refine (HB.out _).mono ?_
  rintro x w4 ⟨rfl, hB4⟩
  have z4 := hB4.size
  have hA4 := (hB4.block w.heap.size (by omega)).trans hA3
  have hE4 := (hB4.block (w.heap.size + 1) (by omega)).trans hE3
  have hX4 := (hB4.block w2.heap.size (by omega)).trans hX3
  have hBB4 := hBB3.trans (hB4.mono (by omega))
  have hba := (Below.refl w4.heap.size w4).alloc (Nat.le_refl _) (.cells XB 22)
  have hY5 := heap_alloc_new w4 (.cells XB 22)
  have z5 : (w4.alloc (.cells XB 22)).heap.size = w4.heap.size + 1 := by simp
  obtain ⟨W5, hW5⟩ : ∃ W5, w4.alloc (.cells XB 22) = W5 := ⟨_, rfl⟩
  rw [hW5] at hba hY5 z5
  have hA5 := (hba.block w.heap.size (by omega)).trans hA4
  have hE5 := (hba.block (w.heap.size + 1) (by omega)).trans hE4
  have hX5 := (hba.block w2.heap.size (by omega)).trans hX4
  have hBB5 := hBB4.trans (hba.mono (by omega))
  have HW5 := Lib.hid hW5
  have n1 : w.heap.size < W5.heap.size := by omega
  have n2 : w.heap.size + 1 < W5.heap.size := by omega
  have n3 : w2.heap.size < W5.heap.size := by omega
  have n4 : w4.heap.size < W5.heap.size := by omega
  have HA5 := Lib.hid hA5
  have HE5 := Lib.hid hE5
  have HX5 := Lib.hid hX5
  have HY5 := Lib.hid hY5
  have k1 := Lib.hid (HKA.out _ _ hA5)
  have k2 := Lib.hid (HKB.out _ _ hE5)
  clear hA3 hE3 hX3 hBB3 hB4 hA4 hE4 hX4 hBB4 hba hW5 hA5 hE5 hX5 hY5 z3 z5
  go_upto_region 5 with (first | (refine wpList_store_row rfl 22 _ _ rfl w4.heap.size XB rfl rfl 22 Z (heap_alloc_new w4 _) HIY.out HZY.out H1Y.out ?_; rw [World.setRow_alloc_new, HW5.out]))
  have c1 := k1.out
  have c2 := k2.out
  rcases HR.out with t1 | ⟨t1, t2⟩ | ⟨t1, t2, t3⟩ | ⟨t1, t2, t3, he1, he2⟩
  · go_wp2
    go_ret
    exact ⟨rfl, hBB5⟩
  · go_wp2
    go_ret
    exact ⟨rfl, hBB5⟩
  · go_wp2
    go_ret
    exact ⟨rfl, hBB5⟩
  · have HE1 := Lib.hid he1
    have HE2 := Lib.hid he2
    clear HR he1 he2
    go_wp2_with fail
    clear t1 t2 t3 c1 c2
    refine wp_region_conf2 7 [Fact.eq ?rax0, Fact.eq ?rax1, Fact.eq ?rax2, Fact.eq ?rax3, Fact.eq ?rax4, Fact.eq ?rax5, Fact.eq ?rax6] ?raA (by kernel_rfl) (by kernel_rfl) ?rahA ?raho ?rahend
    case rahA =>
      intro vv
      simp only [putRules, Nat.reduceAdd]
      rfl
    case raho =>
      refine ⟨?_, ?_, ?_, ?_, ?_, ?_, ?_, trivial⟩
      · intro vv W K hB hd HK
        simp only [confRules] at HK
        clear hd
        have hT := (hB.block w2.heap.size n3).trans HX5.out
        go_wp2_with (refine wpList_load_row rfl 22 _ rfl w2.heap.size rfl 22 _ _ _ hT Try.underlying22 rfl HIX.out ?_)
        refine HK.out _ _ (Below.refl _ _) ?_
        rfl
      · intro vv W K hB hd HK
        simp only [confRules] at HK
        clear hd
        have hT := (hB.block w4.heap.size n4).trans HY5.out
        go_wp2_with (refine wpList_load_row rfl 22 _ rfl w4.heap.size rfl 22 _ _ _ hT Try.underlying22 rfl HIY.out ?_)
        refine HK.out _ _ (Below.refl _ _) ?_
        rfl
      · intro vv W K hB hd HK
        simp only [confRules] at hd HK
        obtain ⟨h0, h1⟩ := hd
        simp only [h0, h1] at HK ⊢
        clear h0 h1
        go_wp2_with (refine wpList_eql_asked (by rfl) 22 22 _ _ rfl XA XB rfl rfl (by kernel_rfl) r HE1.out ?_)
        refine HK.out _ _ (Below.refl _ _) ?_
        rfl
      · intro vv W K hB hd HK
        simp only [confRules] at HK
        clear hd
        have hT := (hB.block w.heap.size n1).trans HA5.out
        go_wp2_with (refine wpList_load_row rfl 55 _ rfl w.heap.size rfl 55 _ _ _ hT Try.underlying55 rfl HIA.out ?_)
        refine HK.out _ _ (Below.refl _ _) ?_
        rfl
      · intro vv W K hB hd HK
        simp only [confRules] at HK
        clear hd
        have hT := (hB.block (w.heap.size + 1) n2).trans HE5.out
        go_wp2_with (refine wpList_load_row rfl 55 _ rfl (w.heap.size + 1) rfl 55 _ _ _ hT Try.underlying55 rfl HIB.out ?_)
        refine HK.out _ _ (Below.refl _ _) ?_
        rfl
      · intro vv W K hB hd HK
        simp only [confRules] at hd HK
        obtain ⟨h3, h4⟩ := hd
        simp only [h3, h4] at HK ⊢
        clear h3 h4
        go_wp2_with (refine wpList_eql_asked (by rfl) 55 55 _ _ rfl A B rfl rfl (by kernel_rfl) r HE2.out ?_)
        refine HK.out _ _ (Below.refl _ _) ?_
        rfl
      · intro vv W K hB hd HK
        simp only [confRules] at hd HK
        obtain ⟨h2, h5⟩ := hd
        simp only [h2, h5] at HK ⊢
        clear h2 h5
        go_wp2
        refine HK.out _ _ (Below.refl _ _) ?_
        rfl
    case rahend =>
      intro vv W hB hf
      have e6 := hf 6 (by decide)
      simp only [endRules] at e6
      simp only [e6, dropRules]
      clear hf e6
      go_wp2
      go_ret
      exact ⟨rfl, hBB5.trans (hB.mono hBB5.size)⟩
theorem en_unlike_walk (a b : En.E) (w : World) (ha : EBody a) (hb : EBody b) (na : Num38 a) (nb : Num38 b) :
    Calls Try.prog 9 #[.agg (EC a), .agg (EC b)] w fun e w' => e = .returned (.bool true) ∧ Below w.heap.size w w' := by
  have hl : ∀ e : En.E, EBody e → (if En.right e = true then En.body e else List.replicate 44 0).length = 44 := by
    intro e he
    split
    · exact En.body_length he.1
    · simp
  have hc : ∀ e : En.E, EBody e → ∀ c ∈ (if En.right e = true then En.body e else List.replicate 44 0), c < 256 := by
    intro e he
    split
    · exact En.body_bytes he.2
    · simp
  refine en_unlike_core (EC a) (EC b) _ _ a.kind b.kind _ _ (decide (En.body a = En.body b)) w (size_ent ha.1) (size_ent hb.1) (size_body (hl a ha)) (size_body (hl b hb)) (one_byteCells _) (one_byteCells _) (fun W => ebody_any a W ha) (fun W => ebody_any b W hb) (fun W g h => (ent_cells h).1) (fun W g h => (ent_cells h).1) ?_
  cases hra : En.right a
  · exact .inl (by simp)
  · cases hrb : En.right b
    · exact .inr (.inl ⟨by simp, by simp⟩)
    · by_cases hk : a.kind = b.kind
      · refine .inr (.inr (.inr ⟨by simp, by simp, by simp [hk], ?_, ?_⟩))
        · intro W
          simp only [if_true]
          exact eq_body _ _ (En.body_length ha.1) (En.body_length hb.1) (En.body_bytes ha.2) (En.body_bytes hb.2) _ (by simp) W
        · intro W
          exact eq_ent a b ha hb na nb _ (by rw [decide_eq_true_eq]; exact ⟨En.body_inj hra hrb ha.1 hb.1 hk, fun h => by rw [h]⟩) W
      · exact .inr (.inr (.inl ⟨by simp, by simp, by simp [hk]⟩))
end Go.Proofs.Ytfcadbeamojdpaa
