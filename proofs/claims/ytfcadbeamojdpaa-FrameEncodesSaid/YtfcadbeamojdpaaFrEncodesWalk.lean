/- Proved here: the walk of the law on what frames have sectors. -/
import Derived.Test.YtfcadbeamojdpaaRfBytes
import Derived.Test.YtfcadbeamojdpaaFrUnlikeWalk
import Derived.Test.YtfcadbeamojdpaaAt
import Derived.Test.YtfcadbeamojdpaaConf2
import Derived.Test.YtfcadbeamojdpaaAsked
namespace Go.Proofs.Ytfcadbeamojdpaa
open Go.RowKit Go.Rv Frm
set_option linter.unusedVariables false
theorem wpList_guard_on {P : Program} {ops : Array Oper} {rest : List Oper} {Q : Exit → Act → World → Prop} {dst : Option Tmp} {op : Op} {type : TypeId} {pos : String} {after : Array Edge} {g : Nat} {b : Bool} {a : Act} {w : World}
    (hy : yielded ops a.tmps g = some b) (h : wpList P ops Q (⟨dst, op, type, pos, after, none⟩ :: rest) a w) : wpList P ops Q (⟨dst, op, type, pos, after, some (g, b)⟩ :: rest) a w := by
  have hw : Region.wanted (⟨dst, op, type, pos, after, some (g, b)⟩ : Oper) (yielded ops a.tmps) = true := by simp [Region.wanted, hy]
  have hn : Region.wanted (⟨dst, op, type, pos, after, none⟩ : Oper) (yielded ops a.tmps) = true := rfl
  simp only [wpList, hn, if_true] at h
  simp only [wpList, hw, if_true]
  exact h
theorem wpList_neq_asked {P : Program} {ops : Array Oper} {rest : List Oper} {o : Oper} {a : Act} {w : World} {Q : Exit → Act → World → Prop} (hgd : Region.wanted o (yielded ops a.tmps) = true) (ty ty2 : TypeId) (x y : Operand) (ho : o.op = .binOp .neq ty x y ty2)
    (xs ys : Array Value) (hx : a.eval x = .agg xs) (hy : a.eval y = .agg ys) (hm : P.eqGuardType P.depth ty = false) (r : Bool) (hr : ∀ w, (Op.equalIn 10000 ty (.agg xs) (.agg ys)).run P w = .ok r w)
    (h : wpList P ops Q rest (a.put o.dst (.bool (!r))) w) : wpList P ops Q (o :: rest) a w := by
  unfold wpList
  rw [if_pos hgd]
  refine .inl ?_
  unfold Oper.wp execOp
  have h1 := run_eqGuard_agg (P := P) w .neq ty x y xs ys hm
  have h2 := run_neq_struct (P := P) w ty xs ys
  rw [hr w] at h2
  simp only [ho, hx, hy, Sem.run_bind, Sem.run_pure, h1, h2, Result.andThen_ok]
  exact h
set_option maxRecDepth 100000 in
set_option maxHeartbeats 2000000 in
theorem fr_encodes_core (A SA XZ : Array Value) (ea m : Int) (rt : Bool) (fz fo zone off : Int) (w : World)
    (hIA : (Try.prog.info? 24).map (·.size) = some A.size) (hIR : (Try.prog.info? 40).map (·.size) = some A.size)
    (hIS : (Try.prog.info? 31).map (·.size) = some SA.size)
    (h1A : A.all (·.oneCell') = true) (h1S : SA.all (·.oneCell') = true)
    (HEA : ∀ W, Calls Try.prog 17 #[.agg Tb.tabV, .agg A] W fun e w' => e = .returned (.tuple #[.agg SA, .int .i64 ea]) ∧ Below W.heap.size W w')
    (HRT : ∀ W, Calls Try.prog 23 #[.agg A] W fun e w' => e = .returned (.bool rt) ∧ Below W.heap.size W w')
    (HRR : ∀ W, Calls Try.prog 24 #[.agg A] W fun e w' => e = .returned (.bool rt) ∧ Below W.heap.size W w')
    (hye : rt = true → ea = 0 ∧ ∀ W, Calls Try.prog 18 #[.agg Tb.tabV, .agg SA] W fun e w' => e = .returned (.tuple #[.agg A, .int .i64 0]) ∧ Below W.heap.size W w')
    (hC : ∀ (W : World) (g : Nat), W.heap[g]? = some (.cells A 24 (0, 0)) → W.cell? ⟨g, 1, none⟩ = some (.int .i64 fz) ∧ W.cell? ⟨g, 2, none⟩ = some (.int .i64 fo))
    (hIZ : (Try.prog.info? 24).map (·.size) = some XZ.size) (h1Z : XZ.all (·.oneCell') = true)
    (hat1 : rt = true → ∀ W, Calls Try.prog 25 #[.agg Tb.tabV, .agg SA, .int .i64 fz, .int .i64 fo] W fun e w' => e = .returned (.tuple #[.agg A, .int .i64 0]) ∧ Below W.heap.size W w')
    (hat2 : rt = true → ∀ W, Calls Try.prog 25 #[.agg Tb.tabV, .agg SA, .int .i64 zone, .int .i64 off] W fun e w' => e = .returned (.tuple #[.agg XZ, .int .i64 m]) ∧ Below W.heap.size W w')
    (hown : rt = true → ((zone = fz ∧ off = fo ∧ XZ = A ∧ m = 0) ∨ ((zone ≠ fz ∨ (zone = fz ∧ off ≠ fo)) ∧ XZ = FC Fr.zero ∧ m = 12)))
    (hby : rt = true → ∀ W, Calls Try.prog 26 #[.agg A] W fun e w' => e = .returned (.agg SA) ∧ Below W.heap.size W w')
    (hqA : ∀ W, (Op.equalIn 10000 24 (.agg A) (.agg A)).run Try.prog W = .ok true W)
    (hqZ : ∀ W, (Op.equalIn 10000 24 (.agg (FC Fr.zero)) (.agg (FC Fr.zero))).run Try.prog W = .ok true W)
    (hqS : ∀ W, (Op.equalIn 10000 30 (.agg SA) (.agg SA)).run Try.prog W = .ok true W)
    (hno : rt = false → ea = 10 ∧ ∀ W, (Op.equalIn 10000 31 (.agg SA) (.agg (byteCells (List.replicate 64 0)))).run Try.prog W = .ok true W) :
    Calls Try.prog 7 #[.agg A, .int .i64 zone, .int .i64 off] w fun e w' => e = .returned (.bool true) ∧ Below w.heap.size w w' := by
  have hzT := (zero_of_info Try.infoTab).1
  have hzS := (zero_of_info Try.infoSector).1
  have hzR := (zero_of_info Try.infoRf).1
  have hzF := (zero_of_info Try.infoFrame).1
  have HIT := Lib.hid size_tab
  have HST := Lib.hid (show Tb.zero.size = Tb.tabV.size by rw [Tb.size_zero, Tb.size_tabV])
  have H1T := Lib.hid Tb.one_tabV
  have HN := Lib.hid (fun W => new_any W)
  have hZ0 := (zero_of_info Try.infoSector).2
  have HZA := Lib.hid (show (byteCells (List.replicate 64 0)).size = SA.size by rw [size_byteCells]; rw [hZ0] at hIS; simpa using hIS)
  have HIA := Lib.hid hIA
  have HIR := Lib.hid hIR
  have HIS := Lib.hid hIS
  have HEA := Lib.hid HEA
  have HRT := Lib.hid HRT
  have HRR := Lib.hid HRR
  have H1A := Lib.hid h1A
  have H1S := Lib.hid h1S
  have hz49' := (zero_of_info Try.infoFrame).2
  have HZZ : Hid ((FC Fr.zero).size = XZ.size) := Lib.hid (by rw [FC_size]; rw [hz49'] at hIZ; simpa [Fr.zero] using hIZ)
  clear hz49'
  have hz49 := (zero_of_info Try.infoFrame).2
  have HZX : Hid ((FC Fr.zero).size = A.size) := Lib.hid (by rw [FC_size]; rw [hz49] at hIA; simpa [Fr.zero] using hIA)
  have HNO := Lib.hid hno
  have HOWN := Lib.hid hown
  have HBY := Lib.hid hby
  have HQA := Lib.hid hqA
  have HQZ := Lib.hid hqZ
  have HQS := Lib.hid hqS
  clear hown hby hqA hqZ hqS
  have HAT1 := Lib.hid hat1
  have HAT2 := Lib.hid hat2
  have HIZ := Lib.hid hIZ
  have H1Z := Lib.hid h1Z
  clear hat1 hat2 hIZ h1Z
  have HCC := Lib.hid hC
  clear hC
  have HYE := Lib.hid hye
  clear hno hye
  clear hIA hIS hIR h1A h1S hZ0 hz49
  generalize FC Fr.zero = ZF at *
  generalize byteCells (List.replicate 64 0) = ZS at *
  generalize Tb.tabV = TV at *
  generalize Tb.zero = TZ at *
  have hB0 := (Below.refl w.heap.size w).alloc (Nat.le_refl _) (.cells A 24)
  have hA0 := heap_alloc_new w (.cells A 24)
  have s0 : (w.alloc (.cells A 24)).heap.size = w.heap.size + 1 := by simp
  go_enter Try.func7, Try.ntmps7
  go_wp2_with (first | (go_at_call 15; refine (fr_anchor _).mono ?_; rintro e w1 ⟨rfl, hB1⟩))
  have hA1 := (hB1.block w.heap.size (by rw [s0]; omega)).trans hA0
  have hB1' := hB0.trans (hB1.mono hB0.size)
  have z1 := hB1.size
  rw [s0] at z1
  go_wp2_with fail
  refine (HN.out _).mono ?_
  rintro e w2 ⟨rfl, hB2⟩
  have hA2 := (hB2.block w.heap.size (by omega)).trans hA1
  have hB2' := hB1'.trans (hB2.mono hB1'.size)
  have z2 := hB2.size
  obtain ⟨W2, hW2⟩ : ∃ W2, w2.alloc (.cells TV 28) = W2 := ⟨_, rfl⟩
  have HW2 := Lib.hid hW2
  have hb2 : Below w2.heap.size w2 W2 := by rw [← hW2]; exact (Below.refl w2.heap.size w2).alloc (Nat.le_refl _) _
  have hT2 : W2.heap[w2.heap.size]? = some (.cells TV 28 (0, 0)) := by rw [← hW2]; exact heap_alloc_new w2 _
  have z2' : w2.heap.size < W2.heap.size := by rw [← hW2]; simp
  clear hW2
  have hA2' := (hb2.block w.heap.size (by omega)).trans hA2
  have hB2'' := hB2'.trans (hb2.mono (by omega))
  obtain ⟨W3, hW3⟩ : ∃ W3, W2.alloc (.cells A 40) = W3 := ⟨_, rfl⟩
  have HW3 := Lib.hid hW3
  have hb3 : Below W2.heap.size W2 W3 := by rw [← hW3]; exact (Below.refl W2.heap.size W2).alloc (Nat.le_refl _) _
  have hX3 : W3.heap[W2.heap.size]? = some (.cells A 40 (0, 0)) := by rw [← hW3]; exact heap_alloc_new W2 _
  have z3' : W2.heap.size < W3.heap.size := by rw [← hW3]; simp
  clear hW3
  have hA3 := (hb3.block w.heap.size (by omega)).trans hA2'
  have hT3 := (hb3.block w2.heap.size (by omega)).trans hT2
  have hB3 := hB2''.trans (hb3.mono (by omega))
  clear hB0 hA0 s0 hB1 hB1' hB2 hB2'
  go_wp2_with (first
    | (refine wpList_store_row rfl 28 _ _ rfl w2.heap.size TV rfl rfl 28 TZ (heap_alloc_new w2 _) HIT.out HST.out H1T.out ?_; rw [World.setRow_alloc_new, HW2.out])
    | (refine wpList_load_row rfl 24 _ rfl w.heap.size rfl 24 _ _ _ hA2' Try.underlying24 rfl HIA.out ?_)
    | (refine wpList_store_row rfl 40 _ _ rfl W2.heap.size A rfl rfl 40 ZF (heap_alloc_new W2 _) HIR.out HZX.out H1A.out ?_; rw [World.setRow_alloc_new, HW3.out])
    | (refine wpList_load_row rfl 28 _ rfl w2.heap.size rfl 28 _ _ _ hT3 Try.underlying28 rfl HIT.out ?_)
    | (refine wpList_load_row rfl 24 _ rfl w.heap.size rfl 24 _ _ _ hA3 Try.underlying24 rfl HIA.out ?_))
  refine (HEA.out _).mono ?_
  rintro e w4 ⟨rfl, hB4⟩
  have hA4 := (hB4.block w.heap.size (by omega)).trans hA3
  have hX4 := (hB4.block W2.heap.size (by omega)).trans hX3
  have hT4 := (hB4.block w2.heap.size (by omega)).trans hT3
  have hB4' := hB3.trans (hB4.mono (by omega))
  have z4 := hB4.size
  obtain ⟨W4, hW4⟩ : ∃ W4, w4.alloc (.cells SA 31) = W4 := ⟨_, rfl⟩
  have HW4 := Lib.hid hW4
  have hb4 : Below w4.heap.size w4 W4 := by rw [← hW4]; exact (Below.refl w4.heap.size w4).alloc (Nat.le_refl _) _
  have hS5 : W4.heap[w4.heap.size]? = some (.cells SA 31 (0, 0)) := by rw [← hW4]; exact heap_alloc_new w4 _
  have z4' : w4.heap.size < W4.heap.size := by rw [← hW4]; simp
  clear hW4
  have hA5 := (hb4.block w.heap.size (by omega)).trans hA4
  have hX5 := (hb4.block W2.heap.size (by omega)).trans hX4
  have hT5 := (hb4.block w2.heap.size (by omega)).trans hT4
  have hB5 := hB4'.trans (hb4.mono (by omega))
  clear hA1 hA2 hA2' hA3 hA4 hT2 hT3 hT4 hX3 hX4 hB2'' hB3 hB4 hB4' hb2 hb3 hb4
  go_wp2_with (first
    | (refine wpList_store_row rfl 31 _ _ rfl w4.heap.size SA rfl rfl 31 ZS (heap_alloc_new w4 _) HIS.out HZA.out H1S.out ?_; rw [World.setRow_alloc_new, HW4.out])
    | (refine wpList_load_row rfl 24 _ rfl w.heap.size rfl 24 _ _ _ hA5 Try.underlying24 rfl HIA.out ?_))
  have n1 : w.heap.size < W4.heap.size := by omega
  have n2 : W2.heap.size < W4.heap.size := by omega
  have n3 : w2.heap.size < W4.heap.size := by omega
  have HA5 := Lib.hid hA5
  have HX5 := Lib.hid hX5
  have HT5 := Lib.hid hT5
  have HS5 := Lib.hid hS5
  clear hA5 hX5 hT5 hS5 z1 z2 z2' z3' z4
  refine wp_region_conf2 4 [Fact.eq ?rax0, Fact.eq ?rax1, Fact.eq ?rax2, Fact.eq ?rax3] ?raA (by kernel_rfl) (by kernel_rfl) ?rahA ?raho ?rahend
  case rahA =>
    intro vv
    simp only [putRules, Nat.reduceAdd]
    rfl
  case raho =>
    refine ⟨?_, ?_, ?_, ?_, trivial⟩
    · intro vv W K hB hd HK
      simp only [confRules] at HK
      clear hd
      have hT := (hB.block w.heap.size n1).trans HA5.out
      go_wp2_with (refine wpList_load_row rfl 24 _ rfl w.heap.size rfl 24 _ _ _ hT Try.underlying24 rfl HIA.out ?_)
      refine HK.out _ _ (Below.refl _ _) ?_
      rfl
    · intro vv W K hB hd HK
      simp only [confRules] at hd HK
      have h0 := hd
      clear hd
      simp only [h0] at HK ⊢
      clear h0
      go_wp2_with (refine (HRT.out _).mono ?_; rintro e w9 ⟨rfl, hB9⟩)
      refine HK.out _ _ hB9 ?_
      rfl
    · intro vv W K hB hd HK
      simp only [confRules] at HK
      clear hd
      have hT := (hB.block W2.heap.size n2).trans HX5.out
      go_wp2_with (refine wpList_load_row rfl 40 _ rfl W2.heap.size rfl 40 _ _ _ hT Try.underlying40 rfl HIR.out ?_)
      refine HK.out _ _ (Below.refl _ _) ?_
      rfl
    · intro vv W K hB hd HK
      simp only [confRules] at hd HK
      obtain ⟨h2, h1⟩ := hd
      simp only [h2, h1] at HK ⊢
      clear h2 h1
      go_wp2_with (refine (HRR.out _).mono ?_; rintro e w9 ⟨rfl, hB9⟩)
      refine HK.out _ _ hB9 ?_
      rfl
  case rahend =>
    intro vv W hB hf
    have e1 := hf 1 (by decide)
    have e3 := hf 3 (by decide)
    simp only [endRules] at e1 e3
    simp only [e1, e3, dropRules]
    clear hf e1 e3
    have hBB := hB5.trans (hB.mono (by omega))
    have hA6 := (hB.block w.heap.size n1).trans HA5.out
    have hX6 := (hB.block W2.heap.size n2).trans HX5.out
    have hT6 := (hB.block w2.heap.size n3).trans HT5.out
    have n4 : w4.heap.size < W4.heap.size := z4'
    have hS6 := (hB.block w4.heap.size n4).trans HS5.out
    have z6 := hB.size
    clear hB5 hB
    cases rt
    · go_wp2_with (first | (refine wpList_load_row rfl 40 _ rfl W2.heap.size rfl 40 _ _ _ hX6 Try.underlying40 rfl HIR.out ?_))
      refine (HRR.out _).mono ?_
      rintro e w6 ⟨rfl, hB6⟩
      obtain ⟨rfl, he⟩ := HNO.out (by trivial)
      have HE := Lib.hid he
      have hS7 := (hB6.block w4.heap.size (by omega)).trans hS6
      have hBE := hBB.trans (hB6.mono (by omega))
      clear he HNO
      go_wp2_with (first | (refine wpList_guard_on (by rfl) ?_; refine wpList_load_row rfl 31 _ rfl w4.heap.size rfl 31 _ _ _ hS7 Try.underlying31 rfl HIS.out ?_) | (refine wpList_guard_on (by rfl) ?_; refine wpList_eql_asked (by rfl) 31 31 _ _ rfl SA ZS rfl rfl (by kernel_rfl) true HE.out ?_))
      go_ret
      exact ⟨rfl, hBE⟩
    · go_wp2_with (first | (refine wpList_load_row rfl 40 _ rfl W2.heap.size rfl 40 _ _ _ hX6 Try.underlying40 rfl HIR.out ?_))
      refine (HRR.out _).mono ?_
      rintro e w6 ⟨rfl, hB6⟩
      have hA7 := (hB6.block w.heap.size (by omega)).trans hA6
      have hT7 := (hB6.block w2.heap.size (by omega)).trans hT6
      have hX7 := (hB6.block W2.heap.size (by omega)).trans hX6
      have hS7 := (hB6.block w4.heap.size (by omega)).trans hS6
      have hBE := hBB.trans (hB6.mono (by omega))
      have z7 := hB6.size
      clear HNO hA6 hT6 hX6 hS6 hBB hB6
      go_wp2_with (first | (refine wpList_load_row rfl 28 _ rfl w2.heap.size rfl 28 _ _ _ hT7 Try.underlying28 rfl HIT.out ?_) | (refine wpList_load_row rfl 31 _ rfl w4.heap.size rfl 31 _ _ _ hS7 Try.underlying31 rfl HIS.out ?_))
      obtain ⟨rfl, hde⟩ := HYE.out (by trivial)
      have HDE := Lib.hid hde
      clear hde HYE
      refine (HDE.out _).mono ?_
      rintro e w8 ⟨rfl, hB8⟩
      have hA8 := (hB8.block w.heap.size (by omega)).trans hA7
      have hT8 := (hB8.block w2.heap.size (by omega)).trans hT7
      have hX8 := (hB8.block W2.heap.size (by omega)).trans hX7
      have hS8 := (hB8.block w4.heap.size (by omega)).trans hS7
      have hBF := hBE.trans (hB8.mono (by omega))
      have z8 := hB8.size
      clear hA7 hT7 hX7 hS7 hBE hB8
      obtain ⟨W8, hW8⟩ : ∃ W8, w8.alloc (.cells A 24) = W8 := ⟨_, rfl⟩
      have HW8 := Lib.hid hW8
      have hb8 : Below w8.heap.size w8 W8 := by rw [← hW8]; exact (Below.refl w8.heap.size w8).alloc (Nat.le_refl _) _
      have hG9 : W8.heap[w8.heap.size]? = some (.cells A 24 (0, 0)) := by rw [← hW8]; exact heap_alloc_new w8 _
      clear hW8
      have hA9 := (hb8.block w.heap.size (by omega)).trans hA8
      have hT9 := (hb8.block w2.heap.size (by omega)).trans hT8
      have hS9 := (hb8.block w4.heap.size (by omega)).trans hS8
      obtain ⟨c1, c2⟩ := HCC.out _ _ hA9
      go_wp2_with (first | (refine wpList_store_row rfl 24 _ _ rfl w8.heap.size A rfl rfl 24 ZF (heap_alloc_new w8 _) HIA.out HZX.out H1A.out ?_; rw [World.setRow_alloc_new, HW8.out]) | (refine wpList_load_row rfl 28 _ rfl w2.heap.size rfl 28 _ _ _ hT9 Try.underlying28 rfl HIT.out ?_) | (refine wpList_load_row rfl 31 _ rfl w4.heap.size rfl 31 _ _ _ hS9 Try.underlying31 rfl HIS.out ?_))
      have hX9 := (hb8.block W2.heap.size (by omega)).trans hX8
      have hB9 := hBF.trans (hb8.mono (by omega))
      have z9 := hb8.size
      have z9' : w8.heap.size < W8.heap.size := (Array.getElem?_eq_some_iff.1 hG9).1
      clear hA8 hT8 hX8 hS8 hBF hb8 c1 c2
      refine (HAT1.out (by trivial) _).mono ?_
      rintro e wa ⟨rfl, hBa⟩
      have hAa := (hBa.block w.heap.size (by omega)).trans hA9
      have hTa := (hBa.block w2.heap.size (by omega)).trans hT9
      have hXa := (hBa.block W2.heap.size (by omega)).trans hX9
      have hSa := (hBa.block w4.heap.size (by omega)).trans hS9
      have hGa := (hBa.block w8.heap.size (by omega)).trans hG9
      have hBBa := hB9.trans (hBa.mono (by omega))
      have za := hBa.size
      obtain ⟨WA, hWA⟩ : ∃ WA, wa.alloc (.cells A 24) = WA := ⟨_, rfl⟩
      have HWA := Lib.hid hWA
      have hba : Below wa.heap.size wa WA := by rw [← hWA]; exact (Below.refl wa.heap.size wa).alloc (Nat.le_refl _) _
      have hY : WA.heap[wa.heap.size]? = some (.cells A 24 (0, 0)) := by rw [← hWA]; exact heap_alloc_new wa _
      clear hWA hBa
      have zA := hba.size
      have zA' : wa.heap.size < WA.heap.size := (Array.getElem?_eq_some_iff.1 hY).1
      have hAA := (hba.block w.heap.size (by omega)).trans hAa
      have hTA := (hba.block w2.heap.size (by omega)).trans hTa
      have hXA := (hba.block W2.heap.size (by omega)).trans hXa
      have hSA := (hba.block w4.heap.size (by omega)).trans hSa
      have hGA := (hba.block w8.heap.size (by omega)).trans hGa
      have hBA := hBBa.trans (hba.mono (by omega))
      clear hAa hTa hXa hSa hGa hBBa hba hA9 hT9 hX9 hS9 hG9 hB9
      go_wp2_with (first | (refine wpList_store_row rfl 24 _ _ rfl wa.heap.size A rfl rfl 24 ZF (heap_alloc_new wa _) HIA.out HZX.out H1A.out ?_; rw [World.setRow_alloc_new, HWA.out]) | (refine wpList_load_row rfl 28 _ rfl w2.heap.size rfl 28 _ _ _ hTA Try.underlying28 rfl HIT.out ?_) | (refine wpList_load_row rfl 31 _ rfl w4.heap.size rfl 31 _ _ _ hSA Try.underlying31 rfl HIS.out ?_))
      refine (HAT2.out (by trivial) _).mono ?_
      rintro e wb ⟨rfl, hBb⟩
      obtain ⟨WB, hWB⟩ : ∃ WB, wb.alloc (.cells XZ 24) = WB := ⟨_, rfl⟩
      have HWB := Lib.hid hWB
      have hbb : Below wb.heap.size wb WB := by rw [← hWB]; exact (Below.refl wb.heap.size wb).alloc (Nat.le_refl _) _
      have hZ : WB.heap[wb.heap.size]? = some (.cells XZ 24 (0, 0)) := by rw [← hWB]; exact heap_alloc_new wb _
      clear hWB
      have zb := hBb.size
      have zB := hbb.size
      have zB' : wb.heap.size < WB.heap.size := (Array.getElem?_eq_some_iff.1 hZ).1
      have hbx : Below WA.heap.size WA WB := hBb.trans (hbb.mono (by omega))
      have hAB := (hbx.block w.heap.size (by omega)).trans hAA
      have hXB := (hbx.block W2.heap.size (by omega)).trans hXA
      have hSB := (hbx.block w4.heap.size (by omega)).trans hSA
      have hGB := (hbx.block w8.heap.size (by omega)).trans hGA
      have hYB := (hbx.block wa.heap.size (by omega)).trans hY
      have hBB2 := hBA.trans (hbx.mono (by omega))
      clear hAA hTA hXA hSA hGA hY hBA hbx hbb hBb
      have n5 : w.heap.size < WB.heap.size := by omega
      have n6 : W2.heap.size < WB.heap.size := by omega
      have n7 : w4.heap.size < WB.heap.size := by omega
      have n8 : w8.heap.size < WB.heap.size := by omega
      have n9 : wa.heap.size < WB.heap.size := by omega
      have GA := Lib.hid hAB
      have GX := Lib.hid hXB
      have GS := Lib.hid hSB
      have GG := Lib.hid hGB
      have GY := Lib.hid hYB
      obtain ⟨c1, c2⟩ := HCC.out _ _ hAB
      have hown := HOWN.out (by trivial)
      have HBY' := Lib.hid (HBY.out (by trivial))
      clear HOWN HBY
      rcases hown with ⟨rfl, rfl, rfl, rfl⟩ | ⟨hd, rfl, rfl⟩
      · have t1 : (zone == zone) = true := by simp
        have t2 : (off == off) = true := by simp
        go_wp2_with (first | (refine wpList_store_row rfl 24 _ _ rfl wb.heap.size XZ rfl rfl 24 ZF (heap_alloc_new wb _) HIZ.out HZZ.out H1Z.out ?_; rw [World.setRow_alloc_new, HWB.out]) | (refine wpList_load_row_asked (by rfl) 24 _ rfl wb.heap.size rfl 24 _ _ _ hZ Try.underlying24 rfl HIZ.out ?_) | (refine wpList_load_row_asked (by rfl) 24 _ rfl w.heap.size rfl 24 _ _ _ hAB Try.underlying24 rfl HIA.out ?_) | (refine wpList_neq_asked (by rfl) 24 24 _ _ rfl XZ XZ rfl rfl (by kernel_rfl) true HQA.out ?_))
        clear hAB hXB hSB hGB hYB c1 c2 hZ HIZ H1Z HZZ HAT1 HAT2 HEA HDE HRT HRR HN
        refine wp_region_conf2 26 [Fact.eq ?rbx0, Fact.eq ?rbx1, Fact.eq ?rbx2, Fact.eq ?rbx3, Fact.eq ?rbx4, Fact.eq ?rbx5, Fact.eq ?rbx6, Fact.eq ?rbx7, Fact.eq ?rbx8, Fact.eq ?rbx9, Fact.eq ?rbx10, Fact.eq ?rbx11, Fact.eq ?rbx12, Fact.eq ?rbx13, Fact.eq ?rbx14, Fact.eq ?rbx15, Fact.eq ?rbx16, Fact.eq ?rbx17, Fact.eq ?rbx18, Fact.eq ?rbx19, Fact.eq ?rbx20, Fact.eq ?rbx21, Fact.eq ?rbx22, Fact.eq ?rbx23, Fact.eq ?rbx24, Fact.eq ?rbx25] ?rbA (by kernel_rfl) (by kernel_rfl) ?rbhA ?rbho ?rbhend
        case rbhA =>
          intro vv
          simp only [putRules, Nat.reduceAdd]
          rfl
        case rbho =>
          refine ⟨?_, ?_, ?_, ?_, ?_, ?_, ?_, ?_, ?_, ?_, ?_, ?_, ?_, ?_, ?_, ?_, ?_, ?_, ?_, ?_, ?_, ?_, ?_, ?_, ?_, ?_, trivial⟩
          · intro vv W K hB hd HK
            simp only [confRules] at HK
            clear hd
            go_wp2
            refine HK.out _ _ (Below.refl _ _) ?_
            rfl
          · intro vv W K hB hd HK
            simp only [confRules] at hd HK
            have h0 := hd
            clear hd
            simp only [h0] at HK ⊢
            clear h0
            go_wp2
            refine HK.out _ _ (Below.refl _ _) ?_
            rfl
          · intro vv W K hB hd HK
            simp only [confRules] at hd HK
            have h1 := hd
            clear hd
            simp only [h1] at HK ⊢
            clear h1
            go_wp2
            refine HK.out _ _ (Below.refl _ _) ?_
            rfl
          · intro vv W K hB hd HK
            simp only [confRules] at hd HK
            have h2 := hd
            clear hd
            simp only [h2] at HK ⊢
            clear h2
            refine wpList_guard_yes (by rfl) ?_
            have hT := (hB.block w4.heap.size n7).trans GS.out
            go_wp2_with (refine wpList_load_row rfl 31 _ rfl w4.heap.size rfl 31 _ _ _ hT Try.underlying31 rfl HIS.out ?_)
            refine HK.out _ _ (Below.refl _ _) ?_
            rfl
          · intro vv W K hB hd HK
            simp only [confRules] at hd HK
            have h2 := hd
            clear hd
            simp only [h2] at HK ⊢
            clear h2
            refine wpList_guard_yes (by rfl) ?_
            have hT := (hB.block W2.heap.size n6).trans GX.out
            go_wp2_with (refine wpList_load_row rfl 40 _ rfl W2.heap.size rfl 40 _ _ _ hT Try.underlying40 rfl HIR.out ?_)
            refine HK.out _ _ (Below.refl _ _) ?_
            rfl
          · intro vv W K hB hd HK
            simp only [confRules] at hd HK
            obtain ⟨h4, h2, _⟩ := hd
            simp only [h4, h2] at HK ⊢
            clear h4 h2
            refine wpList_guard_yes (by rfl) ?_
            go_wp2_with (refine (HBY'.out _).mono ?_; rintro e w9 ⟨rfl, hB9⟩)
            refine HK.out _ _ hB9 ?_
            rfl
          · intro vv W K hB hd HK
            simp only [confRules] at hd HK
            obtain ⟨h3, h5, h2⟩ := hd
            simp only [h3, h5, h2] at HK ⊢
            clear h3 h5 h2
            refine wpList_guard_yes (by rfl) ?_
            go_wp2_with (refine wpList_eql_asked (by rfl) 30 30 _ _ rfl _ _ rfl rfl (by kernel_rfl) true HQS.out ?_)
            refine HK.out _ _ (Below.refl _ _) ?_
            rfl
          · intro vv W K hB hd HK
            simp only [confRules] at hd HK
            obtain ⟨h2, h6⟩ := hd
            simp only [h2, h6] at HK ⊢
            clear h2 h6
            go_wp2
            refine HK.out _ _ (Below.refl _ _) ?_
            rfl
          · intro vv W K hB hd HK
            simp only [confRules] at hd HK
            obtain ⟨h7, h5⟩ := hd
            simp only [h7, h5] at HK ⊢
            clear h7 h5
            go_wp2
            refine HK.out _ _ (Below.refl _ _) ?_
            rfl
          · intro vv W K hB hd HK
            simp only [confRules] at hd HK
            have h8 := hd
            clear hd
            simp only [h8] at HK ⊢
            clear h8
            refine wpList_guard_yes (by rfl) ?_
            have hT := (hB.block w8.heap.size n8).trans GG.out
            go_wp2_with (refine wpList_load_row rfl 24 _ rfl w8.heap.size rfl 24 _ _ _ hT Try.underlying24 rfl HIA.out ?_)
            refine HK.out _ _ (Below.refl _ _) ?_
            rfl
          · intro vv W K hB hd HK
            simp only [confRules] at hd HK
            have h8 := hd
            clear hd
            simp only [h8] at HK ⊢
            clear h8
            refine wpList_guard_yes (by rfl) ?_
            have hT := (hB.block w.heap.size n5).trans GA.out
            go_wp2_with (refine wpList_load_row rfl 24 _ rfl w.heap.size rfl 24 _ _ _ hT Try.underlying24 rfl HIA.out ?_)
            refine HK.out _ _ (Below.refl _ _) ?_
            rfl
          · intro vv W K hB hd HK
            simp only [confRules] at hd HK
            obtain ⟨h9, h10, h8⟩ := hd
            simp only [h9, h10, h8] at HK ⊢
            clear h9 h10 h8
            refine wpList_guard_yes (by rfl) ?_
            go_wp2_with (refine wpList_eql_asked (by rfl) 24 24 _ _ rfl _ _ rfl rfl (by kernel_rfl) true HQA.out ?_)
            refine HK.out _ _ (Below.refl _ _) ?_
            rfl
          · intro vv W K hB hd HK
            simp only [confRules] at hd HK
            obtain ⟨h8, h11⟩ := hd
            simp only [h8, h11] at HK ⊢
            clear h8 h11
            go_wp2
            refine HK.out _ _ (Below.refl _ _) ?_
            rfl
          · intro vv W K hB hd HK
            simp only [confRules] at hd HK
            obtain ⟨h12, h8⟩ := hd
            simp only [h12, h8] at HK ⊢
            clear h12 h8
            go_wp2
            refine HK.out _ _ (Below.refl _ _) ?_
            rfl
          · intro vv W K hB hd HK
            simp only [confRules] at hd HK
            have h13 := hd
            clear hd
            simp only [h13] at HK ⊢
            clear h13
            refine wpList_guard_yes (by rfl) ?_
            go_wp2
            refine HK.out _ _ (Below.refl _ _) ?_
            rfl
          · intro vv W K hB hd HK
            simp only [confRules] at hd HK
            obtain ⟨h14, h13⟩ := hd
            simp only [h14, h13] at HK ⊢
            clear h14 h13
            refine wpList_guard_yes (by rfl) ?_
            go_wp2
            refine HK.out _ _ (Below.refl _ _) ?_
            rfl
          · intro vv W K hB hd HK
            simp only [confRules] at hd HK
            obtain ⟨h13, h15⟩ := hd
            simp only [h13, h15] at HK ⊢
            clear h13 h15
            go_wp2
            refine HK.out _ _ (Below.refl _ _) ?_
            rfl
          · intro vv W K hB hd HK
            simp only [confRules] at hd HK
            obtain ⟨h16, h13⟩ := hd
            simp only [h16, h13] at HK ⊢
            clear h16 h13
            go_wp2
            refine HK.out _ _ (Below.refl _ _) ?_
            rfl
          · intro vv W K hB hd HK
            simp only [confRules] at hd HK
            have h17 := hd
            clear hd
            simp only [h17] at HK ⊢
            clear h17
            refine wpList_guard_yes (by rfl) ?_
            have hT := (hB.block wa.heap.size n9).trans GY.out
            go_wp2_with (refine wpList_load_row rfl 24 _ rfl wa.heap.size rfl 24 _ _ _ hT Try.underlying24 rfl HIA.out ?_)
            refine HK.out _ _ (Below.refl _ _) ?_
            rfl
          · intro vv W K hB hd HK
            simp only [confRules] at hd HK
            have h17 := hd
            clear hd
            simp only [h17] at HK ⊢
            clear h17
            refine wpList_guard_yes (by rfl) ?_
            have hT := (hB.block w.heap.size n5).trans GA.out
            go_wp2_with (refine wpList_load_row rfl 24 _ rfl w.heap.size rfl 24 _ _ _ hT Try.underlying24 rfl HIA.out ?_)
            refine HK.out _ _ (Below.refl _ _) ?_
            rfl
          · intro vv W K hB hd HK
            simp only [confRules] at hd HK
            obtain ⟨h18, h19, h17⟩ := hd
            simp only [h18, h19, h17] at HK ⊢
            clear h18 h19 h17
            refine wpList_guard_yes (by rfl) ?_
            go_wp2_with (refine wpList_eql_asked (by rfl) 24 24 _ _ rfl _ _ rfl rfl (by kernel_rfl) true HQA.out ?_)
            refine HK.out _ _ (Below.refl _ _) ?_
            rfl
          · intro vv W K hB hd HK
            simp only [confRules] at hd HK
            obtain ⟨h17, h20⟩ := hd
            simp only [h17, h20] at HK ⊢
            clear h17 h20
            go_wp2
            refine HK.out _ _ (Below.refl _ _) ?_
            rfl
          · intro vv W K hB hd HK
            simp only [confRules] at hd HK
            obtain ⟨h21, h17⟩ := hd
            simp only [h21, h17] at HK ⊢
            clear h21 h17
            go_wp2
            refine HK.out _ _ (Below.refl _ _) ?_
            rfl
          · intro vv W K hB hd HK
            simp only [confRules] at hd HK
            have h22 := hd
            clear hd
            simp only [h22] at HK ⊢
            clear h22
            refine wpList_guard_yes (by rfl) ?_
            go_wp2
            refine HK.out _ _ (Below.refl _ _) ?_
            rfl
          · intro vv W K hB hd HK
            simp only [confRules] at hd HK
            obtain ⟨h23, h22⟩ := hd
            simp only [h23, h22] at HK ⊢
            clear h23 h22
            refine wpList_guard_yes (by rfl) ?_
            go_wp2
            refine HK.out _ _ (Below.refl _ _) ?_
            rfl
          · intro vv W K hB hd HK
            simp only [confRules] at hd HK
            obtain ⟨h22, h24⟩ := hd
            simp only [h22, h24] at HK ⊢
            clear h22 h24
            go_wp2
            refine HK.out _ _ (Below.refl _ _) ?_
            rfl
        case rbhend =>
          intro vv W hB hf
          have e25 := hf 25 (by decide)
          simp only [endRules] at e25
          simp only [e25, dropRules]
          clear hf e25
          go_wp2
          go_ret
          exact ⟨rfl, hBB2.trans (hB.mono (by omega))⟩
      · rcases hd with hd | ⟨rfl, hd⟩
        · have t1 : (zone == fz) = false := by simpa using hd
          go_wp2_with (first | (refine wpList_store_row rfl 24 _ _ rfl wb.heap.size XZ rfl rfl 24 XZ (heap_alloc_new wb _) HIZ.out rfl H1Z.out ?_; rw [World.setRow_alloc_new, HWB.out]) | (refine wpList_load_row_asked (by rfl) 24 _ rfl wb.heap.size rfl 24 _ _ _ hZ Try.underlying24 rfl HIZ.out ?_) | (refine wpList_neq_asked (by rfl) 24 24 _ _ rfl XZ XZ rfl rfl (by kernel_rfl) true HQZ.out ?_))
          clear hAB hXB hSB hGB hYB c1 c2 hZ HIZ H1Z HZZ HAT1 HAT2 HEA HDE HRT HRR HN
          refine wp_region_conf2 26 [Fact.eq ?rcx0, Fact.eq ?rcx1, Fact.eq ?rcx2, Fact.eq ?rcx3, Fact.eq ?rcx4, Fact.eq ?rcx5, Fact.eq ?rcx6, Fact.eq ?rcx7, Fact.eq ?rcx8, Fact.eq ?rcx9, Fact.eq ?rcx10, Fact.eq ?rcx11, Fact.eq ?rcx12, Fact.eq ?rcx13, Fact.eq ?rcx14, Fact.eq ?rcx15, Fact.eq ?rcx16, Fact.eq ?rcx17, Fact.eq ?rcx18, Fact.eq ?rcx19, Fact.eq ?rcx20, Fact.eq ?rcx21, Fact.eq ?rcx22, Fact.eq ?rcx23, Fact.eq ?rcx24, Fact.eq ?rcx25] ?rcA (by kernel_rfl) (by kernel_rfl) ?rchA ?rcho ?rchend
          case rchA =>
            intro vv
            simp only [putRules, Nat.reduceAdd]
            rfl
          case rcho =>
            refine ⟨?_, ?_, ?_, ?_, ?_, ?_, ?_, ?_, ?_, ?_, ?_, ?_, ?_, ?_, ?_, ?_, ?_, ?_, ?_, ?_, ?_, ?_, ?_, ?_, ?_, ?_, trivial⟩
            · intro vv W K hB hd HK
              simp only [confRules] at HK
              clear hd
              go_wp2
              refine HK.out _ _ (Below.refl _ _) ?_
              rfl
            · intro vv W K hB hd HK
              simp only [confRules] at hd HK
              have h0 := hd
              clear hd
              simp only [h0] at HK ⊢
              clear h0
              go_wp2
              refine HK.out _ _ (Below.refl _ _) ?_
              rfl
            · intro vv W K hB hd HK
              simp only [confRules] at hd HK
              have h1 := hd
              clear hd
              simp only [h1] at HK ⊢
              clear h1
              go_wp2
              refine HK.out _ _ (Below.refl _ _) ?_
              rfl
            · intro vv W K hB hd HK
              simp only [confRules] at hd HK
              have h2 := hd
              clear hd
              simp only [h2] at HK ⊢
              clear h2
              refine wpList_guard_yes (by rfl) ?_
              have hT := (hB.block w4.heap.size n7).trans GS.out
              go_wp2_with (refine wpList_load_row rfl 31 _ rfl w4.heap.size rfl 31 _ _ _ hT Try.underlying31 rfl HIS.out ?_)
              refine HK.out _ _ (Below.refl _ _) ?_
              rfl
            · intro vv W K hB hd HK
              simp only [confRules] at hd HK
              have h2 := hd
              clear hd
              simp only [h2] at HK ⊢
              clear h2
              refine wpList_guard_yes (by rfl) ?_
              have hT := (hB.block W2.heap.size n6).trans GX.out
              go_wp2_with (refine wpList_load_row rfl 40 _ rfl W2.heap.size rfl 40 _ _ _ hT Try.underlying40 rfl HIR.out ?_)
              refine HK.out _ _ (Below.refl _ _) ?_
              rfl
            · intro vv W K hB hd HK
              simp only [confRules] at hd HK
              obtain ⟨h4, h2, _⟩ := hd
              simp only [h4, h2] at HK ⊢
              clear h4 h2
              refine wpList_guard_yes (by rfl) ?_
              go_wp2_with (refine (HBY'.out _).mono ?_; rintro e w9 ⟨rfl, hB9⟩)
              refine HK.out _ _ hB9 ?_
              rfl
            · intro vv W K hB hd HK
              simp only [confRules] at hd HK
              obtain ⟨h3, h5, h2⟩ := hd
              simp only [h3, h5, h2] at HK ⊢
              clear h3 h5 h2
              refine wpList_guard_yes (by rfl) ?_
              go_wp2_with (refine wpList_eql_asked (by rfl) 30 30 _ _ rfl _ _ rfl rfl (by kernel_rfl) true HQS.out ?_)
              refine HK.out _ _ (Below.refl _ _) ?_
              rfl
            · intro vv W K hB hd HK
              simp only [confRules] at hd HK
              obtain ⟨h2, h6⟩ := hd
              simp only [h2, h6] at HK ⊢
              clear h2 h6
              go_wp2
              refine HK.out _ _ (Below.refl _ _) ?_
              rfl
            · intro vv W K hB hd HK
              simp only [confRules] at hd HK
              obtain ⟨h7, h5⟩ := hd
              simp only [h7, h5] at HK ⊢
              clear h7 h5
              go_wp2
              refine HK.out _ _ (Below.refl _ _) ?_
              rfl
            · intro vv W K hB hd HK
              simp only [confRules] at hd HK
              have h8 := hd
              clear hd
              simp only [h8] at HK ⊢
              clear h8
              refine wpList_guard_yes (by rfl) ?_
              have hT := (hB.block w8.heap.size n8).trans GG.out
              go_wp2_with (refine wpList_load_row rfl 24 _ rfl w8.heap.size rfl 24 _ _ _ hT Try.underlying24 rfl HIA.out ?_)
              refine HK.out _ _ (Below.refl _ _) ?_
              rfl
            · intro vv W K hB hd HK
              simp only [confRules] at hd HK
              have h8 := hd
              clear hd
              simp only [h8] at HK ⊢
              clear h8
              refine wpList_guard_yes (by rfl) ?_
              have hT := (hB.block w.heap.size n5).trans GA.out
              go_wp2_with (refine wpList_load_row rfl 24 _ rfl w.heap.size rfl 24 _ _ _ hT Try.underlying24 rfl HIA.out ?_)
              refine HK.out _ _ (Below.refl _ _) ?_
              rfl
            · intro vv W K hB hd HK
              simp only [confRules] at hd HK
              obtain ⟨h9, h10, h8⟩ := hd
              simp only [h9, h10, h8] at HK ⊢
              clear h9 h10 h8
              refine wpList_guard_yes (by rfl) ?_
              go_wp2_with (refine wpList_eql_asked (by rfl) 24 24 _ _ rfl _ _ rfl rfl (by kernel_rfl) true HQA.out ?_)
              refine HK.out _ _ (Below.refl _ _) ?_
              rfl
            · intro vv W K hB hd HK
              simp only [confRules] at hd HK
              obtain ⟨h8, h11⟩ := hd
              simp only [h8, h11] at HK ⊢
              clear h8 h11
              go_wp2
              refine HK.out _ _ (Below.refl _ _) ?_
              rfl
            · intro vv W K hB hd HK
              simp only [confRules] at hd HK
              obtain ⟨h12, h8⟩ := hd
              simp only [h12, h8] at HK ⊢
              clear h12 h8
              go_wp2
              refine HK.out _ _ (Below.refl _ _) ?_
              rfl
            · intro vv W K hB hd HK
              simp only [confRules] at hd HK
              have h13 := hd
              clear hd
              simp only [h13] at HK ⊢
              clear h13
              refine wpList_guard_yes (by rfl) ?_
              go_wp2
              refine HK.out _ _ (Below.refl _ _) ?_
              rfl
            · intro vv W K hB hd HK
              simp only [confRules] at hd HK
              obtain ⟨h14, h13⟩ := hd
              simp only [h14, h13] at HK ⊢
              clear h14 h13
              refine wpList_guard_yes (by rfl) ?_
              go_wp2
              refine HK.out _ _ (Below.refl _ _) ?_
              rfl
            · intro vv W K hB hd HK
              simp only [confRules] at hd HK
              obtain ⟨h13, h15⟩ := hd
              simp only [h13, h15] at HK ⊢
              clear h13 h15
              go_wp2
              refine HK.out _ _ (Below.refl _ _) ?_
              rfl
            · intro vv W K hB hd HK
              simp only [confRules] at hd HK
              obtain ⟨h16, h13⟩ := hd
              simp only [h16, h13] at HK ⊢
              clear h16 h13
              go_wp2
              refine HK.out _ _ (Below.refl _ _) ?_
              rfl
            · intro vv W K hB hd HK
              simp only [confRules] at hd HK
              have h17 := hd
              clear hd
              simp only [h17] at HK ⊢
              clear h17
              refine wpList_guard_yes (by rfl) ?_
              have hT := (hB.block wa.heap.size n9).trans GY.out
              go_wp2_with (refine wpList_load_row rfl 24 _ rfl wa.heap.size rfl 24 _ _ _ hT Try.underlying24 rfl HIA.out ?_)
              refine HK.out _ _ (Below.refl _ _) ?_
              rfl
            · intro vv W K hB hd HK
              simp only [confRules] at hd HK
              have h17 := hd
              clear hd
              simp only [h17] at HK ⊢
              clear h17
              refine wpList_guard_yes (by rfl) ?_
              have hT := (hB.block w.heap.size n5).trans GA.out
              go_wp2_with (refine wpList_load_row rfl 24 _ rfl w.heap.size rfl 24 _ _ _ hT Try.underlying24 rfl HIA.out ?_)
              refine HK.out _ _ (Below.refl _ _) ?_
              rfl
            · intro vv W K hB hd HK
              simp only [confRules] at hd HK
              obtain ⟨h18, h19, h17⟩ := hd
              simp only [h18, h19, h17] at HK ⊢
              clear h18 h19 h17
              refine wpList_guard_yes (by rfl) ?_
              go_wp2_with (refine wpList_eql_asked (by rfl) 24 24 _ _ rfl _ _ rfl rfl (by kernel_rfl) true HQA.out ?_)
              refine HK.out _ _ (Below.refl _ _) ?_
              rfl
            · intro vv W K hB hd HK
              simp only [confRules] at hd HK
              obtain ⟨h17, h20⟩ := hd
              simp only [h17, h20] at HK ⊢
              clear h17 h20
              go_wp2
              refine HK.out _ _ (Below.refl _ _) ?_
              rfl
            · intro vv W K hB hd HK
              simp only [confRules] at hd HK
              obtain ⟨h21, h17⟩ := hd
              simp only [h21, h17] at HK ⊢
              clear h21 h17
              go_wp2
              refine HK.out _ _ (Below.refl _ _) ?_
              rfl
            · intro vv W K hB hd HK
              simp only [confRules] at hd HK
              have h22 := hd
              clear hd
              simp only [h22] at HK ⊢
              clear h22
              refine wpList_guard_yes (by rfl) ?_
              go_wp2
              refine HK.out _ _ (Below.refl _ _) ?_
              rfl
            · intro vv W K hB hd HK
              simp only [confRules] at hd HK
              obtain ⟨h23, h22⟩ := hd
              simp only [h23, h22] at HK ⊢
              clear h23 h22
              refine wpList_guard_yes (by rfl) ?_
              go_wp2
              refine HK.out _ _ (Below.refl _ _) ?_
              rfl
            · intro vv W K hB hd HK
              simp only [confRules] at hd HK
              obtain ⟨h22, h24⟩ := hd
              simp only [h22, h24] at HK ⊢
              clear h22 h24
              go_wp2
              refine HK.out _ _ (Below.refl _ _) ?_
              rfl
          case rchend =>
            intro vv W hB hf
            have e25 := hf 25 (by decide)
            simp only [endRules] at e25
            simp only [e25, dropRules]
            clear hf e25
            go_wp2
            go_ret
            exact ⟨rfl, hBB2.trans (hB.mono (by omega))⟩
        · have t1 : (zone == zone) = true := by simp
          have t2 : (off == fo) = false := by simpa using hd
          go_wp2_with (first | (refine wpList_store_row rfl 24 _ _ rfl wb.heap.size XZ rfl rfl 24 XZ (heap_alloc_new wb _) HIZ.out rfl H1Z.out ?_; rw [World.setRow_alloc_new, HWB.out]) | (refine wpList_load_row_asked (by rfl) 24 _ rfl wb.heap.size rfl 24 _ _ _ hZ Try.underlying24 rfl HIZ.out ?_) | (refine wpList_neq_asked (by rfl) 24 24 _ _ rfl XZ XZ rfl rfl (by kernel_rfl) true HQZ.out ?_))
          clear hAB hXB hSB hGB hYB c1 c2 hZ HIZ H1Z HZZ HAT1 HAT2 HEA HDE HRT HRR HN
          refine wp_region_conf2 26 [Fact.eq ?rdx0, Fact.eq ?rdx1, Fact.eq ?rdx2, Fact.eq ?rdx3, Fact.eq ?rdx4, Fact.eq ?rdx5, Fact.eq ?rdx6, Fact.eq ?rdx7, Fact.eq ?rdx8, Fact.eq ?rdx9, Fact.eq ?rdx10, Fact.eq ?rdx11, Fact.eq ?rdx12, Fact.eq ?rdx13, Fact.eq ?rdx14, Fact.eq ?rdx15, Fact.eq ?rdx16, Fact.eq ?rdx17, Fact.eq ?rdx18, Fact.eq ?rdx19, Fact.eq ?rdx20, Fact.eq ?rdx21, Fact.eq ?rdx22, Fact.eq ?rdx23, Fact.eq ?rdx24, Fact.eq ?rdx25] ?rdA (by kernel_rfl) (by kernel_rfl) ?rdhA ?rdho ?rdhend
          case rdhA =>
            intro vv
            simp only [putRules, Nat.reduceAdd]
            rfl
          case rdho =>
            refine ⟨?_, ?_, ?_, ?_, ?_, ?_, ?_, ?_, ?_, ?_, ?_, ?_, ?_, ?_, ?_, ?_, ?_, ?_, ?_, ?_, ?_, ?_, ?_, ?_, ?_, ?_, trivial⟩
            · intro vv W K hB hd HK
              simp only [confRules] at HK
              clear hd
              go_wp2
              refine HK.out _ _ (Below.refl _ _) ?_
              rfl
            · intro vv W K hB hd HK
              simp only [confRules] at hd HK
              have h0 := hd
              clear hd
              simp only [h0] at HK ⊢
              clear h0
              go_wp2
              refine HK.out _ _ (Below.refl _ _) ?_
              rfl
            · intro vv W K hB hd HK
              simp only [confRules] at hd HK
              have h1 := hd
              clear hd
              simp only [h1] at HK ⊢
              clear h1
              go_wp2
              refine HK.out _ _ (Below.refl _ _) ?_
              rfl
            · intro vv W K hB hd HK
              simp only [confRules] at hd HK
              have h2 := hd
              clear hd
              simp only [h2] at HK ⊢
              clear h2
              refine wpList_guard_yes (by rfl) ?_
              have hT := (hB.block w4.heap.size n7).trans GS.out
              go_wp2_with (refine wpList_load_row rfl 31 _ rfl w4.heap.size rfl 31 _ _ _ hT Try.underlying31 rfl HIS.out ?_)
              refine HK.out _ _ (Below.refl _ _) ?_
              rfl
            · intro vv W K hB hd HK
              simp only [confRules] at hd HK
              have h2 := hd
              clear hd
              simp only [h2] at HK ⊢
              clear h2
              refine wpList_guard_yes (by rfl) ?_
              have hT := (hB.block W2.heap.size n6).trans GX.out
              go_wp2_with (refine wpList_load_row rfl 40 _ rfl W2.heap.size rfl 40 _ _ _ hT Try.underlying40 rfl HIR.out ?_)
              refine HK.out _ _ (Below.refl _ _) ?_
              rfl
            · intro vv W K hB hd HK
              simp only [confRules] at hd HK
              obtain ⟨h4, h2, _⟩ := hd
              simp only [h4, h2] at HK ⊢
              clear h4 h2
              refine wpList_guard_yes (by rfl) ?_
              go_wp2_with (refine (HBY'.out _).mono ?_; rintro e w9 ⟨rfl, hB9⟩)
              refine HK.out _ _ hB9 ?_
              rfl
            · intro vv W K hB hd HK
              simp only [confRules] at hd HK
              obtain ⟨h3, h5, h2⟩ := hd
              simp only [h3, h5, h2] at HK ⊢
              clear h3 h5 h2
              refine wpList_guard_yes (by rfl) ?_
              go_wp2_with (refine wpList_eql_asked (by rfl) 30 30 _ _ rfl _ _ rfl rfl (by kernel_rfl) true HQS.out ?_)
              refine HK.out _ _ (Below.refl _ _) ?_
              rfl
            · intro vv W K hB hd HK
              simp only [confRules] at hd HK
              obtain ⟨h2, h6⟩ := hd
              simp only [h2, h6] at HK ⊢
              clear h2 h6
              go_wp2
              refine HK.out _ _ (Below.refl _ _) ?_
              rfl
            · intro vv W K hB hd HK
              simp only [confRules] at hd HK
              obtain ⟨h7, h5⟩ := hd
              simp only [h7, h5] at HK ⊢
              clear h7 h5
              go_wp2
              refine HK.out _ _ (Below.refl _ _) ?_
              rfl
            · intro vv W K hB hd HK
              simp only [confRules] at hd HK
              have h8 := hd
              clear hd
              simp only [h8] at HK ⊢
              clear h8
              refine wpList_guard_yes (by rfl) ?_
              have hT := (hB.block w8.heap.size n8).trans GG.out
              go_wp2_with (refine wpList_load_row rfl 24 _ rfl w8.heap.size rfl 24 _ _ _ hT Try.underlying24 rfl HIA.out ?_)
              refine HK.out _ _ (Below.refl _ _) ?_
              rfl
            · intro vv W K hB hd HK
              simp only [confRules] at hd HK
              have h8 := hd
              clear hd
              simp only [h8] at HK ⊢
              clear h8
              refine wpList_guard_yes (by rfl) ?_
              have hT := (hB.block w.heap.size n5).trans GA.out
              go_wp2_with (refine wpList_load_row rfl 24 _ rfl w.heap.size rfl 24 _ _ _ hT Try.underlying24 rfl HIA.out ?_)
              refine HK.out _ _ (Below.refl _ _) ?_
              rfl
            · intro vv W K hB hd HK
              simp only [confRules] at hd HK
              obtain ⟨h9, h10, h8⟩ := hd
              simp only [h9, h10, h8] at HK ⊢
              clear h9 h10 h8
              refine wpList_guard_yes (by rfl) ?_
              go_wp2_with (refine wpList_eql_asked (by rfl) 24 24 _ _ rfl _ _ rfl rfl (by kernel_rfl) true HQA.out ?_)
              refine HK.out _ _ (Below.refl _ _) ?_
              rfl
            · intro vv W K hB hd HK
              simp only [confRules] at hd HK
              obtain ⟨h8, h11⟩ := hd
              simp only [h8, h11] at HK ⊢
              clear h8 h11
              go_wp2
              refine HK.out _ _ (Below.refl _ _) ?_
              rfl
            · intro vv W K hB hd HK
              simp only [confRules] at hd HK
              obtain ⟨h12, h8⟩ := hd
              simp only [h12, h8] at HK ⊢
              clear h12 h8
              go_wp2
              refine HK.out _ _ (Below.refl _ _) ?_
              rfl
            · intro vv W K hB hd HK
              simp only [confRules] at hd HK
              have h13 := hd
              clear hd
              simp only [h13] at HK ⊢
              clear h13
              refine wpList_guard_yes (by rfl) ?_
              go_wp2
              refine HK.out _ _ (Below.refl _ _) ?_
              rfl
            · intro vv W K hB hd HK
              simp only [confRules] at hd HK
              obtain ⟨h14, h13⟩ := hd
              simp only [h14, h13] at HK ⊢
              clear h14 h13
              refine wpList_guard_yes (by rfl) ?_
              go_wp2
              refine HK.out _ _ (Below.refl _ _) ?_
              rfl
            · intro vv W K hB hd HK
              simp only [confRules] at hd HK
              obtain ⟨h13, h15⟩ := hd
              simp only [h13, h15] at HK ⊢
              clear h13 h15
              go_wp2
              refine HK.out _ _ (Below.refl _ _) ?_
              rfl
            · intro vv W K hB hd HK
              simp only [confRules] at hd HK
              obtain ⟨h16, h13⟩ := hd
              simp only [h16, h13] at HK ⊢
              clear h16 h13
              go_wp2
              refine HK.out _ _ (Below.refl _ _) ?_
              rfl
            · intro vv W K hB hd HK
              simp only [confRules] at hd HK
              have h17 := hd
              clear hd
              simp only [h17] at HK ⊢
              clear h17
              refine wpList_guard_yes (by rfl) ?_
              have hT := (hB.block wa.heap.size n9).trans GY.out
              go_wp2_with (refine wpList_load_row rfl 24 _ rfl wa.heap.size rfl 24 _ _ _ hT Try.underlying24 rfl HIA.out ?_)
              refine HK.out _ _ (Below.refl _ _) ?_
              rfl
            · intro vv W K hB hd HK
              simp only [confRules] at hd HK
              have h17 := hd
              clear hd
              simp only [h17] at HK ⊢
              clear h17
              refine wpList_guard_yes (by rfl) ?_
              have hT := (hB.block w.heap.size n5).trans GA.out
              go_wp2_with (refine wpList_load_row rfl 24 _ rfl w.heap.size rfl 24 _ _ _ hT Try.underlying24 rfl HIA.out ?_)
              refine HK.out _ _ (Below.refl _ _) ?_
              rfl
            · intro vv W K hB hd HK
              simp only [confRules] at hd HK
              obtain ⟨h18, h19, h17⟩ := hd
              simp only [h18, h19, h17] at HK ⊢
              clear h18 h19 h17
              refine wpList_guard_yes (by rfl) ?_
              go_wp2_with (refine wpList_eql_asked (by rfl) 24 24 _ _ rfl _ _ rfl rfl (by kernel_rfl) true HQA.out ?_)
              refine HK.out _ _ (Below.refl _ _) ?_
              rfl
            · intro vv W K hB hd HK
              simp only [confRules] at hd HK
              obtain ⟨h17, h20⟩ := hd
              simp only [h17, h20] at HK ⊢
              clear h17 h20
              go_wp2
              refine HK.out _ _ (Below.refl _ _) ?_
              rfl
            · intro vv W K hB hd HK
              simp only [confRules] at hd HK
              obtain ⟨h21, h17⟩ := hd
              simp only [h21, h17] at HK ⊢
              clear h21 h17
              go_wp2
              refine HK.out _ _ (Below.refl _ _) ?_
              rfl
            · intro vv W K hB hd HK
              simp only [confRules] at hd HK
              have h22 := hd
              clear hd
              simp only [h22] at HK ⊢
              clear h22
              refine wpList_guard_yes (by rfl) ?_
              go_wp2
              refine HK.out _ _ (Below.refl _ _) ?_
              rfl
            · intro vv W K hB hd HK
              simp only [confRules] at hd HK
              obtain ⟨h23, h22⟩ := hd
              simp only [h23, h22] at HK ⊢
              clear h23 h22
              refine wpList_guard_yes (by rfl) ?_
              go_wp2
              refine HK.out _ _ (Below.refl _ _) ?_
              rfl
            · intro vv W K hB hd HK
              simp only [confRules] at hd HK
              obtain ⟨h22, h24⟩ := hd
              simp only [h22, h24] at HK ⊢
              clear h22 h24
              go_wp2
              refine HK.out _ _ (Below.refl _ _) ?_
              rfl
          case rdhend =>
            intro vv W hB hf
            have e25 := hf 25 (by decide)
            simp only [endRules] at e25
            simp only [e25, dropRules]
            clear hf e25
            go_wp2
            go_ret
            exact ⟨rfl, hBB2.trans (hB.mono (by omega))⟩
theorem eq_arr64 (l : List Nat) (hl : l.length = 64) (h1 : ∀ c ∈ l, c < 256) (w : World) :
    (Op.equalIn 10000 30 (.agg (byteCells l)) (.agg (byteCells l))).run Try.prog w = .ok true w := by
  have hf : ∀ l : List Nat, l.length = 64 → (Value.agg (byteCells l)).formed Try.prog 30 = true := by
    intro l hl
    simp only [Value.formed, Try.underlying30, size_byteCells, hl]
    kernel_rfl
  exact eq_deep (by kernel_rfl) (hf l hl) (hf l hl) (lits_bytes Try.underlying30 Try.underlying5 (by kernel_rfl) (by kernel_rfl) l hl h1 0) (lits_bytes Try.underlying30 Try.underlying5 (by kernel_rfl) (by kernel_rfl) l hl h1 0) true (by simp) w
theorem enc_at (f : Fr) (zone off : Int) (hr : rightF f = true) (hb : Body f.body) : atF (sectorOf f) zone off = if f.zone ≠ zone ∨ f.off ≠ off then (Fr.zero, 12) else (f, 0) := by
  unfold atF
  rw [dec_sector hr hb]
  rfl
theorem fr_encodes_walk (f : Fr) (zone off : Int) (hb : Body f.body) (nf : Num64 f) (w : World) :
    Calls Try.prog 7 #[.agg (FC f), .int .i64 zone, .int .i64 off] w fun e w' => e = .returned (.bool true) ∧ Below w.heap.size w w' := by
  have nz : Num64 Fr.zero := ⟨rfl, rfl, rfl, rfl, rfl⟩
  cases hr : rightF f
  · have hl : (List.replicate 64 0 : List Nat).length = 64 := by simp
    have h256 : ∀ c ∈ (List.replicate 64 0 : List Nat), c < 256 := by simp
    refine fr_encodes_core (FC f) (byteCells (List.replicate 64 0)) (FC Fr.zero) 10 12 false f.zone f.off zone off w (size_frm hb.1) (size_rf hb.1) (size_sec hl) (FC_one _) (one_byteCells _) (fun W => ?_) (fun W => ?_) (fun W => ?_) (by simp) (fun W b h => ⟨(frame_cells h).2.1, (frame_cells h).2.2.1⟩) (size_frm body_zeros.1) (FC_one _) (by simp) (by simp) (by simp) (by simp) (fun W => eq_frame f f hb hb nf nf true (by simp) W) (fun W => eq_frame _ _ body_zeros body_zeros nz nz true (by simp) W) (fun W => eq_arr64 _ hl h256 W) (fun _ => ⟨rfl, fun W => eq_sec _ _ hl hl h256 h256 true (by simp) W⟩)
    · have := encode_any f W hb
      rw [hr] at this
      exact this
    · have := fright_any f W
      rw [hr] at this
      exact this
    · have := rfright_any f W
      rw [hr] at this
      exact this
  · have hl := sector_length hb
    have h256 := sector_lt hb
    have hat := fun zone off => enc_at f zone off hr hb
    have hbd : Body (atF (sectorOf f) zone off).1.body := by
      rw [hat]; split
      · exact body_zeros
      · exact hb
    refine fr_encodes_core (FC f) (byteCells (sectorOf f)) (FC (atF (sectorOf f) zone off).1) 0 (atF (sectorOf f) zone off).2 true f.zone f.off zone off w (size_frm hb.1) (size_rf hb.1) (size_sec hl) (FC_one _) (one_byteCells _) (fun W => ?_) (fun W => ?_) (fun W => ?_) (fun _ => ⟨rfl, fun W => ?_⟩) (fun W b h => ⟨(frame_cells h).2.1, (frame_cells h).2.2.1⟩) (size_frm hbd.1) (FC_one _) (fun _ W => ?_) (fun _ W => ?_) (fun _ => ?_) (fun _ W => rfbytes_any f W hb hr) (fun W => eq_frame f f hb hb nf nf true (by simp) W) (fun W => eq_frame _ _ body_zeros body_zeros nz nz true (by simp) W) (fun W => eq_arr64 _ hl h256 W) (by simp)
    · have := encode_any f W hb
      rw [hr] at this
      exact this
    · have := fright_any f W
      rw [hr] at this
      exact this
    · have := rfright_any f W
      rw [hr] at this
      exact this
    · have := decode_any (sectorOf f) W hl h256
      rw [dec_sector hr hb] at this
      exact this
    · have := at_any (sectorOf f) f.zone f.off W hl h256
      rw [hat, if_neg (by simp)] at this
      exact this
    · exact at_any (sectorOf f) zone off W hl h256
    · rw [hat]
      by_cases h1 : f.zone = zone
      · by_cases h2 : f.off = off
        · rw [if_neg (by rw [h1, h2]; simp)]
          exact .inl ⟨h1.symm, h2.symm, rfl, rfl⟩
        · rw [if_pos (.inr h2)]
          exact .inr ⟨.inr ⟨h1.symm, fun e => h2 e.symm⟩, rfl, rfl⟩
      · rw [if_pos (.inl h1)]
        exact .inr ⟨.inl fun e => h1 e.symm, rfl, rfl⟩
end Go.Proofs.Ytfcadbeamojdpaa
