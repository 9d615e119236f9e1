/- Proved here: the contract of the entry's Frame. -/
import Derived.Test.YtfcadbeamojdpaaEnFill
import Derived.Test.YtfcadbeamojdpaaAt
import Derived.Deep.Cut
import Derived.Deep.CutRange
import Derived.IntWalk
namespace Go.Rv
open Go.RowKit
theorem wpList_build_asked {P : Program} {ops : Array Oper} {rest : List Oper} {o : Oper} {a : Act} {w : World} {Q : Exit → Act → World → Prop} (hgd : Region.wanted o (yielded ops a.tmps) = true) (ty : TypeId) (parts : Array (Nat × Operand)) (ho : o.op = .build ty parts)
    (ps : Array (Nat × Value)) (hp : parts.map (fun (i, x) => (i, a.eval x)) = ps) (cells : Array Value) (hr : P.built ty ps.toList = some cells)
    (h : wpList P ops Q rest (a.put o.dst (.agg cells)) w) : wpList P ops Q (o :: rest) a w := by
  unfold wpList
  rw [if_pos hgd]
  refine .inl ?_
  unfold Oper.wp execOp
  have h1 := run_build (P := P) w ty ps cells hr
  simp only [ho, hp, Sem.run_bind, Sem.run_pure, h1, Result.andThen_ok]
  exact h
end Go.Rv
namespace Go.Proofs.Ytfcadbeamojdpaa
open Go.RowKit Go.Rv Frm
set_option linter.unusedVariables false
theorem list_fn (b : List Nat) (n : Nat) (h : b.length = n) : ∃ f : Nat → Nat, b = (List.range n).map f := by
  refine ⟨fun i => b.getD i 0, ?_⟩
  apply List.ext_getElem?
  intro i
  by_cases hi : i < n
  · rw [List.getElem?_eq_getElem (by omega), List.getElem?_map, List.getElem?_range hi]
    simp [List.getD_eq_getElem?_getD, List.getElem?_eq_getElem (show i < b.length by omega)]
  · rw [List.getElem?_eq_none (by omega), List.getElem?_eq_none (by simp; omega)]
theorem built_frame (k z o e s : Int) (b : List Nat) (hl : b.length = 44) : Try.prog.built 24 [(0, .int .i64 k), (1, .int .i64 z), (2, .int .i64 o), (3, .int .i64 e), (4, .int .i64 s), (5, .agg (byteCells b))] = some (FC ⟨k, z, o, e, s, b⟩) := by
  obtain ⟨f, rfl⟩ := list_fn b 44 hl
  kernel_rfl
set_option maxRecDepth 100000 in
set_option maxHeartbeats 4000000 in
theorem eframe_core (e : En.E) (zone off epoch seq : Int) (b : List Nat) (g : Int) (rf : Bool) (r : Fr × Int) (w : World) (hb : EBody e) (hbl : b.length = 44) (hbb : ∀ c ∈ b, c < 256)
    (HBO' : ∀ W, Calls Try.prog 28 #[.agg (EC e)] W fun x w' => x = .returned (.tuple #[.agg (byteCells b), .int .i64 g]) ∧ Below W.heap.size W w')
    (HRF' : ∀ W, Calls Try.prog 23 #[.agg (FC ⟨e.kind, zone, off, epoch, seq, b⟩)] W fun x w' => x = .returned (.bool rf) ∧ Below W.heap.size W w')
    (hr : ((g != 0) = true ∧ r = (Fr.zero, 10)) ∨ ((g != 0) = false ∧ rf = false ∧ r = (Fr.zero, 10)) ∨ ((g != 0) = false ∧ rf = true ∧ decide (seq < e.first) = true ∧ r = (Fr.zero, 10)) ∨
      ((g != 0) = false ∧ rf = true ∧ decide (seq < e.first) = false ∧ IntKind.i64.wrap (seq - e.count) = seq - e.count ∧ decide (e.first ≤ seq - e.count) = true ∧ r = (Fr.zero, 10)) ∨
      ((g != 0) = false ∧ rf = true ∧ decide (seq < e.first) = false ∧ IntKind.i64.wrap (seq - e.count) = seq - e.count ∧ decide (e.first ≤ seq - e.count) = false ∧ r = (⟨e.kind, zone, off, epoch, seq, b⟩, 0))) :
    Calls Try.prog 30 #[.agg (EC e), .int .i64 zone, .int .i64 off, .int .i64 epoch, .int .i64 seq] w (FrmPost r w) := by
  have hzF := (zero_of_info Try.infoFrame).1
  have HBZ' : Try.prog.built 24 [] = some (FC Fr.zero) := by kernel_rfl
  have hzB := (zero_of_info Try.infoBody).1
  have HIE := Lib.hid (size_ent hb.1)
  have HIF := Lib.hid (size_frm (f := Fr.zero) (by simp [Fr.zero]))
  have HIX := Lib.hid (size_frm (f := ⟨e.kind, zone, off, epoch, seq, b⟩) hbl)
  have h1F := Lib.hid (FC_one Fr.zero)
  have h1X := Lib.hid (FC_one ⟨e.kind, zone, off, epoch, seq, b⟩)
  have HIB := Lib.hid (size_body hbl)
  have h1B := Lib.hid (one_byteCells b)
  have HZB := Lib.hid (show (byteCells (List.replicate 44 0)).size = (byteCells b).size by rw [size_byteCells, size_byteCells, hbl]; rfl)
  have HBO := Lib.hid HBO'
  have HR := Lib.hid hr
  have hE0 := heap_alloc2_old w (.cells (EC e) 55) (.cells (FC Fr.zero) 24)
  have hF0 := heap_alloc2_new w (.cells (EC e) 55) (.cells (FC Fr.zero) 24)
  have hB0 := ((Below.refl w.heap.size w).alloc (Nat.le_refl _) (.cells (EC e) 55)).alloc (by simp) (.cells (FC Fr.zero) 24)
  have HCE := Lib.hid (fun (W : World) (h : W.heap[w.heap.size]? = some (.cells (EC e) 55 (0, 0))) => ent_cells h)
  have hbuild := built_frame e.kind zone off epoch seq b hbl
  obtain ⟨X, hX⟩ : ∃ X, FC ⟨e.kind, zone, off, epoch, seq, b⟩ = X := ⟨_, rfl⟩
  rw [hX] at hbuild HIX h1X HRF'
  have HX := Lib.hid hX
  have HBU := Lib.hid hbuild
  clear hX hbuild
  have HRF := Lib.hid HRF'
  clear HBO' HRF' hr
  obtain ⟨ZF, hZF⟩ : ∃ Z, FC Fr.zero = Z := ⟨_, rfl⟩
  obtain ⟨ZB, hZB⟩ : ∃ Z, byteCells (List.replicate 44 0) = Z := ⟨_, rfl⟩
  have HZF := Lib.hid hZF
  rw [hZF] at hzF HIF h1F hE0 hF0 hB0 HBZ'
  have HBZ := Lib.hid HBZ'
  clear HBZ'
  rw [hZB] at hzB HZB
  clear hZF hZB
  generalize hBC : byteCells b = BC at *
  generalize hEC : EC e = C at *
  clear hBC hEC
  go_enter Try.func30, Try.ntmps30
  go_wp2_with (refine wpList_load_row rfl 55 _ rfl w.heap.size rfl 55 _ _ _ hE0 Try.underlying55 rfl HIE.out ?_)
  refine (HBO.out _).mono ?_
  rintro x w1 ⟨rfl, hB1⟩
  have z1 := hB1.size
  simp only [World.size_alloc] at z1
  have hE1 := (hB1.block w.heap.size (by simp; omega)).trans hE0
  have hF1 := (hB1.block (w.heap.size + 1) (by simp)).trans hF0
  have hB1' := hB0.trans (hB1.mono (by simp; omega))
  obtain ⟨W2, hW2⟩ : ∃ W2, w1.alloc (.cells BC 22) = W2 := ⟨_, rfl⟩
  have hba := (Below.refl w1.heap.size w1).alloc (Nat.le_refl _) (.cells BC 22)
  have hM2 := heap_alloc_new w1 (.cells BC 22)
  have z2 : (w1.alloc (.cells BC 22)).heap.size = w1.heap.size + 1 := by simp
  rw [hW2] at hba hM2 z2
  have hE2 := (hba.block w.heap.size (by omega)).trans hE1
  have hF2 := (hba.block (w.heap.size + 1) (by omega)).trans hF1
  have hB2 := hB1'.trans (hba.mono (by omega))
  obtain ⟨W3, hW3⟩ : ∃ W3, W2.alloc (.cells X 24) = W3 := ⟨_, rfl⟩
  have hbb2 := (Below.refl W2.heap.size W2).alloc (Nat.le_refl _) (.cells X 24)
  have hX3 := heap_alloc_new W2 (.cells X 24)
  have z3 : (W2.alloc (.cells X 24)).heap.size = W2.heap.size + 1 := by simp
  rw [hW3] at hbb2 hX3 z3
  have hE3 := (hbb2.block w.heap.size (by omega)).trans hE2
  have hF3 := (hbb2.block (w.heap.size + 1) (by omega)).trans hF2
  have hB3 := hB2.trans (hbb2.mono (by omega))
  have HW2 := Lib.hid hW2
  have HW3 := Lib.hid hW3
  have HZX : Hid (ZF.size = X.size) := Lib.hid (by have h1 := HIF.out; rw [HIX.out] at h1; simpa using h1.symm)
  have C2 := Lib.hid (HCE.out _ hE2)
  have C3 := Lib.hid (HCE.out _ hE3)
  have HZ2 := Lib.hid z2
  have HZ3 := Lib.hid z3
  clear hE0 hF0 hE1 hF1 hB0 hB1 hW2 hW3 hba hbb2 hE2 z2 z3
  rcases HR.out with ⟨t1, rfl⟩ | ⟨t1, rfl, rfl⟩ | ⟨t1, rfl, t2, rfl⟩ | ⟨t1, rfl, t2, t3, t4, rfl⟩ | ⟨t1, rfl, t2, t3, t4, rfl⟩
  · clear HR
    go_upto_region 3 with (first | (refine wpList_store_row rfl 22 _ _ rfl w1.heap.size BC rfl rfl 22 ZB (heap_alloc_new w1 _) HIB.out HZB.out h1B.out ?_; rw [World.setRow_alloc_new, HW2.out]; obtain ⟨c0, c1, c2, c3, c4, c5⟩ := C2.out) | (refine wpList_load_row rfl 22 _ rfl w1.heap.size rfl 22 _ _ _ hM2 Try.underlying22 rfl HIB.out ?_) | (refine wpList_build_asked (by rfl) 24 _ rfl #[(0, .int .i64 e.kind), (1, .int .i64 zone), (2, .int .i64 off), (3, .int .i64 epoch), (4, .int .i64 seq), (5, .agg BC)] (by simp [Act.eval, Act.put]) X HBU.out ?_) | (refine wpList_store_row rfl 24 _ _ rfl W2.heap.size X rfl rfl 24 ZF (heap_alloc_new W2 _) HIX.out HZX.out h1X.out ?_; rw [World.setRow_alloc_new, HW3.out]; clear c0 c1 c2 c3 c4 c5; obtain ⟨c0, c1, c2, c3, c4, c5⟩ := C3.out))
    go_upto_region 4 with (fail)
    go_wp2_with (first | (refine wpList_build_asked (by rfl) 24 _ rfl #[] (by rfl) ZF HBZ.out ?_) | (refine wpList_store_row rfl 24 _ _ rfl (w.heap.size + 1) ZF rfl rfl 24 ZF hF3 HIF.out rfl h1F.out ?_))
    refine bodyPost_ret (results_row_tmp rfl _ _ (w.heap.size + 1) 24 ZF _ _ rfl (setRow_heap _ _ _ _ _ _ hF3) Try.underlying24 rfl HIF.out) rfl ?_
    exact ⟨by rw [HZF.out]; rfl, below_setRow hB3 (by omega) _⟩
  · clear HR
    go_wp2_with (first | (refine wpList_store_row rfl 22 _ _ rfl w1.heap.size BC rfl rfl 22 ZB (heap_alloc_new w1 _) HIB.out HZB.out h1B.out ?_; rw [World.setRow_alloc_new, HW2.out]; obtain ⟨c0, c1, c2, c3, c4, c5⟩ := C2.out) | (refine wpList_load_row rfl 22 _ rfl w1.heap.size rfl 22 _ _ _ hM2 Try.underlying22 rfl HIB.out ?_) | (refine wpList_build_asked (by rfl) 24 _ rfl #[(0, .int .i64 e.kind), (1, .int .i64 zone), (2, .int .i64 off), (3, .int .i64 epoch), (4, .int .i64 seq), (5, .agg BC)] (by simp [Act.eval, Act.put]) X HBU.out ?_) | (refine wpList_store_row rfl 24 _ _ rfl W2.heap.size X rfl rfl 24 ZF (heap_alloc_new W2 _) HIX.out HZX.out h1X.out ?_; rw [World.setRow_alloc_new, HW3.out]; clear c0 c1 c2 c3 c4 c5; obtain ⟨c0, c1, c2, c3, c4, c5⟩ := C3.out) | (refine wpList_load_row_asked (by rfl) 24 _ rfl W2.heap.size rfl 24 _ _ _ hX3 Try.underlying24 rfl HIX.out ?_))
    refine (HRF.out _).mono ?_
    rintro x w4 ⟨rfl, hB4⟩
    have z4 := hB4.size
    have z2 := HZ2.out
    have z3 := HZ3.out
    have hF4 := (hB4.block (w.heap.size + 1) (by omega)).trans hF3
    have hX4 := (hB4.block W2.heap.size (by omega)).trans hX3
    have hE4 := HCE.out _ ((hB4.block w.heap.size (by omega)).trans hE3)
    have hB5 := hB3.trans (hB4.mono (by omega))
    clear c0 c1 c2 c3 c4 c5
    obtain ⟨c0, c1, c2, c3, c4, c5⟩ := hE4
    clear hX3 hE3 hF3 z2 z3
    go_upto_region 4 with (fail)
    go_wp2_with (first | (refine wpList_build_asked (by rfl) 24 _ rfl #[] (by rfl) ZF HBZ.out ?_) | (refine wpList_store_row rfl 24 _ _ rfl (w.heap.size + 1) ZF rfl rfl 24 ZF hF4 HIF.out rfl h1F.out ?_))
    refine bodyPost_ret (results_row_tmp rfl _ _ (w.heap.size + 1) 24 ZF _ _ rfl (setRow_heap _ _ _ _ _ _ hF4) Try.underlying24 rfl HIF.out) rfl ?_
    exact ⟨by rw [HZF.out]; rfl, below_setRow hB5 (by omega) _⟩
  · clear HR
    go_wp2_with (first | (refine wpList_store_row rfl 22 _ _ rfl w1.heap.size BC rfl rfl 22 ZB (heap_alloc_new w1 _) HIB.out HZB.out h1B.out ?_; rw [World.setRow_alloc_new, HW2.out]; obtain ⟨c0, c1, c2, c3, c4, c5⟩ := C2.out) | (refine wpList_load_row rfl 22 _ rfl w1.heap.size rfl 22 _ _ _ hM2 Try.underlying22 rfl HIB.out ?_) | (refine wpList_build_asked (by rfl) 24 _ rfl #[(0, .int .i64 e.kind), (1, .int .i64 zone), (2, .int .i64 off), (3, .int .i64 epoch), (4, .int .i64 seq), (5, .agg BC)] (by simp [Act.eval, Act.put]) X HBU.out ?_) | (refine wpList_store_row rfl 24 _ _ rfl W2.heap.size X rfl rfl 24 ZF (heap_alloc_new W2 _) HIX.out HZX.out h1X.out ?_; rw [World.setRow_alloc_new, HW3.out]; clear c0 c1 c2 c3 c4 c5; obtain ⟨c0, c1, c2, c3, c4, c5⟩ := C3.out) | (refine wpList_load_row_asked (by rfl) 24 _ rfl W2.heap.size rfl 24 _ _ _ hX3 Try.underlying24 rfl HIX.out ?_))
    refine (HRF.out _).mono ?_
    rintro x w4 ⟨rfl, hB4⟩
    have z4 := hB4.size
    have z2 := HZ2.out
    have z3 := HZ3.out
    have hF4 := (hB4.block (w.heap.size + 1) (by omega)).trans hF3
    have hX4 := (hB4.block W2.heap.size (by omega)).trans hX3
    have hE4 := HCE.out _ ((hB4.block w.heap.size (by omega)).trans hE3)
    have hB5 := hB3.trans (hB4.mono (by omega))
    clear c0 c1 c2 c3 c4 c5
    obtain ⟨c0, c1, c2, c3, c4, c5⟩ := hE4
    clear hX3 hE3 hF3 z2 z3
    go_upto_region 4 with (fail)
    go_wp2_with (first | (refine wpList_build_asked (by rfl) 24 _ rfl #[] (by rfl) ZF HBZ.out ?_) | (refine wpList_store_row rfl 24 _ _ rfl (w.heap.size + 1) ZF rfl rfl 24 ZF hF4 HIF.out rfl h1F.out ?_))
    refine bodyPost_ret (results_row_tmp rfl _ _ (w.heap.size + 1) 24 ZF _ _ rfl (setRow_heap _ _ _ _ _ _ hF4) Try.underlying24 rfl HIF.out) rfl ?_
    exact ⟨by rw [HZF.out]; rfl, below_setRow hB5 (by omega) _⟩
  · clear HR
    go_wp2_with (first | (refine wpList_store_row rfl 22 _ _ rfl w1.heap.size BC rfl rfl 22 ZB (heap_alloc_new w1 _) HIB.out HZB.out h1B.out ?_; rw [World.setRow_alloc_new, HW2.out]; obtain ⟨c0, c1, c2, c3, c4, c5⟩ := C2.out) | (refine wpList_load_row rfl 22 _ rfl w1.heap.size rfl 22 _ _ _ hM2 Try.underlying22 rfl HIB.out ?_) | (refine wpList_build_asked (by rfl) 24 _ rfl #[(0, .int .i64 e.kind), (1, .int .i64 zone), (2, .int .i64 off), (3, .int .i64 epoch), (4, .int .i64 seq), (5, .agg BC)] (by simp [Act.eval, Act.put]) X HBU.out ?_) | (refine wpList_store_row rfl 24 _ _ rfl W2.heap.size X rfl rfl 24 ZF (heap_alloc_new W2 _) HIX.out HZX.out h1X.out ?_; rw [World.setRow_alloc_new, HW3.out]; clear c0 c1 c2 c3 c4 c5; obtain ⟨c0, c1, c2, c3, c4, c5⟩ := C3.out) | (refine wpList_load_row_asked (by rfl) 24 _ rfl W2.heap.size rfl 24 _ _ _ hX3 Try.underlying24 rfl HIX.out ?_))
    refine (HRF.out _).mono ?_
    rintro x w4 ⟨rfl, hB4⟩
    have z4 := hB4.size
    have z2 := HZ2.out
    have z3 := HZ3.out
    have hF4 := (hB4.block (w.heap.size + 1) (by omega)).trans hF3
    have hX4 := (hB4.block W2.heap.size (by omega)).trans hX3
    have hE4 := HCE.out _ ((hB4.block w.heap.size (by omega)).trans hE3)
    have hB5 := hB3.trans (hB4.mono (by omega))
    clear c0 c1 c2 c3 c4 c5
    obtain ⟨c0, c1, c2, c3, c4, c5⟩ := hE4
    clear hX3 hE3 hF3 z2 z3
    go_upto_region 4 with (fail)
    go_wp2_with (first | (refine wpList_build_asked (by rfl) 24 _ rfl #[] (by rfl) ZF HBZ.out ?_) | (refine wpList_store_row rfl 24 _ _ rfl (w.heap.size + 1) ZF rfl rfl 24 ZF hF4 HIF.out rfl h1F.out ?_))
    refine bodyPost_ret (results_row_tmp rfl _ _ (w.heap.size + 1) 24 ZF _ _ rfl (setRow_heap _ _ _ _ _ _ hF4) Try.underlying24 rfl HIF.out) rfl ?_
    exact ⟨by rw [HZF.out]; rfl, below_setRow hB5 (by omega) _⟩
  · clear HR
    go_wp2_with (first | (refine wpList_store_row rfl 22 _ _ rfl w1.heap.size BC rfl rfl 22 ZB (heap_alloc_new w1 _) HIB.out HZB.out h1B.out ?_; rw [World.setRow_alloc_new, HW2.out]; obtain ⟨c0, c1, c2, c3, c4, c5⟩ := C2.out) | (refine wpList_load_row rfl 22 _ rfl w1.heap.size rfl 22 _ _ _ hM2 Try.underlying22 rfl HIB.out ?_) | (refine wpList_build_asked (by rfl) 24 _ rfl #[(0, .int .i64 e.kind), (1, .int .i64 zone), (2, .int .i64 off), (3, .int .i64 epoch), (4, .int .i64 seq), (5, .agg BC)] (by simp [Act.eval, Act.put]) X HBU.out ?_) | (refine wpList_store_row rfl 24 _ _ rfl W2.heap.size X rfl rfl 24 ZF (heap_alloc_new W2 _) HIX.out HZX.out h1X.out ?_; rw [World.setRow_alloc_new, HW3.out]; clear c0 c1 c2 c3 c4 c5; obtain ⟨c0, c1, c2, c3, c4, c5⟩ := C3.out) | (refine wpList_load_row_asked (by rfl) 24 _ rfl W2.heap.size rfl 24 _ _ _ hX3 Try.underlying24 rfl HIX.out ?_))
    refine (HRF.out _).mono ?_
    rintro x w4 ⟨rfl, hB4⟩
    have z4 := hB4.size
    have z2 := HZ2.out
    have z3 := HZ3.out
    have hF4 := (hB4.block (w.heap.size + 1) (by omega)).trans hF3
    have hX4 := (hB4.block W2.heap.size (by omega)).trans hX3
    have hE4 := HCE.out _ ((hB4.block w.heap.size (by omega)).trans hE3)
    have hB5 := hB3.trans (hB4.mono (by omega))
    clear c0 c1 c2 c3 c4 c5
    obtain ⟨c0, c1, c2, c3, c4, c5⟩ := hE4
    clear hX3 hE3 hF3 z2 z3
    go_wp2_with (first | (refine wpList_load_row rfl 24 _ rfl W2.heap.size rfl 24 _ _ _ hX4 Try.underlying24 rfl HIX.out ?_) | (refine wpList_store_row rfl 24 _ _ rfl (w.heap.size + 1) X rfl rfl 24 ZF hF4 HIX.out HZX.out h1X.out ?_))
    refine bodyPost_ret (results_row_tmp rfl _ _ (w.heap.size + 1) 24 X _ _ rfl (setRow_heap _ _ _ _ _ _ hF4) Try.underlying24 rfl HIX.out) rfl ?_
    exact ⟨by rw [HX.out]; rfl, below_setRow hB5 (by omega) _⟩
/-- the frame that an entry has, and an error -/
def frameE (e : En.E) (zone off epoch seq : Int) : Fr × Int :=
  if En.right e = true ∧ rightF ⟨e.kind, zone, off, epoch, seq, En.body e⟩ = true ∧ e.first ≤ seq ∧ seq < e.first + e.count then (⟨e.kind, zone, off, epoch, seq, En.body e⟩, 0) else (Fr.zero, 10)
theorem eframe_any (e : En.E) (zone off epoch seq : Int) (w : World) (hb : EBody e) :
    Calls Try.prog 30 #[.agg (EC e), .int .i64 zone, .int .i64 off, .int .i64 epoch, .int .i64 seq] w (FrmPost (frameE e zone off epoch seq) w) := by
  cases hr : En.right e
  · refine eframe_core e zone off epoch seq (List.replicate 44 0) 10 (rightF ⟨e.kind, zone, off, epoch, seq, List.replicate 44 0⟩) _ w hb (by simp) (by simp) (fun W => ebody_no e W hb hr) (fun W => fright_any _ W) (.inl ⟨rfl, ?_⟩)
    unfold frameE
    rw [if_neg (by rw [hr]; simp)]
  · refine eframe_core e zone off epoch seq (En.body e) 0 (rightF ⟨e.kind, zone, off, epoch, seq, En.body e⟩) _ w hb (En.body_length hb.1) (En.body_bytes hb.2) (fun W => ebody_yes e W hb hr) (fun W => fright_any _ W) ?_
    cases hf : rightF ⟨e.kind, zone, off, epoch, seq, En.body e⟩
    · refine .inr (.inl ⟨rfl, rfl, ?_⟩)
      unfold frameE
      rw [if_neg (by rw [hf]; simp)]
    · obtain ⟨k1, k2, h1, h2, h3, h4, h5, h6, h7, h8⟩ : 1 ≤ e.kind ∧ e.kind ≤ 5 ∧ 0 ≤ zone ∧ zone ≤ 65535 ∧ 0 ≤ off ∧ off ≤ 65535 ∧ 1 ≤ epoch ∧ epoch ≤ 4294967295 ∧ 0 ≤ seq ∧ seq ≤ 281474976710655 := by
        have := hf
        simpa [rightF] using this
      obtain ⟨f, c, b, m, t, he, b1, b2, b3, b4, b5, b6⟩ := En.right_nat hr
      have e1 : e.first = (f : Int) := by rw [he]
      have e2 : e.count = (c : Int) := by rw [he]
      have hw : IntKind.i64.wrap (seq - e.count) = seq - e.count := IntWalk.i64_in _ (by omega)
      by_cases ha : seq < e.first
      · refine .inr (.inr (.inl ⟨rfl, rfl, decide_eq_true ha, ?_⟩))
        unfold frameE
        rw [if_neg (by omega)]
      · by_cases hb2 : e.first ≤ seq - e.count
        · refine .inr (.inr (.inr (.inl ⟨rfl, rfl, decide_eq_false ha, hw, decide_eq_true hb2, ?_⟩)))
          unfold frameE
          rw [if_neg (by omega)]
        · refine .inr (.inr (.inr (.inr ⟨rfl, rfl, decide_eq_false ha, hw, decide_eq_false hb2, ?_⟩)))
          unfold frameE
          rw [if_pos ⟨hr, hf, by omega, by omega⟩]
end Go.Proofs.Ytfcadbeamojdpaa
