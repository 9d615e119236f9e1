/- Proved here, one behind the other: Proved here: contracts of the entry's counts and Right; Proved here: the contract of the entry's Body; Plain laws: the entry of a body; Proved here: the contract of the entry's Fill; Proved here: the contract of the frame's At; Proved here: the contract of the entry's Frame; Laws over any program: a range over a function whose iterator may turn channels (their counters alone) and whatever else of its own that is no cells; the round's word is which blocks it may turn; Laws over any program: whole rows loaded, and compared, where a guard asks for it (or where there is none); Proved here: the contract of the entry of a body (Of); Proved here: the contract of the entry of a frame (Read); Plain arithmetic of geometries: what may be, how many segments; with more zones or fewer blocks; Proved here: contracts of the geometry's small numbers: within, small, Parts, Reserve, All; Proved here: the contract of the geometry's Segments; Proved here: the contract of the geometry's Right; Proved here: the contract of the geometry's Domain. -/
import Derived.LoopTactic
import Derived.Deep.Cut
import Derived.Deep.CutRange
import Derived.IntWalk
import Derived.RangeFuncNested
import Derived.RangeFuncBound
import Derived.RangeFuncCalls
import Derived.RangeFuncLeaves
import Derived.Shelf.Abstract
import Derived.Shelf.RegionOpen
import Derived.OwnWalkIn
import Derived.TacticsInMore
import Derived.LoopNIn
import Derived.LoopIn
import Derived.Laws.StructEq
import Derived.Laws.Rows
import Derived.Test.YtoiephmngdecaaaProg
import Derived.Below
import Derived.Deep.RegionHeld3
import Derived.Test.YtoiephmngdecaaaQa
namespace Go.Proofs.Ytoiephmngdecaaa
open Go.RowKit Go.Rv
set_option linter.unusedVariables false
set_option maxRecDepth 100000 in
set_option maxHeartbeats 4000000 in
theorem ecounts_core (e : En.E) (ib im bz r : Bool) (mx : Int) (w : World) (hl : e.bytes.length = 32)
    (HB' : ∀ W, Calls Try.prog 95 #[.int .i64 e.count, .int .i64 1, .int .i64 4] W fun x w' => x = .returned (.bool ib) ∧ W = w')
    (HM' : ∀ W, Calls Try.prog 95 #[.int .i64 e.many, .int .i64 1, .int .i64 mx] W fun x w' => x = .returned (.bool im) ∧ W = w')
    (hmx : mx = 256 - e.block) (hb0 : 0 ≤ e.block) (hb1 : e.block ≤ 255)
    (HZ' : ∀ W, (Op.equalIn 10000 63 (.agg (byteCells e.bytes)) (.agg (byteCells (List.replicate 32 0)))).run Try.prog W = .ok bz W)
    (hr : ((e.kind == 1) = true ∧ ib = false ∧ r = false) ∨ ((e.kind == 1) = true ∧ ib = true ∧ r = (e.many == 0)) ∨
      ((e.kind == 1) = false ∧ (e.kind == 2) = true ∧ (e.count == 1) = false ∧ r = false) ∨ ((e.kind == 1) = false ∧ (e.kind == 2) = true ∧ (e.count == 1) = true ∧ im = false ∧ r = false) ∨ ((e.kind == 1) = false ∧ (e.kind == 2) = true ∧ (e.count == 1) = true ∧ im = true ∧ r = bz) ∨
      ((e.kind == 1) = false ∧ (e.kind == 2) = false ∧ (e.kind == 3) = true ∧ (e.count == 1) = false ∧ r = false) ∨ ((e.kind == 1) = false ∧ (e.kind == 2) = false ∧ (e.kind == 3) = true ∧ (e.count == 1) = true ∧ r = (e.many == 0)) ∨ ((e.kind == 1) = false ∧ (e.kind == 2) = false ∧ (e.kind == 3) = false ∧ r = false)) :
    Calls Try.prog 96 #[.agg (EC e)] w fun x w' => x = .returned (.bool r) ∧ Below w.heap.size w w' := by
  have hg := heap_alloc_new w (.cells (EC e) 65)
  obtain ⟨c0, c1, c2, c3, c4, c5⟩ := ent_cells hg
  have hrg := ent_range hg
  have hB : Below w.heap.size w (w.alloc (.cells (EC e) 65)) := (Below.refl _ _).alloc (Nat.le_refl _) _
  have hib : (Try.prog.info? 63).map (·.size) = some (byteCells e.bytes).toList.length := by rw [Array.length_toList, size_byteCells, hl]; exact (zero_of_info Try.infoBlock).2
  have HIB := Lib.hid hib
  have HRG := Lib.hid hrg
  have hzb := (zero_of_info Try.infoBlock).1
  have HB := Lib.hid HB'
  have HM := Lib.hid HM'
  have HZ := Lib.hid HZ'
  have HR := Lib.hid hr
  have HX := Lib.hid hmx
  generalize EC e = C at *
  clear hg hr HB' HM' HZ' hmx hib hrg hl
  obtain ⟨BC, hBC⟩ : ∃ b, byteCells e.bytes = b := ⟨_, rfl⟩
  obtain ⟨ZC, hZC⟩ : ∃ b, byteCells (List.replicate 32 0) = b := ⟨_, rfl⟩
  rw [hBC] at HIB HRG HZ
  rw [hZC] at HZ hzb
  clear hBC hZC
  rcases HR.out with ⟨t1, rfl, rfl⟩ | ⟨t1, rfl, hr⟩ | ⟨t1, t2, t3, rfl⟩ | ⟨t1, t2, t3, rfl, rfl⟩ | ⟨t1, t2, t3, rfl, hr⟩ | ⟨t1, t2, t3, t4, rfl⟩ | ⟨t1, t2, t3, t4, hr⟩ | ⟨t1, t2, t3, rfl⟩
  · clear HR
    go_enter Try.func96, Try.ntmps96
    go_wp2_with fail
    refine (HB.out _).mono ?_
    rintro x w' ⟨rfl, rfl⟩
    go_wp2
    go_ret
    exact ⟨rfl, hB⟩
  · clear HR
    have HE := Lib.hid hr
    clear hr
    go_enter Try.func96, Try.ntmps96
    go_wp2_with fail
    refine (HB.out _).mono ?_
    rintro x w' ⟨rfl, rfl⟩
    go_wp2
    go_ret
    exact ⟨by rw [HE.out]; rfl, hB⟩
  · clear HR
    go_enter Try.func96, Try.ntmps96
    go_wp2
    go_ret
    exact ⟨rfl, hB⟩
  · clear HR
    go_enter Try.func96, Try.ntmps96
    go_wp2_with fail
    rw [← HX.out]
    refine (HM.out _).mono ?_
    rintro x w' ⟨rfl, rfl⟩
    go_wp2
    go_ret
    exact ⟨rfl, hB⟩
  · clear HR
    have HE := Lib.hid hr
    clear hr
    go_enter Try.func96, Try.ntmps96
    go_wp2_with fail
    rw [← HX.out]
    refine (HM.out _).mono ?_
    rintro x w' ⟨rfl, rfl⟩
    go_wp2_with (first | (refine wpList_load_mid_asked (by rfl) 63 _ rfl w.heap.size 6 rfl BC.toList _ HRG.out Try.underlying63 rfl HIB.out ?_) | (refine wpList_eql_asked (by rfl) 63 63 _ _ rfl BC ZC rfl rfl (by kernel_rfl) bz HZ.out ?_))
    go_ret
    exact ⟨by rw [HE.out]; rfl, hB⟩
  · clear HR
    go_enter Try.func96, Try.ntmps96
    go_wp2
    go_ret
    exact ⟨rfl, hB⟩
  · clear HR
    have HE := Lib.hid hr
    clear hr
    go_enter Try.func96, Try.ntmps96
    go_wp2
    go_ret
    exact ⟨by rw [HE.out]; rfl, hB⟩
  · clear HR
    go_enter Try.func96, Try.ntmps96
    go_wp2
    go_ret
    exact ⟨rfl, hB⟩
theorem ecounts_any (e : En.E) (w : World) (hb : EBody e) (hb0 : 0 ≤ e.block) (hb1 : e.block ≤ 255) :
    Calls Try.prog 96 #[.agg (EC e)] w fun x w' => x = .returned (.bool (En.counts e)) ∧ Below w.heap.size w w' := by
  refine ecounts_core e (En.inB e.count 1 4) (En.inB e.many 1 (256 - e.block)) (decide (e.bytes = List.replicate 32 0)) _ (256 - e.block) w hb.1 (fun W => ewithin_any _ _ _ W) (fun W => ewithin_any _ _ _ W) rfl hb0 hb1 (fun W => eq_block _ _ hb.1 (by simp) hb.2 (by simp) _ (by simp) W) ?_
  unfold En.counts
  cases h1 : (e.kind == 1)
  · cases h2 : (e.kind == 2)
    · cases h3 : (e.kind == 3)
      · exact .inr (.inr (.inr (.inr (.inr (.inr (.inr ⟨rfl, rfl, rfl, by simp⟩))))))
      · cases h4 : (e.count == 1)
        · exact .inr (.inr (.inr (.inr (.inr (.inl ⟨rfl, rfl, rfl, rfl, by simp⟩)))))
        · exact .inr (.inr (.inr (.inr (.inr (.inr (.inl ⟨rfl, rfl, rfl, rfl, by simp⟩))))))
    · cases h3 : (e.count == 1)
      · exact .inr (.inr (.inl ⟨rfl, rfl, rfl, by simp⟩))
      · cases h4 : En.inB e.many 1 (256 - e.block)
        · exact .inr (.inr (.inr (.inl ⟨rfl, rfl, rfl, rfl, by simp⟩)))
        · exact .inr (.inr (.inr (.inr (.inl ⟨rfl, rfl, rfl, rfl, by simp⟩))))
  · cases h2 : En.inB e.count 1 4
    · exact .inl ⟨rfl, rfl, by simp⟩
    · exact .inr (.inl ⟨rfl, rfl, by simp⟩)
set_option maxRecDepth 100000 in
set_option maxHeartbeats 4000000 in
theorem eright_any (e : En.E) (w : World) (hb : EBody e) :
    Calls Try.prog 75 #[.agg (EC e)] w fun x w' => x = .returned (.bool (En.right e)) ∧ Below w.heap.size w w' := by
  have hg := heap_alloc_new w (.cells (EC e) 65)
  obtain ⟨c0, c1, c2, c3, c4, c5⟩ := ent_cells hg
  have hB : Below w.heap.size w (w.alloc (.cells (EC e) 65)) := (Below.refl _ _).alloc (Nat.le_refl _) _
  have HRR : Hid (En.right e = (En.inB e.first 0 281474976710655 && (En.inB e.block 0 255 && (En.inB e.mate 0 65535 && En.counts e)))) := Lib.hid rfl
  have H0 := Lib.hid (fun W => ewithin_any e.first 0 281474976710655 W)
  have H1 := Lib.hid (fun W => ewithin_any e.block 0 255 W)
  have H2 := Lib.hid (fun W => ewithin_any e.mate 0 65535 W)
  have H3 := Lib.hid (fun W (h : En.inB e.block 0 255 = true) => ecounts_any e W hb (En.inB_iff.1 h).1 (En.inB_iff.1 h).2)
  have HIE := Lib.hid (size_ent hb.1)
  have HG := Lib.hid hg
  generalize En.inB e.first 0 281474976710655 = b0 at *
  generalize En.inB e.block 0 255 = b1 at *
  generalize En.inB e.mate 0 65535 = b2 at *
  generalize En.counts e = b3 at *
  generalize EC e = C at *
  clear hg
  go_enter Try.func75, Try.ntmps75
  go_wp2_with fail
  refine (H0.out _).mono ?_
  rintro x w' ⟨rfl, rfl⟩
  cases b0
  case false =>
    go_wp2
    go_ret
    exact ⟨by rw [HRR.out]; rfl, hB⟩
  go_wp2_with fail
  refine (H1.out _).mono ?_
  rintro x w' ⟨rfl, rfl⟩
  cases b1
  case false =>
    go_wp2
    go_ret
    exact ⟨by rw [HRR.out]; rfl, hB⟩
  go_wp2_with fail
  refine (H2.out _).mono ?_
  rintro x w' ⟨rfl, rfl⟩
  cases b2
  case false =>
    go_wp2
    go_ret
    exact ⟨by rw [HRR.out]; rfl, hB⟩
  go_wp2_with (refine wpList_load_row_asked (by rfl) 65 _ rfl w.heap.size rfl 65 _ _ _ HG.out Try.underlying65 rfl HIE.out ?_)
  refine (H3.out _ (by first | rfl | trivial)).mono ?_
  rintro x w' ⟨rfl, hB1⟩
  go_wp2
  go_ret
  exact ⟨by rw [HRR.out]; rfl, hB.trans (hB1.mono hB.size)⟩
end Go.Proofs.Ytoiephmngdecaaa
namespace En
/-- a right entry's body -/
def body (e : E) : List Nat := Cod.leN 6 e.first.toNat ++ Cod.leN 1 e.count.toNat ++ Cod.leN 1 e.block.toNat ++ Cod.leN 2 e.many.toNat ++ Cod.leN 2 e.mate.toNat ++ e.bytes
theorem body_length {e : E} (h : e.bytes.length = 32) : (body e).length = 44 := by simp [body, Cod.leN_length, h]
theorem right_nat {e : E} (h : right e = true) : ∃ f c b m t : Nat, e = ⟨e.kind, f, c, b, m, t, e.bytes⟩ ∧ f ≤ 281474976710655 ∧ 1 ≤ c ∧ c ≤ 4 ∧ b ≤ 255 ∧ m ≤ 256 ∧ t ≤ 65535 := by
  simp only [right, Bool.and_eq_true, inB_iff] at h
  obtain ⟨⟨h1, h2⟩, ⟨h3, h4⟩, ⟨h5, h6⟩, h7⟩ := h
  have hc : 1 ≤ e.count ∧ e.count ≤ 4 ∧ 0 ≤ e.many ∧ e.many ≤ 256 := by
    unfold counts at h7
    split at h7
    · simp only [Bool.and_eq_true, inB_iff, beq_iff_eq] at h7
      omega
    · split at h7
      · simp only [Bool.and_eq_true, inB_iff, beq_iff_eq] at h7
        omega
      · simp only [Bool.and_eq_true, beq_iff_eq] at h7
        omega
  refine ⟨e.first.toNat, e.count.toNat, e.block.toNat, e.many.toNat, e.mate.toNat, ?_, by omega, by omega, by omega, by omega, by omega, by omega⟩
  obtain ⟨k, f, c, b, m, t, l⟩ := e
  simp only at *
  simp only [E.mk.injEq, true_and, and_true]
  omega
theorem body_bytes {e : E} (h : ∀ c ∈ e.bytes, c < 256) : ∀ c ∈ body e, c < 256 := by
  intro c hc
  simp only [body, List.mem_append] at hc
  rcases hc with ((((hc | hc) | hc) | hc) | hc) | hc
  all_goals first | exact Cod.leN_lt _ _ _ hc | exact h c hc
end En
namespace Go.Proofs.Ytoiephmngdecaaa
open Go.RowKit Go.Rv
set_option linter.unusedVariables false
theorem size_body {l : List Nat} (h : l.length = 44) : (Try.prog.info? 57).map (·.size) = some (byteCells l).size := by rw [size_byteCells, h]; exact (zero_of_info Try.infoBody).2
/-- a body and an error -/
def BodPost (l : List Nat) (k : Int) (w : World) (e : Ending) (w' : World) : Prop := e = .returned (.tuple #[.agg (byteCells l), .int .i64 k]) ∧ Below w.heap.size w w'
set_option maxRecDepth 100000 in
set_option maxHeartbeats 1000000 in
theorem ebody_no (e : En.E) (w : World) (hb : EBody e) (hr : En.right e = false) :
    Calls Try.prog 65 #[.agg (EC e)] w (BodPost (List.replicate 44 0) 10 w) := by
  have hz := (zero_of_info Try.infoBody).1
  have hone := one_byteCells (List.replicate 44 0)
  have HI := Lib.hid (size_body (l := List.replicate 44 0) (by simp))
  have HIE := Lib.hid (size_ent hb.1)
  have HR := Lib.hid (fun W => eright_any e W hb)
  rw [hr] at HR
  generalize hC : EC e = C at *
  generalize hZ : byteCells (List.replicate 44 0) = Z at *
  have HZ := Lib.hid hZ
  clear hr hC hZ hb
  have hB0 := below3 w (.cells C 65) (.cells Z 57) (.cells Z 57)
  obtain ⟨hE0, hS0, hO0⟩ := alloc3_at w (.cells C 65) (.cells Z 57) (.cells Z 57)
  go_enter Try.func65, Try.ntmps65
  go_wp2_with (refine wpList_load_row rfl 65 _ rfl w.heap.size rfl 65 _ _ _ hE0 Try.underlying65 rfl HIE.out ?_)
  refine (HR.out _).mono ?_
  rintro x w1 ⟨rfl, hB1⟩
  have hS1 := (hB1.block (w.heap.size + 1) (by simp)).trans hS0
  have hO1 := (hB1.block (w.heap.size + 1 + 1) (by simp)).trans hO0
  have hB1' := hB0.trans (hB1.mono (by simp; omega))
  clear hE0 hS0 hO0
  go_wp2_with (first | (refine wpList_load_row rfl 57 _ rfl (w.heap.size + 1 + 1) rfl 57 _ _ _ hO1 Try.underlying57 rfl HI.out ?_) | (refine wpList_store_row rfl 57 _ _ rfl (w.heap.size + 1) Z rfl rfl 57 Z hS1 HI.out rfl hone ?_))
  refine bodyPost_ret (results_row_tmp rfl _ _ (w.heap.size + 1) 57 Z _ _ rfl (setRow_heap _ _ _ _ _ _ hS1) Try.underlying57 rfl HI.out) rfl ?_
  exact ⟨by rw [HZ.out]; rfl, below_setRow hB1' (by omega) _⟩
theorem pow_le {n m k : Nat} (h : n ≤ m) (hk : m < 256 ^ k) : n < 256 ^ k := by omega
set_option maxRecDepth 100000 in
set_option maxHeartbeats 4000000 in
theorem ebody_yes (e : En.E) (w : World) (hb : EBody e) (hr : En.right e = true) :
    Calls Try.prog 65 #[.agg (EC e)] w (BodPost (En.body e) 0 w) := by
  have hz := (zero_of_info Try.infoBody).1
  have hone := one_byteCells (En.body e)
  have HI := Lib.hid (size_body (En.body_length hb.1))
  have HI0 := Lib.hid (size_body (l := List.replicate 44 0) (by simp))
  have HIE := Lib.hid (size_ent hb.1)
  have HR := Lib.hid (fun W => eright_any e W hb)
  rw [hr] at HR
  have HFL := Lib.hid (En.body_length hb.1)
  obtain ⟨f, c, b, m, t, he, b1, b2, b3, b4, b5, b6⟩ := En.right_nat hr
  have hcells := fun (W : World) g t h => ent_cells (w := W) (g := g) (e := e) (t := t) h
  have hbody := fun (W : World) g t h => ent_bytes (w := W) (g := g) (e := e) (t := t) h hb.2
  unfold EntAt at hcells
  rw [show e.first = (f : Int) by rw [he], show e.count = (c : Int) by rw [he], show e.block = (b : Int) by rw [he], show e.many = (m : Int) by rw [he], show e.mate = (t : Int) by rw [he]] at hcells
  obtain ⟨q1, hq1⟩ : ∃ q, q = [] ++ Cod.leN 6 f := ⟨_, rfl⟩
  obtain ⟨q2, hq2⟩ : ∃ q, q = q1 ++ Cod.leN 1 c := ⟨_, rfl⟩
  obtain ⟨q3, hq3⟩ : ∃ q, q = q2 ++ Cod.leN 1 b := ⟨_, rfl⟩
  obtain ⟨q4, hq4⟩ : ∃ q, q = q3 ++ Cod.leN 2 m := ⟨_, rfl⟩
  obtain ⟨q5, hq5⟩ : ∃ q, q = q4 ++ Cod.leN 2 t := ⟨_, rfl⟩
  have hq6 : En.body e = q5 ++ e.bytes := by
    rw [hq5, hq4, hq3, hq2, hq1]
    conv => lhs; rw [he]
    rfl
  have l1 : q1.length = 6 := by rw [hq1]; simp [Cod.leN_length]
  have l2 : q2.length = 7 := by rw [hq2]; simp [l1, Cod.leN_length]
  have l3 : q3.length = 8 := by rw [hq3]; simp [l2, Cod.leN_length]
  have l4 : q4.length = 10 := by rw [hq4]; simp [l3, Cod.leN_length]
  have l5 : q5.length = 12 := by rw [hq5]; simp [l4, Cod.leN_length]
  have H1 := Lib.hid (fun g fp W hP hf => pen_to g fp [] q1 false 6 f 6 f W hP hf rfl rfl (by omega) (by omega) (pow_le b1 (by decide)) (by simp) hq1)
  have H2 := Lib.hid (fun g fp W hP hf => pen_to g fp q1 q2 false 1 c 1 c W hP hf rfl rfl (by omega) (by omega) (pow_le b3 (by decide)) (by omega) hq2)
  have H3 := Lib.hid (fun g fp W hP hf => pen_to g fp q2 q3 false 1 b 1 b W hP hf rfl rfl (by omega) (by omega) (pow_le b4 (by decide)) (by omega) hq3)
  have H4 := Lib.hid (fun g fp W hP hf => pen_to g fp q3 q4 false 2 m 2 m W hP hf rfl rfl (by omega) (by omega) (pow_le b5 (by decide)) (by omega) hq4)
  have H5 := Lib.hid (fun g fp W hP hf => pen_to g fp q4 q5 false 2 t 2 t W hP hf rfl rfl (by omega) (by omega) (pow_le b6 (by decide)) (by omega) hq5)
  have H6 := Lib.hid (fun g fp a W hP hf hb' hn => pen_bytes_to g fp q5 (En.body e) false a e.bytes 32 32 W hP hf hb' hn (by omega) (by have := hb.1; omega) hb.1 hq6)
  have HC := Lib.hid hcells
  have HB := Lib.hid hbody
  clear hq1 hq2 hq3 hq4 hq5 hq6 l1 l2 l3 l4 l5 hr hcells hbody he hb
  generalize hEC : EC e = C at *
  obtain ⟨Z, hZ⟩ : ∃ Z, byteCells (List.replicate 44 0) = Z := ⟨_, rfl⟩
  have HZ := Lib.hid hZ
  rw [hZ] at hz HI0
  clear hZ hEC
  have hB0 := below3 w (.cells C 65) (.cells Z 57) (.cells Z 57)
  obtain ⟨hF0, hS0, hO0⟩ := alloc3_at w (.cells C 65) (.cells Z 57) (.cells Z 57)
  go_enter Try.func65, Try.ntmps65
  go_wp2_with (refine wpList_load_row rfl 65 _ rfl w.heap.size rfl 65 _ _ _ hF0 Try.underlying65 rfl HIE.out ?_)
  refine (HR.out _).mono ?_
  rintro x w1 ⟨rfl, hB1⟩
  have z1 := hB1.size
  simp only [World.size_alloc] at z1
  have hF1 := (hB1.block w.heap.size (by simp; omega)).trans hF0
  have hS1 := (hB1.block (w.heap.size + 1) (by simp)).trans hS0
  have hO1 := (hB1.block (w.heap.size + 1 + 1) (by simp)).trans hO0
  have hB1' := hB0.trans (hB1.mono (by simp; omega))
  have hP1 := PenAt.new w1
  have hg := hP1.lt
  clear hF0 hS0 hO0 hB0 hB1
  have hba : Below w1.heap.size w1 (w1.alloc (.cells #[.slice none 0 0, .bool false] 148)) := (Below.refl _ _).alloc (Nat.le_refl _) _
  have hFb0 := (hba.block w.heap.size (by omega)).trans hF1
  have hSb0 := (hba.block (w.heap.size + 1) (by omega)).trans hS1
  have hOb0 := (hba.block (w.heap.size + 1 + 1) (by omega)).trans hO1
  have hBwb0 := hB1'.trans (hba.mono (by omega))
  have hfb0 : ∀ j, (none : Option Nat) = some j → w1.heap.size < j := fun j h => (by cases h)
  have hPb0 := hP1
  obtain ⟨cb00, cb01, cb02, cb03, cb04, cb05⟩ := HC.out _ _ _ hFb0
  clear hF1 hS1 hO1 hB1' hba hP1
  go_wp2_with fail
  refine (H1.out _ _ _ hPb0 hfb0).mono ?_
  rintro eb1 wb1 ⟨rfl, fb1, hPb1, hfb1, hBb1⟩
  have hFb1 := (hBb1.block w.heap.size (by omega)).trans hFb0
  have hSb1 := (hBb1.block (w.heap.size + 1) (by omega)).trans hSb0
  have hOb1 := (hBb1.block (w.heap.size + 1 + 1) (by omega)).trans hOb0
  have hBwb1 := hBwb0.trans (hBb1.mono (by omega))
  clear cb00 cb01 cb02 cb03 cb04 cb05
  obtain ⟨cb10, cb11, cb12, cb13, cb14, cb15⟩ := HC.out _ _ _ hFb1
  clear hFb0 hSb0 hOb0 hBwb0 hBb1
  go_wp2_with fail
  refine (H2.out _ _ _ hPb1 hfb1).mono ?_
  rintro eb2 wb2 ⟨rfl, fb2, hPb2, hfb2, hBb2⟩
  have hFb2 := (hBb2.block w.heap.size (by omega)).trans hFb1
  have hSb2 := (hBb2.block (w.heap.size + 1) (by omega)).trans hSb1
  have hOb2 := (hBb2.block (w.heap.size + 1 + 1) (by omega)).trans hOb1
  have hBwb2 := hBwb1.trans (hBb2.mono (by omega))
  clear cb10 cb11 cb12 cb13 cb14 cb15
  obtain ⟨cb20, cb21, cb22, cb23, cb24, cb25⟩ := HC.out _ _ _ hFb2
  clear hFb1 hSb1 hOb1 hBwb1 hBb2
  go_wp2_with fail
  refine (H3.out _ _ _ hPb2 hfb2).mono ?_
  rintro eb3 wb3 ⟨rfl, fb3, hPb3, hfb3, hBb3⟩
  have hFb3 := (hBb3.block w.heap.size (by omega)).trans hFb2
  have hSb3 := (hBb3.block (w.heap.size + 1) (by omega)).trans hSb2
  have hOb3 := (hBb3.block (w.heap.size + 1 + 1) (by omega)).trans hOb2
  have hBwb3 := hBwb2.trans (hBb3.mono (by omega))
  clear cb20 cb21 cb22 cb23 cb24 cb25
  obtain ⟨cb30, cb31, cb32, cb33, cb34, cb35⟩ := HC.out _ _ _ hFb3
  clear hFb2 hSb2 hOb2 hBwb2 hBb3
  go_wp2_with fail
  refine (H4.out _ _ _ hPb3 hfb3).mono ?_
  rintro eb4 wb4 ⟨rfl, fb4, hPb4, hfb4, hBb4⟩
  have hFb4 := (hBb4.block w.heap.size (by omega)).trans hFb3
  have hSb4 := (hBb4.block (w.heap.size + 1) (by omega)).trans hSb3
  have hOb4 := (hBb4.block (w.heap.size + 1 + 1) (by omega)).trans hOb3
  have hBwb4 := hBwb3.trans (hBb4.mono (by omega))
  clear cb30 cb31 cb32 cb33 cb34 cb35
  obtain ⟨cb40, cb41, cb42, cb43, cb44, cb45⟩ := HC.out _ _ _ hFb4
  clear hFb3 hSb3 hOb3 hBwb3 hBb4
  go_wp2_with fail
  refine (H5.out _ _ _ hPb4 hfb4).mono ?_
  rintro eb5 wb5 ⟨rfl, fb5, hPb5, hfb5, hBb5⟩
  have hFb5 := (hBb5.block w.heap.size (by omega)).trans hFb4
  have hSb5 := (hBb5.block (w.heap.size + 1) (by omega)).trans hSb4
  have hOb5 := (hBb5.block (w.heap.size + 1 + 1) (by omega)).trans hOb4
  have hBwb5 := hBwb4.trans (hBb5.mono (by omega))
  clear cb40 cb41 cb42 cb43 cb44 cb45
  obtain ⟨cb50, cb51, cb52, cb53, cb54, cb55⟩ := HC.out _ _ _ hFb5
  clear hFb4 hSb4 hOb4 hBwb4 hBb5
  go_wp2_with fail
  refine (H6.out _ _ _ _ hPb5 hfb5 (HB.out _ _ _ hFb5) (fun e => by cases e)).mono ?_
  rintro e8 w8 ⟨rfl, f8, hP8, hf8, hB8⟩
  have hS8 := (hB8.block (w.heap.size + 1) (by omega)).trans hSb5
  have hO8 := (hB8.block (w.heap.size + 1 + 1) (by omega)).trans hOb5
  have hBw8 := hBwb5.trans (hB8.mono (by omega))
  have hg8 := hP8.lt
  go_wp2_with fail
  refine (pen_out _ _ _ _ _ hP8 (by rw [HFL.out]; omega)).mono ?_
  rintro e9 w9 ⟨⟨v9, rfl, hown9, -⟩, hB9⟩
  simp only [Bool.false_eq_true, if_false] at hown9
  obtain ⟨a9, c9, rfl, hb9, hn9, -⟩ := hown9.bytes
  rw [HFL.out]
  have hS9 := (hB9.block (w.heap.size + 1) (by omega)).trans hS8
  have hO9 := (hB9.block (w.heap.size + 1 + 1) (by omega)).trans hO8
  have hBw9 := hBw8.trans (hB9.mono (by omega))
  have z9 := hB9.size
  clear hS8 hO8 hBw8 cb50 cb51 cb52 cb53 cb54 cb55
  obtain ⟨CS, hCS⟩ : ∃ CS, (En.body e).map bv = CS := ⟨_, rfl⟩
  obtain ⟨ZL, hZL⟩ : ∃ ZL, (List.replicate 44 0).map bv = ZL := ⟨_, rfl⟩
  have hcl : CS.length = 44 := by rw [← hCS, List.length_map, HFL.out]
  have hzl : ZL.length = 44 := by rw [← hZL]; simp
  have hZZ : Z = ZL.toArray := by rw [← HZ.out, ← hZL]; rfl
  have hO9' : w9.heap[w.heap.size + 1 + 1]? = some (.cells ZL.toArray 57 (0, 0)) := by rw [← hZZ]; exact hO9
  have hsrc : ∃ ad, a9 = some ad ∧ ∀ (j : Nat) (v : Value), CS[j]? = some v → w9.cell? (ad.add j) = some v := by
    have h := src_cells hb9 44 (by rw [List.length_map, List.length_take, HFL.out]; decide)
    rwa [List.take_of_length_le (by rw [HFL.out]; omega), hCS] at h
  have h1c : ∀ v ∈ CS, v.oneCell' = true := by
    intro v hv
    rw [← hCS] at hv
    obtain ⟨q, -, rfl⟩ := List.mem_map.1 hv
    rfl
  have hspl : Hid ((splice ZL 0 CS).toArray = byteCells (En.body e)) := Lib.hid (by
    rw [show splice ZL 0 CS = CS by simp [splice, hcl, hzl], ← hCS]
    rfl)
  have HZS : Hid (Z.size = (byteCells (En.body e)).size) := Lib.hid (by rw [hZZ, size_byteCells, HFL.out]; simpa using hzl)
  have HSRC := Lib.hid hsrc
  have H1C := Lib.hid h1c
  have HCL := Lib.hid hcl
  have HZL := Lib.hid hzl
  clear hsrc h1c hcl hzl hCS hZL hZZ hO9
  have hiU : (Try.prog.info? 5).map (·.size) = some 1 := by kernel_rfl
  have HIU := Lib.hid hiU
  clear hiU
  go_wp2_with (first | (refine wpList_copy_splice rfl (.tmp 34) (.tmp 35) 134 134 rfl 5 Try.underlying134 HIU.out _ _ 44 44 44 c9 rfl rfl (w.heap.size + 1 + 1) 0 ZL 57 hO9' CS (by rw [HCL.out]; rfl) (fun _ => ⟨rfl, HSRC.out⟩) (by rw [HCL.out, HZL.out]; omega) H1C.out (w.heap.size + 1 + 1) w9 (Below.refl _ _) (Nat.le_refl _) ?_; intro w10 hO10 hB10; have hO10' := hO10.out; rw [hspl.out] at hO10'; have hS10 := (hB10.block (w.heap.size + 1) (by omega)).trans hS9; have hBw10 := hBw9.trans (hB10.mono (by omega))) | (refine wpList_load_row rfl 57 _ rfl (w.heap.size + 1 + 1) rfl 57 _ _ _ hO10' Try.underlying57 rfl HI.out ?_) | (refine wpList_store_row rfl 57 _ _ rfl (w.heap.size + 1) (byteCells (En.body e)) rfl rfl 57 Z hS10 HI.out HZS.out hone ?_))
  refine bodyPost_ret (results_row_tmp rfl _ _ (w.heap.size + 1) 57 (byteCells (En.body e)) _ _ rfl (setRow_heap _ _ _ _ _ _ hS10) Try.underlying57 rfl HI.out) rfl ?_
  exact ⟨rfl, below_setRow hBw10 (by omega) _⟩
theorem ebody_any (e : En.E) (w : World) (hb : EBody e) :
    Calls Try.prog 65 #[.agg (EC e)] w (BodPost (if En.right e = true then En.body e else List.replicate 44 0) (if En.right e = true then 0 else 10) w) := by
  cases hr : En.right e
  · simpa [hr] using ebody_no e w hb hr
  · simpa [hr] using ebody_yes e w hb hr
end Go.Proofs.Ytoiephmngdecaaa
namespace En
/-- a body, read -/
def parse (kind : Int) (b : List Nat) : E := ⟨kind, (Cod.rd (b.take 6) : Nat), (Cod.rd ((b.drop 6).take 1) : Nat), (Cod.rd ((b.drop 7).take 1) : Nat), (Cod.rd ((b.drop 8).take 2) : Nat), (Cod.rd ((b.drop 10).take 2) : Nat), (b.drop 12).take 32⟩
def ofE (kind : Int) (b : List Nat) : E × Int := if right (parse kind b) = true then (parse kind b, 0) else (E.zero, 10)
theorem parse_bytes {kind : Int} {b : List Nat} (hl : b.length = 44) (hb : ∀ c ∈ b, c < 256) : (parse kind b).bytes.length = 32 ∧ ∀ c ∈ (parse kind b).bytes, c < 256 :=
  ⟨by simp [parse, hl], fun c hc => hb c (List.mem_of_mem_drop (List.mem_of_mem_take hc))⟩
/-- what has been read has that body -/
theorem body_parse {kind : Int} {b : List Nat} (hl : b.length = 44) (hb : ∀ c ∈ b, c < 256) : body (parse kind b) = b := by
  have h : ∀ (k n : Nat), k + n ≤ 44 → Cod.leN n (Cod.rd ((b.drop k).take n)) = (b.drop k).take n := fun k n hk => by
    have := Cod.leN_rd ((b.drop k).take n) (fun c hc => hb c (List.mem_of_mem_drop (List.mem_of_mem_take hc)))
    rwa [show ((b.drop k).take n).length = n by simp [hl]; omega] at this
  have h0 : Cod.leN 6 (Cod.rd (b.take 6)) = b.take 6 := by have := h 0 6 (by omega); simpa using this
  unfold body parse
  simp only [Int.toNat_natCast]
  rw [h0, h 6 1 (by omega), h 7 1 (by omega), h 8 2 (by omega), h 10 2 (by omega)]
  have s : ∀ k n, (b.drop k).take n ++ b.drop (k + n) = b.drop k := fun k n => by
    have := List.take_append_drop n (b.drop k)
    rwa [List.drop_drop] at this
  rw [List.take_of_length_le (i := 32) (by simp [hl])]
  simp only [List.append_assoc]
  rw [s 10 2, s 8 2, s 7 1, s 6 1, List.take_append_drop]
theorem take_app_rd {x y : List Nat} (n : Nat) (h : x.length = n) : (x ++ y).take n = x := by rw [← h]; simp
theorem drop_app_rd {x y : List Nat} (n : Nat) (h : x.length = n) : (x ++ y).drop n = y := by rw [← h]; simp
/-- a right entry is read from its body -/
theorem parse_body {e : E} (hr : right e = true) (hl : e.bytes.length = 32) : parse e.kind (body e) = e := by
  obtain ⟨f, c, b, m, t, he, h1, h2, h3, h4, h5, h6⟩ := right_nat hr
  obtain ⟨k, f', c', b', m', t', l⟩ := e
  simp only [E.mk.injEq, true_and, and_true] at he hl
  obtain ⟨rfl, rfl, rfl, rfl, rfl⟩ := he
  have p1 : (256 : Nat) ^ 6 = 281474976710656 := by decide
  have p2 : (256 : Nat) ^ 2 = 65536 := by decide
  have p3 : (256 : Nat) ^ 1 = 256 := by decide
  unfold body parse
  simp only [Int.toNat_natCast]
  have L := Cod.leN_length
  have e1 : (Cod.leN 6 f ++ Cod.leN 1 c ++ Cod.leN 1 b ++ Cod.leN 2 m ++ Cod.leN 2 t ++ l) = Cod.leN 6 f ++ (Cod.leN 1 c ++ (Cod.leN 1 b ++ (Cod.leN 2 m ++ (Cod.leN 2 t ++ l)))) := by simp only [List.append_assoc]
  rw [e1]
  have a6 : (Cod.leN 6 f ++ (Cod.leN 1 c ++ (Cod.leN 1 b ++ (Cod.leN 2 m ++ (Cod.leN 2 t ++ l))))).drop 6 = Cod.leN 1 c ++ (Cod.leN 1 b ++ (Cod.leN 2 m ++ (Cod.leN 2 t ++ l))) := drop_app_rd 6 (L _ _)
  have a7 : (Cod.leN 6 f ++ (Cod.leN 1 c ++ (Cod.leN 1 b ++ (Cod.leN 2 m ++ (Cod.leN 2 t ++ l))))).drop 7 = Cod.leN 1 b ++ (Cod.leN 2 m ++ (Cod.leN 2 t ++ l)) := by
    rw [show (7 : Nat) = 6 + 1 by rfl, ← List.drop_drop, a6]; exact drop_app_rd 1 (L _ _)
  have a8 : (Cod.leN 6 f ++ (Cod.leN 1 c ++ (Cod.leN 1 b ++ (Cod.leN 2 m ++ (Cod.leN 2 t ++ l))))).drop 8 = Cod.leN 2 m ++ (Cod.leN 2 t ++ l) := by
    rw [show (8 : Nat) = 7 + 1 by rfl, ← List.drop_drop, a7]; exact drop_app_rd 1 (L _ _)
  have a10 : (Cod.leN 6 f ++ (Cod.leN 1 c ++ (Cod.leN 1 b ++ (Cod.leN 2 m ++ (Cod.leN 2 t ++ l))))).drop 10 = Cod.leN 2 t ++ l := by
    rw [show (10 : Nat) = 8 + 2 by rfl, ← List.drop_drop, a8]; exact drop_app_rd 2 (L _ _)
  have a12 : (Cod.leN 6 f ++ (Cod.leN 1 c ++ (Cod.leN 1 b ++ (Cod.leN 2 m ++ (Cod.leN 2 t ++ l))))).drop 12 = l := by
    rw [show (12 : Nat) = 10 + 2 by rfl, ← List.drop_drop, a10]; exact drop_app_rd 2 (L _ _)
  rw [a6, a7, a8, a10, a12, take_app_rd 6 (L _ _), take_app_rd 1 (L _ _), take_app_rd 1 (L _ _), take_app_rd 2 (L _ _), take_app_rd 2 (L _ _), List.take_of_length_le (by omega)]
  rw [Cod.rd_leN 6 f (by omega), Cod.rd_leN 1 c (by omega), Cod.rd_leN 1 b (by omega), Cod.rd_leN 2 m (by omega), Cod.rd_leN 2 t (by omega)]
end En
namespace Go.Proofs.Ytoiephmngdecaaa
open Go.RowKit Go.Rv
set_option linter.unusedVariables false
/-- k bytes are filled -/
def filled (x k : Nat) : List Nat := List.replicate k x ++ List.replicate (32 - k) 0
theorem filled_length (x k : Nat) (h : k ≤ 32) : (filled x k).length = 32 := by simp [filled]; omega
theorem filled_set (x k : Nat) (h : k < 32) : (filled x k).set k x = filled x (k + 1) := by
  unfold filled
  rw [List.set_append_right _ _ (by simp), List.length_replicate, Nat.sub_self, show 32 - k = (32 - (k + 1)) + 1 by omega, List.replicate_succ, List.set_cons_zero, List.replicate_succ', List.append_assoc]
  rfl
theorem filled_all (x : Nat) : filled x 32 = List.replicate 32 x := by simp [filled]
theorem size_blk {l : List Nat} (h : l.length = 32) : (Try.prog.info? 63).map (·.size) = some (byteCells l).size := by rw [size_byteCells, h]; exact (zero_of_info Try.infoBlock).2
theorem results_row1 {P : Program} {fn : Func} {p : Tmp} {ty : TypeId} (h : fn.results = #[.cell p ty]) (tmps : Array Value) (w : World) (g : Nat) (t : TypeId) (cs : Array Value) (fr : Nat × Nat) (d : TypeDesc)
    (hp : tmps.getD p undef = .pointer (some ⟨g, 0, none⟩)) (hg : w.heap[g]? = some (.cells cs t fr))
    (hu : P.underlying ty = some d) (hd : (match d with | .struct _ | .array _ _ => true | _ => false) = true) (hi : (P.info? ty).map (·.size) = some cs.size) :
    (results fn tmps).run P w = .ok (.agg cs) w := by
  have hp' : tmps[p]?.getD undef = .pointer (some ⟨g, 0, none⟩) := by simpa using hp
  simp [results, h, hp', asAddr, run_loadVar_row w g t ty cs fr d hg hu hd hi]
end Go.Proofs.Ytoiephmngdecaaa
namespace Go.Proofs.Ytoiephmngdecaaa
open Go.RowKit Go.Rv Frm
set_option linter.unusedVariables false
/-- what a place's sector says -/
def atF (s : List Nat) (zone off : Int) : Fr × Int :=
  if (decF s).2 ≠ 0 then (Fr.zero, (decF s).2) else if (decF s).1.zone ≠ zone ∨ (decF s).1.off ≠ off then (Fr.zero, 12) else ((decF s).1, 0)
theorem dec_body (s : List Nat) (hl : s.length = 64) : (decF s).1.body.length = 44 := by
  unfold decF
  split
  · split
    · simp only [parseF]; simp; omega
    · simp [Fr.zero]
  · simp [Fr.zero]
end Go.Proofs.Ytoiephmngdecaaa
namespace Go.Rv
open Go.RowKit
theorem wpList_build_asked {P : Program} {ops : Array Oper} {rest : List Oper} {o : Oper} {a : Act} {w : World} {Q : Exit → Act → World → Prop} (hgd : Region.wanted o (yielded ops a.tmps) = true) (ty : TypeId) (parts : Array (Nat × Operand)) (ho : o.op = .build ty parts)
    (ps : Array (Nat × Value)) (hp : parts.map (fun (i, x) => (i, a.eval x)) = ps) (cells : Array Value) (hr : P.built ty ps.toList = some cells)
    (h : wpList P ops Q rest (a.put o.dst (.agg cells)) w) : wpList P ops Q (o :: rest) a w := by
  unfold wpList
  rw [if_pos hgd]
  refine .inl ?_
  unfold Oper.wp execOp
  have h1 := run_build (P := P) w ty ps cells hr
  simp only [ho, hp, Sem.run_bind, Sem.run_pure, h1, Result.andThen_ok]
  exact h
end Go.Rv
namespace Go.Proofs.Ytoiephmngdecaaa
open Go.RowKit Go.Rv Frm
set_option linter.unusedVariables false
theorem list_fn (b : List Nat) (n : Nat) (h : b.length = n) : ∃ f : Nat → Nat, b = (List.range n).map f := by
  refine ⟨fun i => b.getD i 0, ?_⟩
  apply List.ext_getElem?
  intro i
  by_cases hi : i < n
  · rw [List.getElem?_eq_getElem (by omega), List.getElem?_map, List.getElem?_range hi]
    simp [List.getD_eq_getElem?_getD, List.getElem?_eq_getElem (show i < b.length by omega)]
  · rw [List.getElem?_eq_none (by omega), List.getElem?_eq_none (by simp; omega)]
theorem built_frame (k z o e s : Int) (b : List Nat) (hl : b.length = 44) : Try.prog.built 68 [(0, .int .i64 k), (1, .int .i64 z), (2, .int .i64 o), (3, .int .i64 e), (4, .int .i64 s), (5, .agg (byteCells b))] = some (FC ⟨k, z, o, e, s, b⟩) := by
  obtain ⟨f, rfl⟩ := list_fn b 44 hl
  kernel_rfl
set_option maxRecDepth 100000 in
set_option maxHeartbeats 4000000 in
theorem eframe_core (e : En.E) (zone off epoch seq : Int) (b : List Nat) (g : Int) (rf : Bool) (r : Fr × Int) (w : World) (hb : EBody e) (hbl : b.length = 44) (hbb : ∀ c ∈ b, c < 256)
    (HBO' : ∀ W, Calls Try.prog 65 #[.agg (EC e)] W fun x w' => x = .returned (.tuple #[.agg (byteCells b), .int .i64 g]) ∧ Below W.heap.size W w')
    (HRF' : ∀ W, Calls Try.prog 66 #[.agg (FC ⟨e.kind, zone, off, epoch, seq, b⟩)] W fun x w' => x = .returned (.bool rf) ∧ Below W.heap.size W w')
    (hr : ((g != 0) = true ∧ r = (Fr.zero, 10)) ∨ ((g != 0) = false ∧ rf = false ∧ r = (Fr.zero, 10)) ∨ ((g != 0) = false ∧ rf = true ∧ decide (seq < e.first) = true ∧ r = (Fr.zero, 10)) ∨
      ((g != 0) = false ∧ rf = true ∧ decide (seq < e.first) = false ∧ IntKind.i64.wrap (seq - e.count) = seq - e.count ∧ decide (e.first ≤ seq - e.count) = true ∧ r = (Fr.zero, 10)) ∨
      ((g != 0) = false ∧ rf = true ∧ decide (seq < e.first) = false ∧ IntKind.i64.wrap (seq - e.count) = seq - e.count ∧ decide (e.first ≤ seq - e.count) = false ∧ r = (⟨e.kind, zone, off, epoch, seq, b⟩, 0))) :
    Calls Try.prog 47 #[.agg (EC e), .int .i64 zone, .int .i64 off, .int .i64 epoch, .int .i64 seq] w (FrmPost r w) := by
  have hzF := (zero_of_info Try.infoFrame).1
  have HBZ' : Try.prog.built 68 [] = some (FC Fr.zero) := by kernel_rfl
  have hzB := (zero_of_info Try.infoBody).1
  have HIE := Lib.hid (size_ent hb.1)
  have HIF := Lib.hid (size_frm (f := Fr.zero) (by simp [Fr.zero]))
  have HIX := Lib.hid (size_frm (f := ⟨e.kind, zone, off, epoch, seq, b⟩) hbl)
  have h1F := Lib.hid (FC_one Fr.zero)
  have h1X := Lib.hid (FC_one ⟨e.kind, zone, off, epoch, seq, b⟩)
  have HIB := Lib.hid (size_body hbl)
  have h1B := Lib.hid (one_byteCells b)
  have HZB := Lib.hid (show (byteCells (List.replicate 44 0)).size = (byteCells b).size by rw [size_byteCells, size_byteCells, hbl]; rfl)
  have HBO := Lib.hid HBO'
  have HR := Lib.hid hr
  have hE0 := heap_alloc2_old w (.cells (EC e) 65) (.cells (FC Fr.zero) 68)
  have hF0 := heap_alloc2_new w (.cells (EC e) 65) (.cells (FC Fr.zero) 68)
  have hB0 := ((Below.refl w.heap.size w).alloc (Nat.le_refl _) (.cells (EC e) 65)).alloc (by simp) (.cells (FC Fr.zero) 68)
  have HCE := Lib.hid (fun (W : World) (h : W.heap[w.heap.size]? = some (.cells (EC e) 65 (0, 0))) => ent_cells h)
  have hbuild := built_frame e.kind zone off epoch seq b hbl
  obtain ⟨X, hX⟩ : ∃ X, FC ⟨e.kind, zone, off, epoch, seq, b⟩ = X := ⟨_, rfl⟩
  rw [hX] at hbuild HIX h1X HRF'
  have HX := Lib.hid hX
  have HBU := Lib.hid hbuild
  clear hX hbuild
  have HRF := Lib.hid HRF'
  clear HBO' HRF' hr
  obtain ⟨ZF, hZF⟩ : ∃ Z, FC Fr.zero = Z := ⟨_, rfl⟩
  obtain ⟨ZB, hZB⟩ : ∃ Z, byteCells (List.replicate 44 0) = Z := ⟨_, rfl⟩
  have HZF := Lib.hid hZF
  rw [hZF] at hzF HIF h1F hE0 hF0 hB0 HBZ'
  have HBZ := Lib.hid HBZ'
  clear HBZ'
  rw [hZB] at hzB HZB
  clear hZF hZB
  generalize hBC : byteCells b = BC at *
  generalize hEC : EC e = C at *
  clear hBC hEC
  go_enter Try.func47, Try.ntmps47
  go_wp2_with (refine wpList_load_row rfl 65 _ rfl w.heap.size rfl 65 _ _ _ hE0 Try.underlying65 rfl HIE.out ?_)
  refine (HBO.out _).mono ?_
  rintro x w1 ⟨rfl, hB1⟩
  have z1 := hB1.size
  simp only [World.size_alloc] at z1
  have hE1 := (hB1.block w.heap.size (by simp; omega)).trans hE0
  have hF1 := (hB1.block (w.heap.size + 1) (by simp)).trans hF0
  have hB1' := hB0.trans (hB1.mono (by simp; omega))
  obtain ⟨W2, hW2⟩ : ∃ W2, w1.alloc (.cells BC 57) = W2 := ⟨_, rfl⟩
  have hba := (Below.refl w1.heap.size w1).alloc (Nat.le_refl _) (.cells BC 57)
  have hM2 := heap_alloc_new w1 (.cells BC 57)
  have z2 : (w1.alloc (.cells BC 57)).heap.size = w1.heap.size + 1 := by simp
  rw [hW2] at hba hM2 z2
  have hE2 := (hba.block w.heap.size (by omega)).trans hE1
  have hF2 := (hba.block (w.heap.size + 1) (by omega)).trans hF1
  have hB2 := hB1'.trans (hba.mono (by omega))
  obtain ⟨W3, hW3⟩ : ∃ W3, W2.alloc (.cells X 68) = W3 := ⟨_, rfl⟩
  have hbb2 := (Below.refl W2.heap.size W2).alloc (Nat.le_refl _) (.cells X 68)
  have hX3 := heap_alloc_new W2 (.cells X 68)
  have z3 : (W2.alloc (.cells X 68)).heap.size = W2.heap.size + 1 := by simp
  rw [hW3] at hbb2 hX3 z3
  have hE3 := (hbb2.block w.heap.size (by omega)).trans hE2
  have hF3 := (hbb2.block (w.heap.size + 1) (by omega)).trans hF2
  have hB3 := hB2.trans (hbb2.mono (by omega))
  have HW2 := Lib.hid hW2
  have HW3 := Lib.hid hW3
  have HZX : Hid (ZF.size = X.size) := Lib.hid (by have h1 := HIF.out; rw [HIX.out] at h1; simpa using h1.symm)
  have C2 := Lib.hid (HCE.out _ hE2)
  have C3 := Lib.hid (HCE.out _ hE3)
  have HZ2 := Lib.hid z2
  have HZ3 := Lib.hid z3
  clear hE0 hF0 hE1 hF1 hB0 hB1 hW2 hW3 hba hbb2 hE2 z2 z3
  rcases HR.out with ⟨t1, rfl⟩ | ⟨t1, rfl, rfl⟩ | ⟨t1, rfl, t2, rfl⟩ | ⟨t1, rfl, t2, t3, t4, rfl⟩ | ⟨t1, rfl, t2, t3, t4, rfl⟩
  · clear HR
    go_upto_region 3 with (first | (refine wpList_store_row rfl 57 _ _ rfl w1.heap.size BC rfl rfl 57 ZB (heap_alloc_new w1 _) HIB.out HZB.out h1B.out ?_; rw [World.setRow_alloc_new, HW2.out]; obtain ⟨c0, c1, c2, c3, c4, c5⟩ := C2.out) | (refine wpList_load_row rfl 57 _ rfl w1.heap.size rfl 57 _ _ _ hM2 Try.underlying57 rfl HIB.out ?_) | (refine wpList_build_asked (by rfl) 68 _ rfl #[(0, .int .i64 e.kind), (1, .int .i64 zone), (2, .int .i64 off), (3, .int .i64 epoch), (4, .int .i64 seq), (5, .agg BC)] (by simp [Act.eval, Act.put]) X HBU.out ?_) | (refine wpList_store_row rfl 68 _ _ rfl W2.heap.size X rfl rfl 68 ZF (heap_alloc_new W2 _) HIX.out HZX.out h1X.out ?_; rw [World.setRow_alloc_new, HW3.out]; clear c0 c1 c2 c3 c4 c5; obtain ⟨c0, c1, c2, c3, c4, c5⟩ := C3.out))
    go_upto_region 4 with (fail)
    go_wp2_with (first | (refine wpList_build_asked (by rfl) 68 _ rfl #[] (by rfl) ZF HBZ.out ?_) | (refine wpList_store_row rfl 68 _ _ rfl (w.heap.size + 1) ZF rfl rfl 68 ZF hF3 HIF.out rfl h1F.out ?_))
    refine bodyPost_ret (results_row_tmp rfl _ _ (w.heap.size + 1) 68 ZF _ _ rfl (setRow_heap _ _ _ _ _ _ hF3) Try.underlying68 rfl HIF.out) rfl ?_
    exact ⟨by rw [HZF.out]; rfl, below_setRow hB3 (by omega) _⟩
  · clear HR
    go_wp2_with (first | (refine wpList_store_row rfl 57 _ _ rfl w1.heap.size BC rfl rfl 57 ZB (heap_alloc_new w1 _) HIB.out HZB.out h1B.out ?_; rw [World.setRow_alloc_new, HW2.out]; obtain ⟨c0, c1, c2, c3, c4, c5⟩ := C2.out) | (refine wpList_load_row rfl 57 _ rfl w1.heap.size rfl 57 _ _ _ hM2 Try.underlying57 rfl HIB.out ?_) | (refine wpList_build_asked (by rfl) 68 _ rfl #[(0, .int .i64 e.kind), (1, .int .i64 zone), (2, .int .i64 off), (3, .int .i64 epoch), (4, .int .i64 seq), (5, .agg BC)] (by simp [Act.eval, Act.put]) X HBU.out ?_) | (refine wpList_store_row rfl 68 _ _ rfl W2.heap.size X rfl rfl 68 ZF (heap_alloc_new W2 _) HIX.out HZX.out h1X.out ?_; rw [World.setRow_alloc_new, HW3.out]; clear c0 c1 c2 c3 c4 c5; obtain ⟨c0, c1, c2, c3, c4, c5⟩ := C3.out) | (refine wpList_load_row_asked (by rfl) 68 _ rfl W2.heap.size rfl 68 _ _ _ hX3 Try.underlying68 rfl HIX.out ?_))
    refine (HRF.out _).mono ?_
    rintro x w4 ⟨rfl, hB4⟩
    have z4 := hB4.size
    have z2 := HZ2.out
    have z3 := HZ3.out
    have hF4 := (hB4.block (w.heap.size + 1) (by omega)).trans hF3
    have hX4 := (hB4.block W2.heap.size (by omega)).trans hX3
    have hE4 := HCE.out _ ((hB4.block w.heap.size (by omega)).trans hE3)
    have hB5 := hB3.trans (hB4.mono (by omega))
    clear c0 c1 c2 c3 c4 c5
    obtain ⟨c0, c1, c2, c3, c4, c5⟩ := hE4
    clear hX3 hE3 hF3 z2 z3
    go_upto_region 4 with (fail)
    go_wp2_with (first | (refine wpList_build_asked (by rfl) 68 _ rfl #[] (by rfl) ZF HBZ.out ?_) | (refine wpList_store_row rfl 68 _ _ rfl (w.heap.size + 1) ZF rfl rfl 68 ZF hF4 HIF.out rfl h1F.out ?_))
    refine bodyPost_ret (results_row_tmp rfl _ _ (w.heap.size + 1) 68 ZF _ _ rfl (setRow_heap _ _ _ _ _ _ hF4) Try.underlying68 rfl HIF.out) rfl ?_
    exact ⟨by rw [HZF.out]; rfl, below_setRow hB5 (by omega) _⟩
  · clear HR
    go_wp2_with (first | (refine wpList_store_row rfl 57 _ _ rfl w1.heap.size BC rfl rfl 57 ZB (heap_alloc_new w1 _) HIB.out HZB.out h1B.out ?_; rw [World.setRow_alloc_new, HW2.out]; obtain ⟨c0, c1, c2, c3, c4, c5⟩ := C2.out) | (refine wpList_load_row rfl 57 _ rfl w1.heap.size rfl 57 _ _ _ hM2 Try.underlying57 rfl HIB.out ?_) | (refine wpList_build_asked (by rfl) 68 _ rfl #[(0, .int .i64 e.kind), (1, .int .i64 zone), (2, .int .i64 off), (3, .int .i64 epoch), (4, .int .i64 seq), (5, .agg BC)] (by simp [Act.eval, Act.put]) X HBU.out ?_) | (refine wpList_store_row rfl 68 _ _ rfl W2.heap.size X rfl rfl 68 ZF (heap_alloc_new W2 _) HIX.out HZX.out h1X.out ?_; rw [World.setRow_alloc_new, HW3.out]; clear c0 c1 c2 c3 c4 c5; obtain ⟨c0, c1, c2, c3, c4, c5⟩ := C3.out) | (refine wpList_load_row_asked (by rfl) 68 _ rfl W2.heap.size rfl 68 _ _ _ hX3 Try.underlying68 rfl HIX.out ?_))
    refine (HRF.out _).mono ?_
    rintro x w4 ⟨rfl, hB4⟩
    have z4 := hB4.size
    have z2 := HZ2.out
    have z3 := HZ3.out
    have hF4 := (hB4.block (w.heap.size + 1) (by omega)).trans hF3
    have hX4 := (hB4.block W2.heap.size (by omega)).trans hX3
    have hE4 := HCE.out _ ((hB4.block w.heap.size (by omega)).trans hE3)
    have hB5 := hB3.trans (hB4.mono (by omega))
    clear c0 c1 c2 c3 c4 c5
    obtain ⟨c0, c1, c2, c3, c4, c5⟩ := hE4
    clear hX3 hE3 hF3 z2 z3
    go_upto_region 4 with (fail)
    go_wp2_with (first | (refine wpList_build_asked (by rfl) 68 _ rfl #[] (by rfl) ZF HBZ.out ?_) | (refine wpList_store_row rfl 68 _ _ rfl (w.heap.size + 1) ZF rfl rfl 68 ZF hF4 HIF.out rfl h1F.out ?_))
    refine bodyPost_ret (results_row_tmp rfl _ _ (w.heap.size + 1) 68 ZF _ _ rfl (setRow_heap _ _ _ _ _ _ hF4) Try.underlying68 rfl HIF.out) rfl ?_
    exact ⟨by rw [HZF.out]; rfl, below_setRow hB5 (by omega) _⟩
  · clear HR
    go_wp2_with (first | (refine wpList_store_row rfl 57 _ _ rfl w1.heap.size BC rfl rfl 57 ZB (heap_alloc_new w1 _) HIB.out HZB.out h1B.out ?_; rw [World.setRow_alloc_new, HW2.out]; obtain ⟨c0, c1, c2, c3, c4, c5⟩ := C2.out) | (refine wpList_load_row rfl 57 _ rfl w1.heap.size rfl 57 _ _ _ hM2 Try.underlying57 rfl HIB.out ?_) | (refine wpList_build_asked (by rfl) 68 _ rfl #[(0, .int .i64 e.kind), (1, .int .i64 zone), (2, .int .i64 off), (3, .int .i64 epoch), (4, .int .i64 seq), (5, .agg BC)] (by simp [Act.eval, Act.put]) X HBU.out ?_) | (refine wpList_store_row rfl 68 _ _ rfl W2.heap.size X rfl rfl 68 ZF (heap_alloc_new W2 _) HIX.out HZX.out h1X.out ?_; rw [World.setRow_alloc_new, HW3.out]; clear c0 c1 c2 c3 c4 c5; obtain ⟨c0, c1, c2, c3, c4, c5⟩ := C3.out) | (refine wpList_load_row_asked (by rfl) 68 _ rfl W2.heap.size rfl 68 _ _ _ hX3 Try.underlying68 rfl HIX.out ?_))
    refine (HRF.out _).mono ?_
    rintro x w4 ⟨rfl, hB4⟩
    have z4 := hB4.size
    have z2 := HZ2.out
    have z3 := HZ3.out
    have hF4 := (hB4.block (w.heap.size + 1) (by omega)).trans hF3
    have hX4 := (hB4.block W2.heap.size (by omega)).trans hX3
    have hE4 := HCE.out _ ((hB4.block w.heap.size (by omega)).trans hE3)
    have hB5 := hB3.trans (hB4.mono (by omega))
    clear c0 c1 c2 c3 c4 c5
    obtain ⟨c0, c1, c2, c3, c4, c5⟩ := hE4
    clear hX3 hE3 hF3 z2 z3
    go_upto_region 4 with (fail)
    go_wp2_with (first | (refine wpList_build_asked (by rfl) 68 _ rfl #[] (by rfl) ZF HBZ.out ?_) | (refine wpList_store_row rfl 68 _ _ rfl (w.heap.size + 1) ZF rfl rfl 68 ZF hF4 HIF.out rfl h1F.out ?_))
    refine bodyPost_ret (results_row_tmp rfl _ _ (w.heap.size + 1) 68 ZF _ _ rfl (setRow_heap _ _ _ _ _ _ hF4) Try.underlying68 rfl HIF.out) rfl ?_
    exact ⟨by rw [HZF.out]; rfl, below_setRow hB5 (by omega) _⟩
  · clear HR
    go_wp2_with (first | (refine wpList_store_row rfl 57 _ _ rfl w1.heap.size BC rfl rfl 57 ZB (heap_alloc_new w1 _) HIB.out HZB.out h1B.out ?_; rw [World.setRow_alloc_new, HW2.out]; obtain ⟨c0, c1, c2, c3, c4, c5⟩ := C2.out) | (refine wpList_load_row rfl 57 _ rfl w1.heap.size rfl 57 _ _ _ hM2 Try.underlying57 rfl HIB.out ?_) | (refine wpList_build_asked (by rfl) 68 _ rfl #[(0, .int .i64 e.kind), (1, .int .i64 zone), (2, .int .i64 off), (3, .int .i64 epoch), (4, .int .i64 seq), (5, .agg BC)] (by simp [Act.eval, Act.put]) X HBU.out ?_) | (refine wpList_store_row rfl 68 _ _ rfl W2.heap.size X rfl rfl 68 ZF (heap_alloc_new W2 _) HIX.out HZX.out h1X.out ?_; rw [World.setRow_alloc_new, HW3.out]; clear c0 c1 c2 c3 c4 c5; obtain ⟨c0, c1, c2, c3, c4, c5⟩ := C3.out) | (refine wpList_load_row_asked (by rfl) 68 _ rfl W2.heap.size rfl 68 _ _ _ hX3 Try.underlying68 rfl HIX.out ?_))
    refine (HRF.out _).mono ?_
    rintro x w4 ⟨rfl, hB4⟩
    have z4 := hB4.size
    have z2 := HZ2.out
    have z3 := HZ3.out
    have hF4 := (hB4.block (w.heap.size + 1) (by omega)).trans hF3
    have hX4 := (hB4.block W2.heap.size (by omega)).trans hX3
    have hE4 := HCE.out _ ((hB4.block w.heap.size (by omega)).trans hE3)
    have hB5 := hB3.trans (hB4.mono (by omega))
    clear c0 c1 c2 c3 c4 c5
    obtain ⟨c0, c1, c2, c3, c4, c5⟩ := hE4
    clear hX3 hE3 hF3 z2 z3
    go_wp2_with (first | (refine wpList_load_row rfl 68 _ rfl W2.heap.size rfl 68 _ _ _ hX4 Try.underlying68 rfl HIX.out ?_) | (refine wpList_store_row rfl 68 _ _ rfl (w.heap.size + 1) X rfl rfl 68 ZF hF4 HIX.out HZX.out h1X.out ?_))
    refine bodyPost_ret (results_row_tmp rfl _ _ (w.heap.size + 1) 68 X _ _ rfl (setRow_heap _ _ _ _ _ _ hF4) Try.underlying68 rfl HIX.out) rfl ?_
    exact ⟨by rw [HX.out]; rfl, below_setRow hB5 (by omega) _⟩
/-- the frame that an entry has, and an error -/
def frameE (e : En.E) (zone off epoch seq : Int) : Fr × Int :=
  if En.right e = true ∧ rightF ⟨e.kind, zone, off, epoch, seq, En.body e⟩ = true ∧ e.first ≤ seq ∧ seq < e.first + e.count then (⟨e.kind, zone, off, epoch, seq, En.body e⟩, 0) else (Fr.zero, 10)
theorem eframe_any (e : En.E) (zone off epoch seq : Int) (w : World) (hb : EBody e) :
    Calls Try.prog 47 #[.agg (EC e), .int .i64 zone, .int .i64 off, .int .i64 epoch, .int .i64 seq] w (FrmPost (frameE e zone off epoch seq) w) := by
  cases hr : En.right e
  · refine eframe_core e zone off epoch seq (List.replicate 44 0) 10 (rightF ⟨e.kind, zone, off, epoch, seq, List.replicate 44 0⟩) _ w hb (by simp) (by simp) (fun W => ebody_no e W hb hr) (fun W => fright_any _ W) (.inl ⟨rfl, ?_⟩)
    unfold frameE
    rw [if_neg (by rw [hr]; simp)]
  · refine eframe_core e zone off epoch seq (En.body e) 0 (rightF ⟨e.kind, zone, off, epoch, seq, En.body e⟩) _ w hb (En.body_length hb.1) (En.body_bytes hb.2) (fun W => ebody_yes e W hb hr) (fun W => fright_any _ W) ?_
    cases hf : rightF ⟨e.kind, zone, off, epoch, seq, En.body e⟩
    · refine .inr (.inl ⟨rfl, rfl, ?_⟩)
      unfold frameE
      rw [if_neg (by rw [hf]; simp)]
    · obtain ⟨k1, k2, h1, h2, h3, h4, h5, h6, h7, h8⟩ : 1 ≤ e.kind ∧ e.kind ≤ 5 ∧ 0 ≤ zone ∧ zone ≤ 65535 ∧ 0 ≤ off ∧ off ≤ 65535 ∧ 1 ≤ epoch ∧ epoch ≤ 4294967295 ∧ 0 ≤ seq ∧ seq ≤ 281474976710655 := by
        have := hf
        simpa [rightF] using this
      obtain ⟨f, c, b, m, t, he, b1, b2, b3, b4, b5, b6⟩ := En.right_nat hr
      have e1 : e.first = (f : Int) := by rw [he]
      have e2 : e.count = (c : Int) := by rw [he]
      have hw : IntKind.i64.wrap (seq - e.count) = seq - e.count := IntWalk.i64_in _ (by omega)
      by_cases ha : seq < e.first
      · refine .inr (.inr (.inl ⟨rfl, rfl, decide_eq_true ha, ?_⟩))
        unfold frameE
        rw [if_neg (by omega)]
      · by_cases hb2 : e.first ≤ seq - e.count
        · refine .inr (.inr (.inr (.inl ⟨rfl, rfl, decide_eq_false ha, hw, decide_eq_true hb2, ?_⟩)))
          unfold frameE
          rw [if_neg (by omega)]
        · refine .inr (.inr (.inr (.inr ⟨rfl, rfl, decide_eq_false ha, hw, decide_eq_false hb2, ?_⟩)))
          unfold frameE
          rw [if_pos ⟨hr, hf, by omega, by omega⟩]
end Go.Proofs.Ytoiephmngdecaaa
namespace Go.Rv
open Go.RowKit
set_option linter.unusedVariables false
/-- new blocks; of those that lay from B on whatever is no cells may have turned; the channels of a list keep what lies in them; all else is as it was -/
structure Turn (B : Nat) (C : List Nat) (A W : World) : Prop where
  os : W.os = A.os
  tape : W.tape = A.tape
  output : W.output = A.output
  size : A.heap.size ≤ W.heap.size
  block : ∀ (k : Nat) (o : Obj), A.heap[k]? = some o → k ∉ C → (k < B ∨ o.isCells = true) → W.heap[k]? = some o
  chan : ∀ k ∈ C, ∀ cap buf s r, A.heap[k]? = some (.chan cap buf false s r false) → ∃ s' r', W.heap[k]? = some (.chan cap buf false s' r' false)
theorem Turn.refl (B : Nat) (C : List Nat) (w : World) : Turn B C w w := ⟨rfl, rfl, rfl, Nat.le_refl _, fun _ _ h _ _ => h, fun _ _ _ _ s r h => ⟨s, r, h⟩⟩
theorem Turn.trans {B : Nat} {C : List Nat} {a b c : World} (h : Turn B C a b) (k : Turn B C b c) : Turn B C a c :=
  ⟨k.os.trans h.os, k.tape.trans h.tape, k.output.trans h.output, Nat.le_trans h.size k.size, fun i o hi hn hc => k.block i o (h.block i o hi hn hc) hn hc,
    fun i hi cap buf s r hh => by obtain ⟨s', r', h'⟩ := h.chan i hi cap buf s r hh; exact k.chan i hi cap buf s' r' h'⟩
theorem Turn.of_only {B : Nat} {C : List Nat} {a w : World} (h : Only [] a w) : Turn B C a w :=
  ⟨h.os, h.tape, h.output, h.size, fun k o hk _ _ => (h.block k (Array.getElem?_eq_some_iff.1 hk).1 (by simp)).trans hk,
    fun k _ cap buf s r hk => ⟨s, r, (h.block k (Array.getElem?_eq_some_iff.1 hk).1 (by simp)).trans hk⟩⟩
theorem Turn.of_below {B : Nat} {C : List Nat} {a w : World} (h : Below a.heap.size a w) : Turn B C a w := Turn.of_only (Only.of_below h)
theorem Turn.alloc {B : Nat} {C : List Nat} {a w : World} (h : Turn B C a w) (o : Obj) : Turn B C a (w.alloc o) := h.trans (Turn.of_only ((Only.refl [] w).alloc o))
theorem Turn.drew {B : Nat} {C : List Nat} {a w : World} (h : Turn B C a w) : Turn B C a w.drew := h.trans (Turn.of_only (Only.refl [] w).drew)
theorem Turn.putObj {B : Nat} {C : List Nat} {a w : World} (h : Turn B C a w) {l : Nat} {o : Obj} (hB : B ≤ l) (hl : w.heap[l]? = some o) (ho : o.isCells = false) (hC : l ∉ C) (o' : Obj) : Turn B C a (w.putObj l o') := by
  refine h.trans ⟨rfl, rfl, rfl, by simp, fun k x hk hn hc => ?_, fun k hk cap buf s r hh => ⟨s, r, ?_⟩⟩
  · rw [World.putObj_heap_other]
    · exact hk
    · intro e
      subst e
      rw [hl] at hk
      cases hk
      rcases hc with hc | hc
      · omega
      · rw [ho] at hc; cases hc
  · rw [World.putObj_heap_other]
    · exact hh
    · intro e
      subst e
      exact hC hk
theorem Turn.mono {B B' : Nat} {C C' : List Nat} {a w : World} (h : Turn B' C' a w) (hB : B ≤ B') (hC : ∀ k ∈ C', k ∈ C) (hCB : ∀ k ∈ C, k < B') : Turn B C a w := by
  refine ⟨h.os, h.tape, h.output, h.size, fun k o hk hn hc => h.block k o hk (fun e => hn (hC k e)) (hc.imp (fun e => Nat.lt_of_lt_of_le e hB) id), fun k hk cap buf s r hh => ?_⟩
  by_cases hm : k ∈ C'
  · exact h.chan k hm cap buf s r hh
  · exact ⟨s, r, h.block k _ hh hm (.inl (hCB k hk))⟩
theorem Only.putObj {S : List Nat} {a w : World} (h : Only S a w) {l : Nat} (hl : l ∈ S ∨ a.heap.size ≤ l) (o : Obj) : Only S a (w.putObj l o) :=
  ⟨h.os, h.tape, h.output, by simpa using h.size, fun i hi hn => by
    rw [World.putObj_heap_other]
    · exact h.block i hi hn
    · intro e; subst e; rcases hl with h1 | h1
      · exact hn h1
      · omega⟩
theorem Only.get {S : List Nat} {a w : World} (h : Only S a w) {k : Nat} {o : Obj} (hk : a.heap[k]? = some o) (hn : k ∉ S) : w.heap[k]? = some o := (h.block k (Array.getElem?_eq_some_iff.1 hk).1 hn).trans hk
theorem alloc_get (w : World) (o : Obj) (k : Nat) : (w.alloc o).heap[k]? = if k = w.heap.size then some o else w.heap[k]? := by
  show (w.heap.push o)[k]? = _
  rw [Array.getElem?_push]
theorem alloc_new (w : World) (o : Obj) {k : Nat} (h : k = w.heap.size) : (w.alloc o).heap[k]? = some o := by rw [alloc_get, if_pos h]
theorem alloc_old (w : World) (o : Obj) {k : Nat} (h : k < w.heap.size) : (w.alloc o).heap[k]? = w.heap[k]? := by rw [alloc_get, if_neg (by omega)]
/-- an assertion that abides such turns -/
def AbT {β : Type} (B : Nat) (C : List Nat) (J : β → World → Prop) : Prop := ∀ s A W, J s A → Turn B C A W → J s W
theorem AbT.and {β : Type} {B : Nat} {C : List Nat} {I J : β → World → Prop} (h : AbT B C I) (k : AbT B C J) : AbT B C (fun s W => I s W ∧ J s W) := fun s A W hs ht => ⟨h s A W hs.1 ht, k s A W hs.2 ht⟩
theorem AbT.pure {β : Type} (B : Nat) (C : List Nat) (p : β → Prop) : AbT B C (fun s (_ : World) => p s) := fun _ _ _ hs _ => hs
theorem AbT.mono {β : Type} {B B' : Nat} {C C' : List Nat} {J : β → World → Prop} (h : AbT B C J) (hB : B ≤ B') (hC : ∀ k ∈ C', k ∈ C) (hCB : ∀ k ∈ C, k < B') : AbT B' C' J := fun s A W hs ht => h s A W hs (ht.mono hB hC hCB)
theorem AbT.heap {β : Type} {B : Nat} {C : List Nat} {b : Nat} (X : β → Obj) (hb : b ∉ C) (hX : ∀ s, b < B ∨ (X s).isCells = true) : AbT B C (fun s W => W.heap[b]? = some (X s)) := fun s A W hs ht => ht.block b _ hs hb (hX s)
theorem AbT.row {β : Type} {B : Nat} {C : List Nat} {b : Nat} {t : TypeId} {fr : Nat × Nat} (X : β → Array Value) (hb : b ∉ C) : AbT B C (fun s W => W.heap[b]? = some (.cells (X s) t fr)) := AbT.heap (fun s => .cells (X s) t fr) hb (fun _ => .inr rfl)
theorem AbT.only {β : Type} {B : Nat} {C S : List Nat} {w₀ : World} (hB : w₀.heap.size ≤ B) (hS : ∀ k ∈ C, k ∈ S) : AbT B C (fun (_ : β) W => Only S w₀ W) :=
  fun s A W h t => ⟨t.os.trans h.os, t.tape.trans h.tape, t.output.trans h.output, Nat.le_trans h.size t.size, fun b hb hn => by
    obtain ⟨o, ho⟩ : ∃ o, w₀.heap[b]? = some o := ⟨_, Array.getElem?_eq_getElem hb⟩
    rw [ho]
    exact t.block b o (h.get ho hn) (fun e => hn (hS b e)) (.inl (by omega))⟩
/-- AN ITERATOR's WORD: R: the blocks that it reads; C: the channels that it turns -/
def SeqT {α : Type} (F : Fence) (n : Nat) (P : Program) (g : Nat) (lb : Array Value) (encs : α → Array Value) (R C : List Nat) (S Sp : List α → Prop) (N : Nat) (w : World) : Prop :=
  ∀ (l : Nat) (T : List Nat) (J Jx : List α → World → Prop) (W : World), Below w.heap.size w W → w.heap.size ≤ l → l < W.heap.size → (∀ k ∈ T, k < W.heap.size ∧ k ∉ R) → AbT W.heap.size C J → AbT W.heap.size C Jx →
    (∀ pre x W1, J pre W1 → pre.length < N → Sp (pre ++ [x]) → YieldAt F (n - 1) P l (encs x) W1 fun e W' =>
      Only (l :: T) W1 W' ∧ ((e = .returned (.bool true) ∧ J (pre ++ [x]) W') ∨ (e = .returned (.bool false) ∧ Jx (pre ++ [x]) W'))) →
    J [] W →
    CallsIn F n P g (#[.func (.yield l) #[] #[]] ++ lb) W fun e W' => (∃ v, e = .returned v) ∧ ((∃ xs, S xs ∧ J xs W') ∨ (∃ pre, Sp pre ∧ Jx pre W'))
theorem SeqT.inRound {α : Type} {F : Fence} {n : Nat} {P : Program} {g : Nat} {lb : Array Value} {encs : α → Array Value} {R C : List Nat} {S Sp : List α → Prop} {N : Nat} {w : World} (l : Nat) (h : SeqT F n P g lb encs R C S Sp N w) : SeqT (F.inRound l) n P g lb encs R C S Sp N w := h
/-- how a round's body may be left -/
def postT {α : Type} (T : List Nat) (I : List α → World → Prop) (Ix : Code → List α → World → Prop) (xs : List α) (W : World) : Exit → Act → World → Prop
  | .normal, _, W' => Only T W W' ∧ I xs W'
  | .ret, _, W' => Only T W W' ∧ Ix .ret xs W'
  | .exit id, _, W' => Only T W W' ∧ Ix (.exit id) xs W'
  | .goto t, _, W' => Only T W W' ∧ Ix (.goto t) xs W'
  | .panic _, _, _ => False
  | .outgrown, _, _ => False
theorem postT_mono {α : Type} {T T' : List Nat} {I I' : List α → World → Prop} {Ix Ix' : Code → List α → World → Prop} {xs ys : List α} {W W0 : World} (hI : ∀ W', Only T W W' → I xs W' → Only T' W0 W' ∧ I' ys W') (hIx : ∀ c W', Only T W W' → Ix c xs W' → Only T' W0 W' ∧ Ix' c ys W') :
    ∀ e a W', postT T I Ix xs W e a W' → postT T' I' Ix' ys W0 e a W' := by
  intro e a W' h
  cases e with
  | normal => exact hI W' h.1 h.2
  | ret => exact hIx _ W' h.1 h.2
  | exit id => exact hIx _ W' h.1 h.2
  | goto t => exact hIx _ W' h.1 h.2
  | panic _ => exact h.elim
  | outgrown => exact h.elim
variable {F : Fence} {n : Nat} {P : Program}
/-- the iterator's word, for the loop's record l -/
theorem rangeT_core {α : Type} {ps : Array Tmp} {assign body : Code} {fn : FuncId} {tmps : Array Value} {l : Nat} {W1 w0 : World} (hF : F.fn fn) {gf : Nat} {lb : Array Value} {encs : α → Array Value} {R C : List Nat} {S Sp : List α → Prop} {N : Nat}
    (rec : LoopState → Option Code → Loop) (hrec : ∃ dfr, rec = fun st pe => { state := st, pending := pe, fn, tmps, params := ps, assign, body, defers := dfr })
    (hseq : SeqT F n P gf lb encs R C S Sp N w0) (hb : Below w0.heap.size w0 W1) (hps : ∀ x, (encs x).size = ps.size) (hw0 : w0.heap.size ≤ l) (hl1 : W1.heap[l]? = some (.loop (rec .ready none)))
    (T : List Nat) (hT : ∀ k ∈ T, k < l ∧ k ∉ R) (hC : ∀ k ∈ C, k < l)
    (I : List α → World → Prop) (Ix : Code → List α → World → Prop) (hI : AbT l C I) (hIx : ∀ c, AbT l C (Ix c)) (h0 : I [] W1) (Ax : α → Act → World → Prop) (hAx : ∀ x a', AbT l C (fun (_ : Unit) W => Ax x a' W))
    (hassign : ∀ (pre : List α) (x : α) (W : World) (K : Act → World → Prop), I pre W → (∀ a' W', Only [] W W' → Ax x a' W' → K a' W') →
      assign.wpIn (F.inRound l) (n - 1) P (Exit.then K (fun _ _ _ => False)) { tmps := (ps.zip (encs x)).foldl (fun t (p, v) => t.setIfInBounds p v) tmps, defers := [] } W)
    (hbody : ∀ (pre : List α) (x : α) (a' : Act) (W : World), (∃ r, W.heap[l]? = some (.loop r)) → I pre W → Ax x a' W → pre.length < N → Sp (pre ++ [x]) → body.wpIn (F.inRound l) (n - 1) P (postT T I Ix (pre ++ [x]) W) a' W) :
    CallsIn F n P gf (#[.func (.yield l) #[] #[]] ++ lb) W1 fun e W2 => (∃ v, e = .returned v) ∧ ((∃ xs, S xs ∧ I xs W2 ∧ W2.heap[l]? = some (.loop (rec .ready none))) ∨ (∃ pre, Sp pre ∧ ∃ c, Ix c pre W2 ∧ W2.heap[l]? = some (.loop (rec .done (some c))))) := by
  obtain ⟨dfr, hrec⟩ := hrec
  have hlt : l < W1.heap.size := (Array.getElem?_eq_some_iff.1 hl1).1
  have hlC : l ∉ C := fun e => by have := hC l e; omega
  have hlT : l ∉ T := fun e => by have := (hT l e).1; omega
  have hmono : ∀ {A W : World}, Turn W1.heap.size C A W → Turn l C A W := fun ht => ht.mono (by omega) (fun _ h => h) (fun k hk => by have := hC k hk; omega)
  refine (hseq l T (fun pre W => I pre W ∧ W.heap[l]? = some (.loop (rec .ready none))) (fun pre W => ∃ c, Ix c pre W ∧ W.heap[l]? = some (.loop (rec .done (some c)))) W1 hb hw0 hlt (fun k hk => ⟨by have := (hT k hk).1; omega, (hT k hk).2⟩)
    (fun s A W hs ht => ⟨hI s A W hs.1 (hmono ht), ht.block l _ hs.2 hlC (.inl hlt)⟩) (fun s A W hs ht => by
      obtain ⟨c, hc, hl⟩ := hs
      exact ⟨c, hIx c s A W hc (hmono ht), ht.block l _ hl hlC (.inl hlt)⟩) ?_ ⟨h0, hl1⟩)
  rintro pre x W ⟨hi, hl⟩ hlen hsp
  have hy := run_yield (P := P) (args := encs x) hl (by rw [hrec]; exact hps x)
  rw [hrec] at hy
  refine ⟨fn, _, assign, body, hy, roundIn_of_wpIn hF (hassign pre x W _ hi ?_)⟩
  clear hy
  intro a' Wa hOa hax
  have hla := hOa.get hl (by simp)
  have hia := hI pre W Wa hi (Turn.of_only hOa)
  refine ⟨_, run_beginRound hla (by rw [hrec]), ?_⟩
  have hlt2 : l < Wa.heap.size := (Array.getElem?_eq_some_iff.1 hla).1
  have hl2 : (Wa.putObj l (.loop { rec .ready none with state := .busy })).heap[l]? = some (.loop { rec .ready none with state := .busy }) := World.putObj_heap_same hlt2
  have ht2 : Turn l C Wa (Wa.putObj l (.loop { rec .ready none with state := .busy })) := (Turn.refl l C Wa).putObj (Nat.le_refl _) hla rfl hlC _
  refine wpIn_mono (hbody pre x a' _ ⟨_, hl2⟩ (hI pre _ _ hia ht2) (hAx x a' () _ _ hax ht2) hlen hsp) ?_
  have fin : ∀ (jump : Option Code) (W3 : World), Only T (Wa.putObj l (.loop { rec .ready none with state := .busy })) W3 →
      (Instr.endRound l jump).run P W3 = .ok (.bool jump.isNone) (W3.putObj l (.loop (rec (if jump.isNone then .ready else .done) jump))) ∧
      (W3.putObj l (.loop (rec (if jump.isNone then .ready else .done) jump))).heap[l]? = some (.loop (rec (if jump.isNone then .ready else .done) jump)) ∧
      Turn l C W3 (W3.putObj l (.loop (rec (if jump.isNone then .ready else .done) jump))) ∧ Only (l :: T) W (W3.putObj l (.loop (rec (if jump.isNone then .ready else .done) jump))) := fun jump W3 hO3 => by
    have hl3 := hO3.get hl2 hlT
    have h4 := run_endRound (P := P) jump hl3
    have h5 := (Turn.refl l C W3).putObj (o' := .loop (rec (if jump.isNone then .ready else .done) jump)) (Nat.le_refl _) hl3 rfl hlC
    have h6 : Only (l :: T) W W3 := ((hOa.mono (T := l :: T) (by simp)).putObj (.inl (by simp)) _).trans (hO3.mono (fun k hk => .inl (by simp [hk])))
    rw [hrec] at h4 h5 ⊢
    exact ⟨h4, World.putObj_heap_same (Array.getElem?_eq_some_iff.1 hl3).1, h5, h6.putObj (.inl (by simp)) _⟩
  rintro e a3 W3 hp
  cases e with
  | normal =>
    obtain ⟨hk3, hi3⟩ := hp
    obtain ⟨hr, hl4, ht4, hO4⟩ := fin none W3 hk3
    exact ⟨_, _, hr, hO4, .inl ⟨rfl, hI _ _ _ hi3 ht4, hl4⟩⟩
  | ret =>
    obtain ⟨hk3, hi3⟩ := hp
    obtain ⟨hr, hl4, ht4, hO4⟩ := fin (some .ret) W3 hk3
    exact ⟨_, _, hr, hO4, .inr ⟨rfl, .ret, hIx _ _ _ _ hi3 ht4, hl4⟩⟩
  | exit id =>
    obtain ⟨hk3, hi3⟩ := hp
    obtain ⟨hr, hl4, ht4, hO4⟩ := fin (some (.exit id)) W3 hk3
    exact ⟨_, _, hr, hO4, .inr ⟨rfl, .exit id, hIx _ _ _ _ hi3 ht4, hl4⟩⟩
  | goto t =>
    obtain ⟨hk3, hi3⟩ := hp
    obtain ⟨hr, hl4, ht4, hO4⟩ := fin (some (.goto t)) W3 hk3
    exact ⟨_, _, hr, hO4, .inr ⟨rfl, .goto t, hIx _ _ _ _ hi3 ht4, hl4⟩⟩
  | panic ch => exact hp.elim
  | outgrown => exact hp.elim
/-- THE LAW, at an outermost loop -/
theorem wpIn_rangeT {α : Type} {g : Operand} {ps : Array Tmp} {assign body : Code} {Q : Exit → Act → World → Prop} {a : Act} {w : World}
    (hro : F.round = none) (h1 : 1 ≤ n) {gf : Nat} {lb : Array Value} (hg : a.eval g = .func (.func gf) #[] lb) (hFg : F.fn gf) (eg : ∀ args w, (callFunc gf args).run P w = .ok (.enter gf args) w)
    {encs : α → Array Value} {R C : List Nat} {S Sp : List α → Prop} {N : Nat} {w0 : World} (hseq : SeqT F (n - 1) P gf lb encs R C S Sp N w0) (hb0 : Below w0.heap.size w0 w) (hps : ∀ x, (encs x).size = ps.size)
    (T : List Nat) (hT : ∀ k ∈ T, k < w.heap.size ∧ k ∉ R) (hC : ∀ k ∈ C, k < w.heap.size)
    (I : List α → World → Prop) (Ix : Code → List α → World → Prop) (hI : AbT w.heap.size C I) (hIx : ∀ c, AbT w.heap.size C (Ix c)) (h0 : I [] w) (Ax : α → Act → World → Prop) (hAx : ∀ x a', AbT w.heap.size C (fun (_ : Unit) W => Ax x a' W))
    (hassign : ∀ (l : Nat) (pre : List α) (x : α) (W : World) (K : Act → World → Prop), w.heap.size ≤ l → I pre W → (∀ a' W', Only [] W W' → Ax x a' W' → K a' W') →
      assign.wpIn (F.inRound l) (n - 1 - 1) P (Exit.then K (fun _ _ _ => False)) { tmps := (ps.zip (encs x)).foldl (fun t (p, v) => t.setIfInBounds p v) a.tmps, defers := [] } W)
    (hbody : ∀ (l : Nat) (pre : List α) (x : α) (a' : Act) (W : World), w.heap.size ≤ l → (∃ r, W.heap[l]? = some (.loop r)) → I pre W → Ax x a' W → pre.length < N → Sp (pre ++ [x]) → body.wpIn (F.inRound l) (n - 1 - 1) P (postT T I Ix (pre ++ [x]) W) a' W)
    (hdone : ∀ (D : Nat) (xs : List α) (W : World), w.heap.size ≤ D → S xs → I xs W → W.heap[D]? = some (.deferred (some [])) → Q .normal { a with defers := { target := .collected D, args := #[] } :: a.defers } W)
    (hstop : ∀ (D : Nat) (c : Code) (pre : List α) (W : World), w.heap.size ≤ D → Sp pre → Ix c pre W → W.heap[D]? = some (.deferred (some [])) → c.wpIn F n P Q { a with defers := { target := .collected D, args := #[] } :: a.defers } W) :
    (Code.rangeFunc g ps assign body).wpIn F n P Q a w := by
  refine wpIn_rangeFunc ?_
  intro fn hfn
  rw [hro]
  obtain ⟨rec, hrec⟩ : ∃ rec : LoopState → Option Code → Loop, rec = fun st pe => { state := st, pending := pe, fn, tmps := a.tmps, params := ps, assign, body, defers := w.heap.size } := ⟨_, rfl⟩
  obtain ⟨W1, hW1⟩ : ∃ W1, (w.alloc (.deferred (some []))).alloc (.loop (rec .ready none)) = W1 := ⟨_, rfl⟩
  have hL1 : W1.heap[w.heap.size + 1]? = some (.loop (rec .ready none)) := by
    rw [← hW1]; have := World.alloc_heap_new (w.alloc (.deferred (some []))) (.loop (rec .ready none)); rwa [World.size_alloc] at this
  have hK1 : W1.heap[w.heap.size]? = some (.deferred (some [])) := by
    rw [← hW1]; exact (Below.heap_alloc _ _ _ (by simp)).trans (World.alloc_heap_new w _)
  have hO1 : Only [] w W1 := by rw [← hW1]; exact ((Only.refl [] w).alloc _).alloc _
  have hb1 : Below w0.heap.size w0 W1 := hb0.trans ((hO1.below (B := w.heap.size) (by simp) (Nat.le_refl _)).mono hb0.size)
  have hmono : ∀ {β : Type} {J : β → World → Prop}, AbT w.heap.size C J → AbT (w.heap.size + 1) C J := fun h => h.mono (by omega) (fun _ h => h) (fun k hk => by have := hC k hk; omega)
  have hDT : w.heap.size ∉ T := fun e => by have := (hT _ e).1; omega
  have hDC : w.heap.size ∉ C := fun e => by have := hC _ e; omega
  have hLC : w.heap.size + 1 ∉ C := fun e => by have := hC _ e; omega
  refine ⟨w.heap.size + 1, [{ target := .collected w.heap.size, args := #[] }], W1, { target := .fn (.func gf) lb, args := #[.func (.yield (w.heap.size + 1)) #[] #[]] }, W1, gf,
    #[.func (.yield (w.heap.size + 1)) #[] #[]] ++ lb, W1, ?_, ?_, ?_, ?_, fun _ => h1, ?_⟩
  · rw [← hW1, hrec]; exact run_enterLoop_outer _ _ _ _ _
  · simp only [resolve, hg]
    simp [go_sem]
  · intro f' hf'; simp [Target.leads] at hf'; subst hf'; exact hFg
  · simp [invoke, go_sem, eg]
  · refine (rangeT_core (l := w.heap.size + 1) hfn rec ⟨_, hrec⟩ hseq hb1 hps (by have := hb0.size; omega) hL1 T (fun k hk => ⟨by have := (hT k hk).1; omega, (hT k hk).2⟩) (fun k hk => by have := hC k hk; omega)
      (fun pre W => I pre W ∧ W.heap[w.heap.size]? = some (.deferred (some []))) (fun c pre W => Ix c pre W ∧ W.heap[w.heap.size]? = some (.deferred (some [])))
      ((hmono hI).and (AbT.heap (fun _ => .deferred (some [])) hDC (fun _ => .inl (by omega)))) (fun c => (hmono (hIx c)).and (AbT.heap (fun _ => .deferred (some [])) hDC (fun _ => .inl (by omega))))
      ⟨hI _ _ _ h0 (Turn.of_only hO1), hK1⟩ Ax (fun x a' => hmono (hAx x a')) (fun pre x W K hi hK => hassign _ pre x W K (by omega) hi.1 hK) ?_).mono ?_
    · rintro pre x a' W hr ⟨hi, hk⟩ hax hlen hsp
      exact wpIn_mono (hbody _ pre x a' W (by omega) hr hi hax hlen hsp) (postT_mono (fun W' hO h => ⟨hO, h, hO.get hk hDT⟩) (fun c W' hO h => ⟨hO, h, hO.get hk hDT⟩))
    · rintro e W2 ⟨⟨v, rfl⟩, (⟨xs, hS, ⟨hi, hk⟩, hl⟩ | ⟨pre, hSp, c, ⟨hi, hk⟩, hl⟩)⟩
      · exact ⟨none, _, by have := run_endLoop (P := P) hl (by rw [hrec]; simp); rw [hrec] at this; exact this, hdone _ xs _ (Nat.le_refl _) hS (hI _ _ _ hi ((Turn.refl _ C W2).putObj (by omega) hl rfl hLC _)) ((World.putObj_heap_other (by omega)).trans hk)⟩
      · exact ⟨some c, _, by have := run_endLoop (P := P) hl (by rw [hrec]; simp); rw [hrec] at this; exact this, hstop _ c pre _ (Nat.le_refl _) hSp (hIx c _ _ _ hi ((Turn.refl _ C W2).putObj (by omega) hl rfl hLC _)) ((World.putObj_heap_other (by omega)).trans hk)⟩
/-- THE LAW, at a loop within a round of loop l₀ -/
theorem wpIn_rangeTN {α : Type} {g : Operand} {ps : Array Tmp} {assign body : Code} {Q : Exit → Act → World → Prop} {a : Act} {w : World}
    {l₀ : Nat} {r₀ : Loop} (hro : F.round = some l₀) (hl₀ : w.heap[l₀]? = some (.loop r₀)) (h1 : 1 ≤ n) {gf : Nat} {lb : Array Value} (hg : a.eval g = .func (.func gf) #[] lb) (hFg : F.fn gf) (eg : ∀ args w, (callFunc gf args).run P w = .ok (.enter gf args) w)
    {encs : α → Array Value} {R C : List Nat} {S Sp : List α → Prop} {N : Nat} {w0 : World} (hseq : SeqT F (n - 1) P gf lb encs R C S Sp N w0) (hb0 : Below w0.heap.size w0 w) (hps : ∀ x, (encs x).size = ps.size)
    (T : List Nat) (hT : ∀ k ∈ T, k < w.heap.size ∧ k ∉ R) (hC : ∀ k ∈ C, k < w.heap.size)
    (I : List α → World → Prop) (Ix : Code → List α → World → Prop) (hI : AbT w.heap.size C I) (hIx : ∀ c, AbT w.heap.size C (Ix c)) (h0 : I [] w) (Ax : α → Act → World → Prop) (hAx : ∀ x a', AbT w.heap.size C (fun (_ : Unit) W => Ax x a' W))
    (hassign : ∀ (l : Nat) (pre : List α) (x : α) (W : World) (K : Act → World → Prop), w.heap.size ≤ l → I pre W → (∀ a' W', Only [] W W' → Ax x a' W' → K a' W') →
      assign.wpIn (F.inRound l) (n - 1 - 1) P (Exit.then K (fun _ _ _ => False)) { tmps := (ps.zip (encs x)).foldl (fun t (p, v) => t.setIfInBounds p v) a.tmps, defers := [] } W)
    (hbody : ∀ (l : Nat) (pre : List α) (x : α) (a' : Act) (W : World), w.heap.size ≤ l → (∃ r, W.heap[l]? = some (.loop r)) → I pre W → Ax x a' W → pre.length < N → Sp (pre ++ [x]) → body.wpIn (F.inRound l) (n - 1 - 1) P (postT T I Ix (pre ++ [x]) W) a' W)
    (hdone : ∀ (xs : List α) (W : World), S xs → I xs W → Q .normal a W)
    (hstop : ∀ (c : Code) (pre : List α) (W : World), Sp pre → Ix c pre W → c.wpIn F n P Q a W) :
    (Code.rangeFunc g ps assign body).wpIn F n P Q a w := by
  refine wpIn_rangeFunc ?_
  intro fn hfn
  rw [hro]
  obtain ⟨rec, hrec⟩ : ∃ rec : LoopState → Option Code → Loop, rec = fun st pe => { state := st, pending := pe, fn, tmps := a.tmps, params := ps, assign, body, defers := r₀.defers } := ⟨_, rfl⟩
  obtain ⟨W1, hW1⟩ : ∃ W1, w.alloc (.loop (rec .ready none)) = W1 := ⟨_, rfl⟩
  have hL1 : W1.heap[w.heap.size]? = some (.loop (rec .ready none)) := by rw [← hW1]; exact World.alloc_heap_new w _
  have hO1 : Only [] w W1 := by rw [← hW1]; exact (Only.refl [] w).alloc _
  have hb1 : Below w0.heap.size w0 W1 := hb0.trans ((hO1.below (B := w.heap.size) (by simp) (Nat.le_refl _)).mono hb0.size)
  have hLC : w.heap.size ∉ C := fun e => by have := hC _ e; omega
  refine ⟨w.heap.size, [], W1, { target := .fn (.func gf) lb, args := #[.func (.yield w.heap.size) #[] #[]] }, W1, gf,
    #[.func (.yield w.heap.size) #[] #[]] ++ lb, W1, ?_, ?_, ?_, ?_, fun _ => h1, ?_⟩
  · rw [← hW1, hrec]; exact run_enterLoop_inner hl₀ _ _ _ _ _
  · simp only [resolve, hg]
    simp [go_sem]
  · intro f' hf'; simp [Target.leads] at hf'; subst hf'; exact hFg
  · simp [invoke, go_sem, eg]
  · refine (rangeT_core (l := w.heap.size) hfn rec ⟨_, hrec⟩ hseq hb1 hps hb0.size hL1 T hT hC I Ix hI hIx (hI _ _ _ h0 (Turn.of_only hO1)) Ax hAx (fun pre x W K hi hK => hassign _ pre x W K (Nat.le_refl _) hi hK)
      (fun pre x a' W hr hi hax hlen hsp => hbody _ pre x a' W (Nat.le_refl _) hr hi hax hlen hsp)).mono ?_
    rintro e W2 ⟨⟨v, rfl⟩, (⟨xs, hS, hi, hl⟩ | ⟨pre, hSp, c, hi, hl⟩)⟩
    · exact ⟨none, _, by have := run_endLoop (P := P) hl (by rw [hrec]; simp); rw [hrec] at this; exact this, hdone xs _ hS (hI _ _ _ hi ((Turn.refl _ C W2).putObj (Nat.le_refl _) hl rfl hLC _))⟩
    · exact ⟨some c, _, by have := run_endLoop (P := P) hl (by rw [hrec]; simp); rw [hrec] at this; exact this, hstop c pre _ hSp (hIx c _ _ _ hi ((Turn.refl _ C W2).putObj (Nat.le_refl _) hl rfl hLC _))⟩
/-- the laws, where the frame of a round is known ahead -/
theorem wpIn_rangeT1 {α : Type} {g : Operand} {ps : Array Tmp} {assign body : Code} {Q : Exit → Act → World → Prop} {a : Act} {w : World}
    (hro : F.round = none) (h1 : 1 ≤ n) {gf : Nat} {lb : Array Value} (hg : a.eval g = .func (.func gf) #[] lb) (hFg : F.fn gf) (eg : ∀ args w, (callFunc gf args).run P w = .ok (.enter gf args) w)
    {encs : α → Array Value} {R C : List Nat} {S Sp : List α → Prop} {N : Nat} {w0 : World} (hseq : SeqT F (n - 1) P gf lb encs R C S Sp N w0) (hb0 : Below w0.heap.size w0 w) (hps : ∀ x, (encs x).size = ps.size)
    (T : List Nat) (hT : ∀ k ∈ T, k < w.heap.size ∧ k ∉ R) (hC : ∀ k ∈ C, k < w.heap.size)
    (I : List α → World → Prop) (Ix : Code → List α → World → Prop) (hI : AbT w.heap.size C I) (hIx : ∀ c, AbT w.heap.size C (Ix c)) (h0 : I [] w) (a₁ : α → Act)
    (hassign : ∀ (l : Nat) (pre : List α) (x : α) (W : World) (K : Act → World → Prop), w.heap.size ≤ l → I pre W → (∀ W', Only [] W W' → K (a₁ x) W') →
      assign.wpIn (F.inRound l) (n - 1 - 1) P (Exit.then K (fun _ _ _ => False)) { tmps := (ps.zip (encs x)).foldl (fun t (p, v) => t.setIfInBounds p v) a.tmps, defers := [] } W)
    (hbody : ∀ (l : Nat) (pre : List α) (x : α) (W : World), w.heap.size ≤ l → (∃ r, W.heap[l]? = some (.loop r)) → I pre W → pre.length < N → Sp (pre ++ [x]) → body.wpIn (F.inRound l) (n - 1 - 1) P (postT T I Ix (pre ++ [x]) W) (a₁ x) W)
    (hdone : ∀ (D : Nat) (xs : List α) (W : World), w.heap.size ≤ D → S xs → I xs W → W.heap[D]? = some (.deferred (some [])) → Q .normal { a with defers := { target := .collected D, args := #[] } :: a.defers } W)
    (hstop : ∀ (D : Nat) (c : Code) (pre : List α) (W : World), w.heap.size ≤ D → Sp pre → Ix c pre W → W.heap[D]? = some (.deferred (some [])) → c.wpIn F n P Q { a with defers := { target := .collected D, args := #[] } :: a.defers } W) :
    (Code.rangeFunc g ps assign body).wpIn F n P Q a w :=
  wpIn_rangeT hro h1 hg hFg eg hseq hb0 hps T hT hC I Ix hI hIx h0 (fun x a' _ => a' = a₁ x) (fun _ _ _ _ _ h _ => h) (fun l pre x W K hl hi hK => hassign l pre x W K hl hi (fun W' hO => hK _ W' hO rfl))
    (fun l pre x a' W hl hr hi e hlen hsp => by subst e; exact hbody l pre x W hl hr hi hlen hsp) hdone hstop
theorem wpIn_rangeTN1 {α : Type} {g : Operand} {ps : Array Tmp} {assign body : Code} {Q : Exit → Act → World → Prop} {a : Act} {w : World}
    {l₀ : Nat} {r₀ : Loop} (hro : F.round = some l₀) (hl₀ : w.heap[l₀]? = some (.loop r₀)) (h1 : 1 ≤ n) {gf : Nat} {lb : Array Value} (hg : a.eval g = .func (.func gf) #[] lb) (hFg : F.fn gf) (eg : ∀ args w, (callFunc gf args).run P w = .ok (.enter gf args) w)
    {encs : α → Array Value} {R C : List Nat} {S Sp : List α → Prop} {N : Nat} {w0 : World} (hseq : SeqT F (n - 1) P gf lb encs R C S Sp N w0) (hb0 : Below w0.heap.size w0 w) (hps : ∀ x, (encs x).size = ps.size)
    (T : List Nat) (hT : ∀ k ∈ T, k < w.heap.size ∧ k ∉ R) (hC : ∀ k ∈ C, k < w.heap.size)
    (I : List α → World → Prop) (Ix : Code → List α → World → Prop) (hI : AbT w.heap.size C I) (hIx : ∀ c, AbT w.heap.size C (Ix c)) (h0 : I [] w) (a₁ : α → Act)
    (hassign : ∀ (l : Nat) (pre : List α) (x : α) (W : World) (K : Act → World → Prop), w.heap.size ≤ l → I pre W → (∀ W', Only [] W W' → K (a₁ x) W') →
      assign.wpIn (F.inRound l) (n - 1 - 1) P (Exit.then K (fun _ _ _ => False)) { tmps := (ps.zip (encs x)).foldl (fun t (p, v) => t.setIfInBounds p v) a.tmps, defers := [] } W)
    (hbody : ∀ (l : Nat) (pre : List α) (x : α) (W : World), w.heap.size ≤ l → (∃ r, W.heap[l]? = some (.loop r)) → I pre W → pre.length < N → Sp (pre ++ [x]) → body.wpIn (F.inRound l) (n - 1 - 1) P (postT T I Ix (pre ++ [x]) W) (a₁ x) W)
    (hdone : ∀ (xs : List α) (W : World), S xs → I xs W → Q .normal a W)
    (hstop : ∀ (c : Code) (pre : List α) (W : World), Sp pre → Ix c pre W → c.wpIn F n P Q a W) :
    (Code.rangeFunc g ps assign body).wpIn F n P Q a w :=
  wpIn_rangeTN hro hl₀ h1 hg hFg eg hseq hb0 hps T hT hC I Ix hI hIx h0 (fun x a' _ => a' = a₁ x) (fun _ _ _ _ _ h _ => h) (fun l pre x W K hl hi hK => hassign l pre x W K hl hi (fun W' hO => hK _ W' hO rfl))
    (fun l pre x a' W hl hr hi e hlen hsp => by subst e; exact hbody l pre x W hl hr hi hlen hsp) hdone hstop
/-- a function whose body holds ranges over functions, walked as everywhere -/
theorem calls_of_marks {f : FuncId} {fn : Func} {c : Code} {args : Array Value} {w : World} {R : Ending → World → Prop} (hf : P.funcs[f]? = some fn) (hb : fn.body = some c)
    (h : c.wp P (bodyPostM Fence.wide 8 P fn R) { tmps := args ++ Array.replicate (fn.ntmps - args.size) undef, defers := [] } w) : Calls P f args w R :=
  (callsIn_wide (n := 8)).1 (callsIn_of_wp_marks hf hb trivial (wpIn_wide.2 h) rfl)
def marks (ds : List Nat) : List Deferred := ds.map fun D => { target := .collected D, args := #[] }
theorem leave_marks {fn : Func} {tmps : Array Value} {R : Ending → World → Prop} {v : Value} : ∀ (ds : List Nat) (W : World), ds.Nodup → (∀ D ∈ ds, W.heap[D]? = some (.deferred (some []))) →
    (∀ W', Only ds W W' → (results fn tmps).run P W' = .ok v W' ∧ R (.returned v) W') → LeavesInM F n P fn tmps R (marks ds) .returning W
  | [], W, _, _, h => ⟨v, h W (Only.refl _ _)⟩
  | D :: ds, W, hn, hk, h => by
    have hD := hk D (by simp)
    refine ⟨by simp, .inl ⟨D, _, rfl, run_takeDeferred hD, leave_marks ds _ (List.nodup_cons.1 hn).2 (fun E hE => ?_) (fun W' hO => h W' ?_)⟩⟩
    · rw [World.putObj_heap_other (fun e => (List.nodup_cons.1 hn).1 (by rw [← e]; exact hE))]
      exact hk E (by simp [hE])
    · exact ((Only.refl (D :: ds) W).putObj (.inl (by simp)) _).trans (hO.mono (fun k hk => .inl (by simp [hk])))
end Go.Rv
namespace Go.Rv
open Go.RowKit
theorem wpList_row_on {P : Program} {ops : Array Oper} {rest : List Oper} {o : Oper} {a : Act} {w : World} {Q : Exit → Act → World → Prop} (hgd : Region.wanted o (yielded ops a.tmps) = true) (ty : TypeId) (x : Operand) (ho : o.op = .load ty x)
    (g : Nat) (hx : a.eval x = .pointer (some ⟨g, 0, none⟩)) (t : TypeId) (cs : Array Value) (fr : Nat × Nat) (d : TypeDesc) (hg : w.heap[g]? = some (.cells cs t fr))
    (hu : P.underlying ty = some d) (hd : (match d with | .struct _ | .array _ _ => true | _ => false) = true) (hi : (P.info? ty).map (·.size) = some cs.size)
    (h : wpList P ops Q rest (a.put o.dst (.agg cs)) w) : wpList P ops Q (o :: rest) a w := by
  unfold wpList
  rw [if_pos hgd]
  exact .inl (wp_load_row ty x ho g hx t cs fr d hg hu hd hi h)
theorem wpList_eql_on {P : Program} {ops : Array Oper} {rest : List Oper} {o : Oper} {a : Act} {w : World} {Q : Exit → Act → World → Prop} (hgd : Region.wanted o (yielded ops a.tmps) = true) (ty ty2 : TypeId) (x y : Operand) (ho : o.op = .binOp .eql ty x y ty2)
    (xs ys : Array Value) (hx : a.eval x = .agg xs) (hy : a.eval y = .agg ys) (hm : P.eqGuardType P.depth ty = false) (r : Bool) (hr : ∀ w, (Op.equalIn 10000 ty (.agg xs) (.agg ys)).run P w = .ok r w)
    (h : wpList P ops Q rest (a.put o.dst (.bool r)) w) : wpList P ops Q (o :: rest) a w := by
  unfold wpList
  rw [if_pos hgd]
  refine .inl ?_
  unfold Oper.wp execOp
  have h1 := run_eqGuard_agg (P := P) w .eql ty x y xs ys hm
  have h2 := run_eql_struct (P := P) w ty xs ys
  rw [hr w] at h2
  simp only [ho, hx, hy, Sem.run_bind, Sem.run_pure, h1, h2, Result.andThen_ok]
  exact h
theorem wpList_neq_on {P : Program} {ops : Array Oper} {rest : List Oper} {o : Oper} {a : Act} {w : World} {Q : Exit → Act → World → Prop} (hgd : Region.wanted o (yielded ops a.tmps) = true) (ty ty2 : TypeId) (x y : Operand) (ho : o.op = .binOp .neq ty x y ty2)
    (xs ys : Array Value) (hx : a.eval x = .agg xs) (hy : a.eval y = .agg ys) (hm : P.eqGuardType P.depth ty = false) (r : Bool) (hr : ∀ w, (Op.equalIn 10000 ty (.agg xs) (.agg ys)).run P w = .ok r w)
    (h : wpList P ops Q rest (a.put o.dst (.bool (!r))) w) : wpList P ops Q (o :: rest) a w := by
  unfold wpList
  rw [if_pos hgd]
  refine .inl ?_
  unfold Oper.wp execOp
  have h1 := run_eqGuard_agg (P := P) w .neq ty x y xs ys hm
  have h2 := run_neq_struct (P := P) w ty xs ys
  rw [hr w] at h2
  simp only [ho, hx, hy, Sem.run_bind, Sem.run_pure, h1, h2, Result.andThen_ok]
  exact h
end Go.Rv
namespace Go.Proofs.Ytoiephmngdecaaa
open Go.RowKit Go.Rv Frm
set_option linter.unusedVariables false
attribute [local go_sem ↓] Go.wp_at_zero Go.wp_at_succ
/-- an entry and an error -/
def EntPost (r : En.E × Int) (w : World) (e : Ending) (w' : World) : Prop := e = .returned (.tuple #[.agg (EC r.1), .int .i64 r.2]) ∧ Below w.heap.size w w'
theorem built_ent0 : Try.prog.built 65 [] = some (EC En.E.zero) := by kernel_rfl
theorem built_ent6 (k f c b m t : Int) : Try.prog.built 65 [(0, .int .i64 k), (1, .int .i64 f), (2, .int .i64 c), (3, .int .i64 b), (4, .int .i64 m), (5, .int .i64 t)] = some (EC ⟨k, f, c, b, m, t, List.replicate 32 0⟩) := by kernel_rfl
theorem splice_EC (e : En.E) (b : List Nat) (he : e.bytes.length = 32) (hb : b.length = 32) : splice (EC e).toList 6 (b.map bv) = (EC { e with bytes := b }).toList := by
  unfold splice EC byteCells bv
  simp [hb]
  omega
theorem parse_ebody {kind : Int} {b : List Nat} (hl : b.length = 44) (hb : ∀ c ∈ b, c < 256) : EBody (En.parse kind b) := En.parse_bytes hl hb
set_option maxRecDepth 100000 in
set_option maxHeartbeats 2000000 in
theorem eof_any (kind : Int) (b : List Nat) (w : World) (hl : b.length = 44) (hb : ∀ c ∈ b, c < 256) :
    Calls Try.prog 58 #[.int .i64 kind, .agg (byteCells b)] w (EntPost (En.ofE kind b) w) := by
  have hz := (zero_of_info Try.infoEntry).1
  have hzb := (zero_of_info Try.infoBody).1
  have hone := EC_one En.E.zero
  have HIZ := Lib.hid (size_ent (e := En.E.zero) (by simp [En.E.zero]))
  have HI := Lib.hid (size_body hl)
  have h44 : (byteCells (List.replicate 44 0)).size = (byteCells b).size := by rw [size_byteCells, size_byteCells, hl]; simp
  have HBZ := Lib.hid built_ent0
  have hF0 := heap_alloc2_old w (.cells (byteCells b) 57) (.cells (EC En.E.zero) 65)
  have hR0 := heap_alloc2_new w (.cells (byteCells b) 57) (.cells (EC En.E.zero) 65)
  have hB0 : Below w.heap.size w ((w.alloc (.cells (byteCells b) 57)).alloc (.cells (EC En.E.zero) 65)) := ((Below.refl _ w).alloc (Nat.le_refl _) _).alloc (by simp) _
  have hsb := byteCells_row hF0 hb
  have z0 : ((w.alloc (.cells (byteCells b) 57)).alloc (.cells (EC En.E.zero) 65)).heap.size = w.heap.size + 1 + 1 := by simp
  have HN := Lib.hid (fun (W : World) (hb : Bytes W (some ⟨w.heap.size, 0, none⟩) b) => by have := rd_new (some ⟨w.heap.size, 0, none⟩) b 44 W hb (fun e => by cases e) (by omega); rwa [hl] at this)
  have HBDY := Lib.hid (fun W => ebody_any (En.parse kind b) W (parse_ebody hl hb))
  have HPB := Lib.hid (En.body_parse (kind := kind) hl hb)
  have HPE := Lib.hid (parse_ebody (kind := kind) hl hb)
  have HLB := Lib.hid hl
  have H8 := Lib.hid hb
  have HEQ : Hid (∀ W, (Op.equalIn 10000 57 (.agg (byteCells b)) (.agg (byteCells b))).run Try.prog W = .ok true W) := Lib.hid (fun W => eq_body b b hl hl hb hb true (by simp) W)
  have H1B := Lib.hid (one_byteCells b)
  have h1Z := Lib.hid (one_byteCells (List.replicate 44 0))
  obtain ⟨Z, hZ⟩ : ∃ Z, EC En.E.zero = Z := ⟨_, rfl⟩
  obtain ⟨C, hC⟩ : ∃ C, byteCells b = C := ⟨_, rfl⟩
  obtain ⟨Z4, hZ4⟩ : ∃ Z4, byteCells (List.replicate 44 0) = Z4 := ⟨_, rfl⟩
  rw [hZ] at hz hone HIZ HBZ hF0 hR0 hB0 hsb z0
  rw [hC] at hF0 hR0 hB0 hsb HI h44 HEQ H1B z0 ⊢
  rw [hZ4] at hzb h44 h1Z
  have HZ := Lib.hid hZ
  have HC := Lib.hid hC
  have HZ4 := Lib.hid hZ4
  have H44 := Lib.hid h44
  clear hZ hC hZ4 h44 hl hb
  go_enter Try.func58, Try.ntmps58
  go_wp2_with fail
  refine (HN.out _ hsb).mono ?_
  rintro x w1 ⟨g, rfl, hg, hR1, hB1⟩
  rw [z0] at hg hR1
  have hF1 := (hB1.block w.heap.size (by omega)).trans hF0
  have hS1 := (hB1.block (w.heap.size + 1) (by omega)).trans hR0
  have hBw1 := hB0.trans (hB1.mono (by omega))
  have hgl := hR1.lt
  have HF1 := Lib.hid hF1
  have HS1 := Lib.hid hS1
  have HBW1 := Lib.hid hBw1
  clear HN hF0 hR0 hB0 hsb hB1 hF1 hS1 hBw1 z0
  obtain ⟨x1, hx1⟩ : ∃ x, x = Cod.rd (b.take 6) := ⟨_, rfl⟩
  obtain ⟨x2, hx2⟩ : ∃ x, x = Cod.rd ((b.drop 6).take 1) := ⟨_, rfl⟩
  obtain ⟨x3, hx3⟩ : ∃ x, x = Cod.rd ((b.drop 7).take 1) := ⟨_, rfl⟩
  obtain ⟨x4, hx4⟩ : ∃ x, x = Cod.rd ((b.drop 8).take 2) := ⟨_, rfl⟩
  obtain ⟨x5, hx5⟩ : ∃ x, x = Cod.rd ((b.drop 10).take 2) := ⟨_, rfl⟩
  have hbl := HLB.out
  obtain ⟨B, hBB⟩ : ∃ B, w.heap.size + 1 + 1 = B := ⟨_, rfl⟩
  rw [hBB] at hR1 hg
  have hzB : w.heap.size + 1 < B := by omega
  clear hBB
  have K1 := Lib.hid (fun W (hR : RdAt W B g b false) => rd_to g b (b.drop 6) x1 6 6 W hR rfl (by omega) (by omega) (by omega) hx1 rfl)
  have K2 := Lib.hid (fun W (hR : RdAt W B g (b.drop 6) false) => rd_to g (b.drop 6) (b.drop 7) x2 1 1 W hR rfl (by omega) (by omega) (by rw [List.length_drop]; omega) hx2 (by rw [List.drop_drop]))
  have K3 := Lib.hid (fun W (hR : RdAt W B g (b.drop 7) false) => rd_to g (b.drop 7) (b.drop 8) x3 1 1 W hR rfl (by omega) (by omega) (by rw [List.length_drop]; omega) hx3 (by rw [List.drop_drop]))
  have K4 := Lib.hid (fun W (hR : RdAt W B g (b.drop 8) false) => rd_to g (b.drop 8) (b.drop 10) x4 2 2 W hR rfl (by omega) (by omega) (by rw [List.length_drop]; omega) hx4 (by rw [List.drop_drop]))
  have K5 := Lib.hid (fun W (hR : RdAt W B g (b.drop 10) false) => rd_to g (b.drop 10) (b.drop 12) x5 2 2 W hR rfl (by omega) (by omega) (by rw [List.length_drop]; omega) hx5 (by rw [List.drop_drop]))
  have K6 := Lib.hid (fun W (hR : RdAt W B g (b.drop 12) false) => rd_bytes_yes g (b.drop 12) 32 W hR (by rw [List.length_drop]; omega))
  have HX : Hid (En.parse kind b = ⟨kind, (x1 : Nat), (x2 : Nat), (x3 : Nat), (x4 : Nat), (x5 : Nat), (b.drop 12).take 32⟩) := Lib.hid (by rw [hx1, hx2, hx3, hx4, hx5]; rfl)
  clear hx1 hx2 hx3 hx4 hx5 hbl
  go_wp2_with fail
  refine (K1.out _ hR1).mono ?_
  rintro e1 w2 ⟨rfl, hR2, hO2⟩
  go_wp2_with fail
  refine (K2.out _ hR2).mono ?_
  rintro e1 w3 ⟨rfl, hR3, hO3⟩
  go_wp2_with fail
  refine (K3.out _ hR3).mono ?_
  rintro e1 w4 ⟨rfl, hR4, hO4⟩
  go_wp2_with fail
  refine (K4.out _ hR4).mono ?_
  rintro e1 w5 ⟨rfl, hR5, hO5⟩
  go_wp2_with fail
  refine (K5.out _ hR5).mono ?_
  rintro e1 w6 ⟨rfl, hR6, hO6⟩
  have hO16 := (((hO2.trans hO3).trans hO4).trans hO5).trans hO6
  have z6 := hO16.size
  have hF6 := hO16.get HF1.out (by simp; omega)
  have hS6 := hO16.get HS1.out (by simp; omega)
  have hBw6 := HBW1.out.trans (hO16.below (B := w.heap.size) (by simp; omega) HBW1.out.size)
  have HF6 := Lib.hid hF6
  have HS6 := Lib.hid hS6
  have HBW6 := Lib.hid hBw6
  obtain ⟨e0, he0⟩ : ∃ e0 : En.E, e0 = ⟨kind, (x1 : Nat), (x2 : Nat), (x3 : Nat), (x4 : Nat), (x5 : Nat), List.replicate 32 0⟩ := ⟨_, rfl⟩
  have HBU : Hid (Try.prog.built 65 [(0, .int .i64 kind), (1, .int .i64 (x1 : Nat)), (2, .int .i64 (x2 : Nat)), (3, .int .i64 (x3 : Nat)), (4, .int .i64 (x4 : Nat)), (5, .int .i64 (x5 : Nat))] = some (EC e0)) := Lib.hid (by rw [he0]; exact built_ent6 _ _ _ _ _ _)
  have hone0 := EC_one e0
  have HIE0 := Lib.hid (size_ent (e := e0) (by rw [he0]; simp))
  have HSZ0 : Hid (Z.size = (EC e0).size) := Lib.hid (by rw [← HZ.out, EC_size, EC_size, he0]; rfl)
  have HE0 := Lib.hid he0
  clear he0 hF6 hS6 hBw6 hO16 hO2 hO3 hO4 hO5 hO6 hR1 hR2 hR3 hR4 hR5 K1 K2 K3 K4 K5
  obtain ⟨W7, hW7⟩ : ∃ W7, w6.alloc (.cells (EC e0) 65) = W7 := ⟨_, rfl⟩
  have hb7 : Below w6.heap.size w6 W7 := by rw [← hW7]; exact (Below.refl _ _).alloc (Nat.le_refl _) _
  have hG7 : W7.heap[w6.heap.size]? = some (.cells (EC e0) 65 (0, 0)) := by rw [← hW7]; exact heap_alloc_new w6 _
  have HW7 := Lib.hid hW7
  have hR7 := hR6.below hb7
  have z7 : w6.heap.size < W7.heap.size := by rw [← hW7]; simp
  have HF7 := Lib.hid ((hb7.block w.heap.size (by omega)).trans HF6.out)
  have HS7 := Lib.hid ((hb7.block (w.heap.size + 1) (by omega)).trans HS6.out)
  have HBW7 := Lib.hid (HBW6.out.trans (hb7.mono HBW6.out.size))
  clear hW7 hb7
  go_upto_region 3 with (first | (refine wpList_build_asked (by rfl) 65 _ rfl #[(0, .int .i64 kind), (1, .int .i64 (x1 : Nat)), (2, .int .i64 (x2 : Nat)), (3, .int .i64 (x3 : Nat)), (4, .int .i64 (x4 : Nat)), (5, .int .i64 (x5 : Nat))] (by simp [Act.eval, Act.put]) (EC e0) HBU.out ?_) | (refine wpList_store_row rfl 65 _ _ rfl w6.heap.size (EC e0) rfl rfl 65 Z (heap_alloc_new w6 _) HIE0.out HSZ0.out hone0 ?_; rw [World.setRow_alloc_new]))
  rw [HW7.out]
  have hcur : (EC e0).toList.length = 38 := by rw [Array.length_toList, EC_size, HE0.out]; simp
  have hbl2 : ((b.drop 12).take 32).length = 32 := by have := HLB.out; simp; omega
  obtain ⟨cur, hcu⟩ : ∃ cur, cur = (EC e0).toList := ⟨_, rfl⟩
  have hGA : W7.heap[w6.heap.size]? = some (.cells cur.toArray 65 (0, 0)) := by rw [hcu, Array.toArray_toList]; exact hG7
  rw [← hcu] at hcur
  obtain ⟨cs, hcs⟩ : ∃ cs, cs = ((b.drop 12).take 32).map bv := ⟨_, rfl⟩
  have hcsl : cs.length = 32 := by rw [hcs, List.length_map, hbl2]
  have hsp : splice cur 6 cs = (EC { e0 with bytes := (b.drop 12).take 32 }).toList := by rw [hcu, hcs]; exact splice_EC e0 _ (by rw [HE0.out]; simp) hbl2
  have h1c : ∀ v ∈ cs, v.oneCell' = true := by
    intro v hv
    rw [hcs] at hv
    simp only [List.mem_map] at hv
    obtain ⟨y, _, rfl⟩ := hv
    rfl
  have HSP := Lib.hid hsp
  have HCS := Lib.hid hcs
  have H1C := Lib.hid h1c
  have HFIT := Lib.hid (show 6 + cs.length ≤ cur.length by rw [hcsl, hcur]; omega)
  have HN32 := Lib.hid (show cs.length = Nat.min 32 32 by rw [hcsl]; rfl)
  have HGA := Lib.hid hGA
  have hszb : (Try.prog.info? 5).map (·.size) = some 1 := by kernel_rfl
  have HSZB := Lib.hid hszb
  clear hsp hcs h1c hcsl hcur hcu hGA hbl2 hszb hG7 hR6
  go_region_held3 (fun _ => True) (trivial) (first | (go_at_call 73; refine (K6.out _ (hR7.below (Below.refl _ _).drew)).mono ?_; rintro e10 w10 ⟨ax, rfl, hbx, hnx, hxx, hR10, hO10⟩; have hG10 := (hO10.block w6.heap.size (by simpa using z7) (by simp; omega)).trans HGA.out; have hF10 := (hO10.block w.heap.size (by simp; omega) (by simp; omega)).trans HF7.out; have hS10 := (hO10.block (w.heap.size + 1) (by simp; omega) (by simp; omega)).trans HS7.out; have hBw10 := HBW7.out.drew.trans (hO10.below (by simp; omega) HBW7.out.size); have hsrc : ∃ ad, ax = some ad ∧ ∀ (j : Nat) (v : Value), cs[j]? = some v → w10.cell? (ad.add j) = some v := (by rw [HCS.out]; have h := src_cells hbx 32 (by have := HLB.out; simp; omega); rw [List.take_take] at h; simpa using h); have HSRC := Lib.hid hsrc; clear hsrc) | (refine step_copy_splice rfl (.tmp 25) (.tmp 27) 134 134 rfl 5 Try.underlying134 HSZB.out (some ⟨w6.heap.size, 6, none⟩) ax 32 32 32 32 (by rfl) (by rfl) w6.heap.size 6 cur 65 hG10 cs HN32.out (fun _ => ⟨rfl, HSRC.out⟩) HFIT.out H1C.out w6.heap.size _ (Below.refl _ _) (Nat.le_refl _) ?_; intro w11 HG11 hB11))
  obtain ⟨e2, he2⟩ : ∃ e2 : En.E, e2 = En.parse kind b := ⟨_, rfl⟩
  have hG11 : w11.heap[w6.heap.size]? = some (.cells (EC e2) 65 (0, 0)) := by
    have h := HG11.out
    rw [HSP.out, Array.toArray_toList, HE0.out] at h
    rw [he2, HX.out]
    exact h
  have hl2 : e2.bytes.length = 32 := by rw [he2]; exact HPE.out.1
  have HI2 := Lib.hid (size_ent hl2)
  have hone2 := EC_one e2
  have HSZ2 : Hid (Z.size = (EC e2).size) := Lib.hid (by rw [← HZ.out, EC_size, EC_size, hl2]; simp [En.E.zero])
  have hF11 := (hB11.block w.heap.size (by omega)).trans hF10
  have hS11 := (hB11.block (w.heap.size + 1) (by omega)).trans hS10
  have hBw11 := hBw10.trans (hB11.mono (by omega))
  have z11 : w6.heap.size < w11.heap.size := (Array.getElem?_eq_some_iff.1 hG11).1
  have HG2 := Lib.hid hG11
  have HF11 := Lib.hid hF11
  have HS11 := Lib.hid hS11
  have HBW11 := Lib.hid hBw11
  have HB2 := Lib.hid (fun W => by have := HBDY.out W; rwa [← he2] at this)
  have HP2 : Hid (En.body e2 = b) := Lib.hid (by rw [he2]; exact HPB.out)
  have HR2 : Hid (En.ofE kind b = if En.right e2 = true then (e2, 0) else (En.E.zero, 10)) := Lib.hid (by rw [he2]; rfl)
  clear hG10 hF10 hS10 hBw10 hB11 HG11 HSP HCS H1C HFIT HN32 HGA HSZB HSRC hbx hnx hxx hR10 hO10 he2 K6 HX hR7 hF11 hS11 hBw11 HBDY HPB HPE hl2
  unfold BodPost at HB2
  cases hrt : En.right e2
  · rw [hrt] at HB2
    simp only [Bool.false_eq_true, if_false] at HB2
    have HRR : Hid (En.ofE kind b = (En.E.zero, 10)) := Lib.hid (by rw [HR2.out, hrt]; rfl)
    clear hrt
    rw [HZ4.out] at HB2
    go_wp2_with (refine wpList_load_row rfl 65 _ rfl w6.heap.size rfl 65 _ _ _ HG2.out Try.underlying65 rfl HI2.out ?_)
    refine (HB2.out _).mono ?_
    rintro x w12 ⟨rfl, hB12⟩
    have z12 := hB12.size
    have hb13 : Below w12.heap.size w12 (w12.alloc (.cells Z4 57)) := (Below.refl _ _).alloc (Nat.le_refl _) _
    have hS13 := (hb13.block (w.heap.size + 1) (by omega)).trans ((hB12.block (w.heap.size + 1) (by omega)).trans HS11.out)
    have hBw13 := HBW11.out.trans ((hB12.trans (hb13.mono z12)).mono HBW11.out.size)
    have HIZ4 : Hid ((Try.prog.info? 57).map (·.size) = some Z4.size) := Lib.hid (by rw [H44.out]; exact HI.out)
    clear hB12 hb13
    go_wp2_with (first | (refine wpList_store_row rfl 57 _ _ rfl w12.heap.size Z4 rfl rfl 57 Z4 (heap_alloc_new w12 _) HIZ4.out rfl h1Z.out ?_; rw [World.setRow_alloc_new]) | (refine wpList_build_asked (by rfl) 65 _ rfl #[] (by rfl) Z HBZ.out ?_) | (refine wpList_store_row rfl 65 _ _ rfl (w.heap.size + 1) Z rfl rfl 65 Z hS13 HIZ.out rfl hone ?_))
    refine bodyPost_ret (results_row_tmp rfl _ _ (w.heap.size + 1) 65 Z _ _ rfl (setRow_heap _ _ _ _ _ _ hS13) Try.underlying65 rfl HIZ.out) rfl ?_
    exact ⟨by rw [HRR.out, HZ.out]; rfl, below_setRow hBw13 (by omega) _⟩
  · rw [hrt] at HB2
    simp only [if_true] at HB2
    rw [HP2.out, HC.out] at HB2
    have HRR : Hid (En.ofE kind b = (e2, 0)) := Lib.hid (by rw [HR2.out, hrt]; rfl)
    clear hrt
    go_wp2_with (refine wpList_load_row rfl 65 _ rfl w6.heap.size rfl 65 _ _ _ HG2.out Try.underlying65 rfl HI2.out ?_)
    refine (HB2.out _).mono ?_
    rintro x w12 ⟨rfl, hB12⟩
    have z12 := hB12.size
    obtain ⟨W13, hW13⟩ : ∃ W13, w12.alloc (.cells C 57) = W13 := ⟨_, rfl⟩
    have hb13 : Below w12.heap.size w12 W13 := by rw [← hW13]; exact (Below.refl _ _).alloc (Nat.le_refl _) _
    have hn13 : W13.heap[w12.heap.size]? = some (.cells C 57 (0, 0)) := by rw [← hW13]; exact heap_alloc_new w12 _
    have hB1113 : Below w11.heap.size w11 W13 := hB12.trans (hb13.mono z12)
    have hS13 := (hB1113.block (w.heap.size + 1) (by omega)).trans HS11.out
    have hF13 := (hB1113.block w.heap.size (by omega)).trans HF11.out
    have hG13 := (hB1113.block w6.heap.size z11).trans HG2.out
    have hBw13 := HBW11.out.trans (hB1113.mono HBW11.out.size)
    have HW13 := Lib.hid hW13
    clear hB12 hb13 hB1113 hW13
    go_upto_region 5 with (refine wpList_store_row rfl 57 _ _ rfl w12.heap.size C rfl rfl 57 Z4 (heap_alloc_new w12 _) HI.out H44.out H1B.out ?_; rw [World.setRow_alloc_new])
    rw [HW13.out]
    go_wp2_with (first | (refine wpList_row_on (by rfl) 57 _ rfl w12.heap.size rfl 57 _ _ _ hn13 Try.underlying57 rfl HI.out ?_) | (refine wpList_row_on (by rfl) 57 _ rfl w.heap.size rfl 57 _ _ _ hF13 Try.underlying57 rfl HI.out ?_) | (refine wpList_neq_on (by rfl) 57 57 _ _ rfl C C rfl rfl (by kernel_rfl) true HEQ.out ?_) | (refine wpList_row_on (by rfl) 65 _ rfl w6.heap.size rfl 65 _ _ _ hG13 Try.underlying65 rfl HI2.out ?_) | (refine wpList_store_row rfl 65 _ _ rfl (w.heap.size + 1) (EC e2) rfl rfl 65 Z hS13 HI2.out HSZ2.out hone2 ?_))
    refine bodyPost_ret (results_row_tmp rfl _ _ (w.heap.size + 1) 65 (EC e2) _ _ rfl (setRow_heap _ _ _ _ _ _ hS13) Try.underlying65 rfl HI2.out) rfl ?_
    exact ⟨by rw [HRR.out]; rfl, below_setRow hBw13 (by omega) _⟩
end Go.Proofs.Ytoiephmngdecaaa
namespace Go.Proofs.Ytoiephmngdecaaa
open Go.RowKit Go.Rv Frm
set_option linter.unusedVariables false
/-- a frame's entry, and an error -/
def readE (f : Fr) : En.E × Int :=
  if (En.ofE f.kind f.body).2 ≠ 0 then (En.E.zero, (En.ofE f.kind f.body).2)
  else if (frameE (En.ofE f.kind f.body).1 f.zone f.off f.epoch f.seq).2 ≠ 0 then (En.E.zero, (frameE (En.ofE f.kind f.body).1 f.zone f.off f.epoch f.seq).2)
  else ((En.ofE f.kind f.body).1, 0)
theorem ofE_body {kind : Int} {b : List Nat} (hl : b.length = 44) (hb : ∀ c ∈ b, c < 256) : EBody (En.ofE kind b).1 := by
  unfold En.ofE
  split
  · exact parse_ebody hl hb
  · exact ⟨by simp [En.E.zero], by simp [En.E.zero]⟩
theorem frame_range {w : World} {g : Nat} {f : Fr} {t : TypeId} (h : w.heap[g]? = some (.cells (FC f) t (0, 0))) : w.rangeAt g 5 (byteCells f.body).toList := fun j v hv => by
  have hj : j < f.body.length := by
    have := (List.getElem?_eq_some_iff.1 hv).1
    rwa [Array.length_toList, size_byteCells] at this
  rw [cell_of_row _ _ _ _ _ _ h, FC_body f j hj, ← hv, Array.getElem?_toList, byteCells_at _ _ hj]
set_option maxRecDepth 100000 in
set_option maxHeartbeats 2000000 in
theorem eread_any (f : Fr) (w : World) (hb : Body f.body) :
    Calls Try.prog 39 #[.agg (FC f)] w (EntPost (readE f) w) := by
  have hz := (zero_of_info Try.infoEntry).1
  have hzf := (zero_of_info Try.infoFrame).1
  have HIZ := Lib.hid (size_ent (e := En.E.zero) (by simp [En.E.zero]))
  have hone := EC_one En.E.zero
  have HBZ := Lib.hid built_ent0
  have HEB := Lib.hid (ofE_body (kind := f.kind) hb.1 hb.2)
  obtain ⟨r, hr⟩ : ∃ r, En.ofE f.kind f.body = r := ⟨_, rfl⟩
  have HOF : Hid (∀ W, Calls Try.prog 58 #[.int .i64 f.kind, .agg (byteCells f.body).toList.toArray] W fun x w' => x = .returned (.tuple #[.agg (EC r.1), .int .i64 r.2]) ∧ Below W.heap.size W w') := Lib.hid (fun W => by rw [Array.toArray_toList, ← hr]; exact eof_any f.kind f.body W hb.1 hb.2)
  have HRE : Hid (readE f = if r.2 ≠ 0 then (En.E.zero, r.2) else if (frameE r.1 f.zone f.off f.epoch f.seq).2 ≠ 0 then (En.E.zero, (frameE r.1 f.zone f.off f.epoch f.seq).2) else (r.1, 0)) := Lib.hid (by unfold readE; rw [hr])
  have hEB := HEB.out
  rw [hr] at hEB
  have HFR := Lib.hid (fun W => eframe_any r.1 f.zone f.off f.epoch f.seq W hEB)
  have HIE := Lib.hid (size_ent (e := r.1) hEB.1)
  have HSZ : Hid ((EC En.E.zero).size = (EC r.1).size) := Lib.hid (by rw [EC_size, EC_size, hEB.1]; rfl)
  have honeR := EC_one r.1
  have HIL : Hid ((Try.prog.info? 57).map (·.size) = some (byteCells f.body).toList.length) := Lib.hid (by rw [Array.length_toList]; exact size_body hb.1)
  have hF0 := heap_alloc2_old w (.cells (FC f) 68) (.cells (EC En.E.zero) 65)
  have hR0 := heap_alloc2_new w (.cells (FC f) 68) (.cells (EC En.E.zero) 65)
  have hB0 : Below w.heap.size w ((w.alloc (.cells (FC f) 68)).alloc (.cells (EC En.E.zero) 65)) := ((Below.refl _ w).alloc (Nat.le_refl _) _).alloc (by simp) _
  obtain ⟨c0, c1, c2, c3, c4⟩ := frame_cells hF0
  have hmid := frame_range hF0
  have HFC := Lib.hid (fun (W : World) (h : W.heap[w.heap.size]? = some (.cells (FC f) 68 (0, 0))) => frame_cells h)
  obtain ⟨Z, hZ⟩ : ∃ Z, EC En.E.zero = Z := ⟨_, rfl⟩
  obtain ⟨C, hC⟩ : ∃ C, FC f = C := ⟨_, rfl⟩
  obtain ⟨X, hX⟩ : ∃ X, EC r.1 = X := ⟨_, rfl⟩
  obtain ⟨BL, hBL⟩ : ∃ BL, (byteCells f.body).toList = BL := ⟨_, rfl⟩
  rw [hZ] at hz hone HIZ HBZ hF0 hR0 hB0 HSZ c0 c1 c2 c3 c4 hmid
  rw [hC] at hF0 hR0 hB0 HFC c0 c1 c2 c3 c4 hmid ⊢
  rw [hX] at HOF HFR HIE HSZ honeR
  rw [hBL] at HOF HIL hmid
  have HZ := Lib.hid hZ
  have HX := Lib.hid hX
  clear hZ hC hX hBL hr hEB HEB hb
  unfold FrmPost at HFR
  have z0 : w.heap.size + 1 < ((w.alloc (.cells C 68)).alloc (.cells Z 65)).heap.size := by simp
  go_enter Try.func39, Try.ntmps39
  go_wp2_with (refine wpList_load_mid_asked (by rfl) 57 _ rfl w.heap.size 5 rfl BL _ hmid Try.underlying57 rfl HIL.out ?_)
  refine (HOF.out _).mono ?_
  rintro x w1 ⟨rfl, hB1⟩
  have hF1 := (hB1.block w.heap.size (by omega)).trans hF0
  have hS1 := (hB1.block (w.heap.size + 1) z0).trans hR0
  have hBw1 := hB0.trans (hB1.mono (by omega))
  have z1 : w.heap.size + 1 < w1.heap.size := (Array.getElem?_eq_some_iff.1 hS1).1
  obtain ⟨W2, hW2⟩ : ∃ W2, w1.alloc (.cells X 65) = W2 := ⟨_, rfl⟩
  have hb2 : Below w1.heap.size w1 W2 := by rw [← hW2]; exact (Below.refl _ _).alloc (Nat.le_refl _) _
  have hG2 : W2.heap[w1.heap.size]? = some (.cells X 65 (0, 0)) := by rw [← hW2]; exact heap_alloc_new w1 _
  have hF2 := (hb2.block w.heap.size (by omega)).trans hF1
  have hS2 := (hb2.block (w.heap.size + 1) z1).trans hS1
  have hBw2 := hBw1.trans (hb2.mono hBw1.size)
  have z2 : w1.heap.size < W2.heap.size := (Array.getElem?_eq_some_iff.1 hG2).1
  have HW2 := Lib.hid hW2
  clear hb2 hW2 hF1 hS1 hBw1 hB1 hF0 hR0 hB0 hmid c0 c1 c2 c3 c4
  obtain ⟨r1, r2⟩ := r
  by_cases hr2 : r2 = 0
  · subst hr2
    obtain ⟨d0, d1, d2, d3, d4⟩ := HFC.out _ hF2
    go_upto_region 2 with (refine wpList_store_row rfl 65 _ _ rfl w1.heap.size X rfl rfl 65 Z (heap_alloc_new w1 _) HIE.out HSZ.out honeR ?_; rw [World.setRow_alloc_new, HW2.out])
    go_wp2_with (refine wpList_load_row rfl 65 _ rfl w1.heap.size rfl 65 _ _ _ hG2 Try.underlying65 rfl HIE.out ?_)
    refine (HFR.out _).mono ?_
    rintro x w3 ⟨rfl, hB3⟩
    have hS3 := (hB3.block (w.heap.size + 1) (by omega)).trans hS2
    have hG3 := (hB3.block w1.heap.size z2).trans hG2
    have hBw3 := hBw2.trans (hB3.mono hBw2.size)
    obtain ⟨q, hq⟩ : ∃ q, frameE r1 f.zone f.off f.epoch f.seq = q := ⟨_, rfl⟩
    rw [hq] at HRE ⊢
    obtain ⟨q1, q2⟩ := q
    by_cases hq2 : q2 = 0
    · subst hq2
      have HRR : Hid (readE f = (r1, 0)) := Lib.hid (by have := HRE.out; simpa using this)
      clear hq hB3 HRE
      go_wp2_with (first | (refine wpList_load_row rfl 65 _ rfl w1.heap.size rfl 65 _ _ _ hG3 Try.underlying65 rfl HIE.out ?_) | (refine wpList_store_row rfl 65 _ _ rfl (w.heap.size + 1) X rfl rfl 65 Z hS3 HIE.out HSZ.out honeR ?_))
      refine bodyPost_ret (results_row_tmp rfl _ _ (w.heap.size + 1) 65 X _ _ rfl (setRow_heap _ _ _ _ _ _ hS3) Try.underlying65 rfl HIE.out) rfl ?_
      exact ⟨by rw [HRR.out, HX.out]; rfl, below_setRow hBw3 (by omega) _⟩
    · have HRR : Hid (readE f = (En.E.zero, q2)) := Lib.hid (by have := HRE.out; simpa [hq2] using this)
      have t1 : (q2 != 0) = true := by simpa using hq2
      clear hq hB3 HRE hq2
      go_wp2_with (first | (refine wpList_build_asked (by rfl) 65 _ rfl #[] (by rfl) Z HBZ.out ?_) | (refine wpList_store_row rfl 65 _ _ rfl (w.heap.size + 1) Z rfl rfl 65 Z hS3 HIZ.out rfl hone ?_))
      refine bodyPost_ret (results_row_tmp rfl _ _ (w.heap.size + 1) 65 Z _ _ rfl (setRow_heap _ _ _ _ _ _ hS3) Try.underlying65 rfl HIZ.out) rfl ?_
      exact ⟨by rw [HRR.out, HZ.out]; rfl, below_setRow hBw3 (by omega) _⟩
  · have HRR : Hid (readE f = (En.E.zero, r2)) := Lib.hid (by have := HRE.out; simpa [hr2] using this)
    have t1 : (r2 != 0) = true := by simpa using hr2
    clear HRE hr2
    go_upto_region 2 with (refine wpList_store_row rfl 65 _ _ rfl w1.heap.size X rfl rfl 65 Z (heap_alloc_new w1 _) HIE.out HSZ.out honeR ?_; rw [World.setRow_alloc_new, HW2.out])
    go_wp2_with (first | (refine wpList_build_asked (by rfl) 65 _ rfl #[] (by rfl) Z HBZ.out ?_) | (refine wpList_store_row rfl 65 _ _ rfl (w.heap.size + 1) Z rfl rfl 65 Z hS2 HIZ.out rfl hone ?_))
    refine bodyPost_ret (results_row_tmp rfl _ _ (w.heap.size + 1) 65 Z _ _ rfl (setRow_heap _ _ _ _ _ _ hS2) Try.underlying65 rfl HIZ.out) rfl ?_
    exact ⟨by rw [HRR.out, HZ.out]; rfl, below_setRow hBw2 (by omega) _⟩
end Go.Proofs.Ytoiephmngdecaaa
namespace Geo
/-- a geometry's numbers -/
structure G where
  d : Int
  z : Int
  s : Int
  b : Int
  p : Int
  o : Int
/-- is it one from a to b? -/
def inB (n a b : Int) : Bool := decide (a ≤ n) && decide (n ≤ b)
theorem inB_iff {n a b : Int} : inB n a b = true ↔ a ≤ n ∧ n ≤ b := by simp [inB]
def Small (g : G) : Prop := (3 ≤ g.d ∧ g.d ≤ 8) ∧ (1 ≤ g.z ∧ g.z ≤ 64) ∧ (4 ≤ g.s ∧ g.s ≤ 64) ∧ (1 ≤ g.b ∧ g.b ≤ 256) ∧ (0 ≤ g.p ∧ g.p ≤ 4) ∧ (4 ≤ g.o ∧ g.o ≤ 64)
def small (g : G) : Bool := inB g.d 3 8 && inB g.z 1 64 && inB g.s 4 64 && inB g.b 1 256 && inB g.p 0 4 && inB g.o 4 64
theorem small_iff (g : G) : small g = true ↔ Small g := by
  simp only [small, Small, Bool.and_eq_true, inB_iff]
  constructor
  · rintro ⟨⟨⟨⟨⟨h1, h2⟩, h3⟩, h4⟩, h5⟩, h6⟩
    exact ⟨h1, h2, h3, h4, h5, h6⟩
  · rintro ⟨h1, h2, h3, h4, h5, h6⟩
    exact ⟨⟨⟨⟨⟨h1, h2⟩, h3⟩, h4⟩, h5⟩, h6⟩
def parts (g : G) : Int := 1 + (g.b + 2 - 1) / 2
def reserve (g : G) : Int := g.d * g.p + 4
def u (g : G) : Int := g.z - g.p - 2
def fewA (g : G) : Int := (g.d - 1) * u g - reserve g + 1
def fewB (g : G) : Int := g.d * u g - 2 * reserve g + 1
def segs (g : G) : Int := min (fewA g) (fewB g) / 2 - 1 - g.d * g.p
def right (g : G) : Bool := small g && (decide (parts g ≤ g.s) && decide (2 * g.b ≤ g.s * segs g))
theorem right_iff (g : G) : right g = true ↔ Small g ∧ parts g ≤ g.s ∧ 2 * g.b ≤ g.s * segs g := by
  simp only [right, Bool.and_eq_true, small_iff, decide_eq_true_eq]
theorem mul_bd {a b x y : Int} (ha : 0 ≤ a) (hx : a ≤ x) (hb : -y ≤ b) (hb' : b ≤ y) : -(x * y) ≤ a * b ∧ a * b ≤ x * y := by
  have hy : 0 ≤ y := by omega
  have h1 : a * y ≤ x * y := Int.mul_le_mul_of_nonneg_right hx hy
  have h2 : a * b ≤ a * y := Int.mul_le_mul_of_nonneg_left hb' ha
  have h3 : a * (-y) ≤ a * b := Int.mul_le_mul_of_nonneg_left hb ha
  rw [Int.mul_neg] at h3
  omega
theorem u_bd {g : G} (h : Small g) : -62 ≤ u g ∧ u g ≤ 62 := by
  obtain ⟨h1, h2, h3, h4, h5, h6⟩ := h
  unfold u
  omega
theorem dp_bd {g : G} (h : Small g) : 0 ≤ g.d * g.p ∧ g.d * g.p ≤ 32 := by
  obtain ⟨h1, h2, h3, h4, h5, h6⟩ := h
  have := mul_bd (a := g.d) (b := g.p) (x := 8) (y := 4) (by omega) (by omega) (by omega) (by omega)
  have := Int.mul_nonneg (a := g.d) (b := g.p) (by omega) (by omega)
  omega
theorem du_bd {g : G} (h : Small g) : -496 ≤ g.d * u g ∧ g.d * u g ≤ 496 := by
  have hu := u_bd h
  obtain ⟨h1, h2, h3, h4, h5, h6⟩ := h
  have := mul_bd (a := g.d) (b := u g) (x := 8) (y := 62) (by omega) (by omega) (by omega) (by omega)
  omega
theorem eu_bd {g : G} (h : Small g) : -434 ≤ (g.d - 1) * u g ∧ (g.d - 1) * u g ≤ 434 := by
  have hu := u_bd h
  obtain ⟨h1, h2, h3, h4, h5, h6⟩ := h
  have := mul_bd (a := g.d - 1) (b := u g) (x := 7) (y := 62) (by omega) (by omega) (by omega) (by omega)
  omega
theorem few_bd {g : G} (h : Small g) : -1000 ≤ fewA g ∧ fewA g ≤ 1000 ∧ -1000 ≤ fewB g ∧ fewB g ≤ 1000 := by
  have h1 := dp_bd h
  have h2 := du_bd h
  have h3 := eu_bd h
  unfold fewA fewB reserve
  omega
theorem segs_bd {g : G} (h : Small g) : -1000 ≤ segs g ∧ segs g ≤ 1000 := by
  have h1 := dp_bd h
  have h2 := few_bd h
  unfold segs
  omega
theorem ss_bd {g : G} (h : Small g) : -64000 ≤ g.s * segs g ∧ g.s * segs g ≤ 64000 := by
  have hs := segs_bd h
  obtain ⟨h1, h2, h3, h4, h5, h6⟩ := h
  have := mul_bd (a := g.s) (b := segs g) (x := 64) (y := 1000) (by omega) (by omega) (by omega) (by omega)
  omega
theorem dz_bd {g : G} (h : Small g) : 3 ≤ g.d * g.z ∧ g.d * g.z ≤ 512 := by
  obtain ⟨h1, h2, h3, h4, h5, h6⟩ := h
  have h7 := mul_bd (a := g.d) (b := g.z) (x := 8) (y := 64) (by omega) (by omega) (by omega) (by omega)
  have h8 : g.d * 1 ≤ g.d * g.z := Int.mul_le_mul_of_nonneg_left (by omega) (by omega)
  omega
theorem mul_mono {a b c d : Int} (ha : 0 ≤ a) (h : b ≤ d) (hc : a = c) : a * b ≤ c * d := by
  subst hc
  exact Int.mul_le_mul_of_nonneg_left h ha
/-- more zones, fewer blocks -/
theorem more {g : G} (h : right g = true) (z b : Int) (hz : g.z ≤ z) (hz' : z ≤ 64) (hb : 1 ≤ b) (hb' : b ≤ g.b) : right { g with z := z, b := b } = true := by
  rw [right_iff] at h ⊢
  obtain ⟨hs, hp, hg⟩ := h
  have hs' := hs
  obtain ⟨h1, h2, h3, h4, h5, h6⟩ := hs
  have hS : Small { g with z := z, b := b } := ⟨h1, ⟨by show 1 ≤ z; omega, hz'⟩, h3, ⟨hb, by show b ≤ 256; omega⟩, h5, h6⟩
  refine ⟨hS, ?_, ?_⟩
  · show 1 + (b + 2 - 1) / 2 ≤ g.s
    unfold parts at hp
    omega
  · show 2 * b ≤ g.s * segs { g with z := z, b := b }
    have e : segs g ≤ segs { g with z := z, b := b } := by
      have e1 : (g.d - 1) * u g ≤ (g.d - 1) * u { g with z := z, b := b } := mul_mono (by omega) (by unfold u; show g.z - g.p - 2 ≤ z - g.p - 2; omega) rfl
      have e2 : g.d * u g ≤ g.d * u { g with z := z, b := b } := mul_mono (by omega) (by unfold u; show g.z - g.p - 2 ≤ z - g.p - 2; omega) rfl
      have e3 : fewA g ≤ fewA { g with z := z, b := b } := by
        unfold fewA reserve
        show (g.d - 1) * u g - (g.d * g.p + 4) + 1 ≤ (g.d - 1) * u { g with z := z, b := b } - (g.d * g.p + 4) + 1
        omega
      have e4 : fewB g ≤ fewB { g with z := z, b := b } := by
        unfold fewB reserve
        show g.d * u g - 2 * (g.d * g.p + 4) + 1 ≤ g.d * u { g with z := z, b := b } - 2 * (g.d * g.p + 4) + 1
        omega
      unfold segs
      show min (fewA g) (fewB g) / 2 - 1 - g.d * g.p ≤ min (fewA { g with z := z, b := b }) (fewB { g with z := z, b := b }) / 2 - 1 - g.d * g.p
      omega
    have e5 : g.s * segs g ≤ g.s * segs { g with z := z, b := b } := mul_mono (by omega) e rfl
    omega
theorem segs_pos {g : G} (h : right g = true) : 1 ≤ segs g := by
  rw [right_iff] at h
  obtain ⟨hs, hp, hg⟩ := h
  obtain ⟨h1, h2, h3, h4, h5, h6⟩ := hs
  rcases Int.lt_or_le 0 (segs g) with h | h
  · omega
  · have : g.s * segs g ≤ g.s * 0 := mul_mono (by omega) h rfl
    omega
/-- each domain has more zones than may fail, and two more -/
theorem zones_more {g : G} (h : right g = true) : g.p + 2 < g.z := by
  have hp := segs_pos h
  have hs : Small g := ((right_iff g).1 h).1
  have hd := dp_bd hs
  rcases Int.lt_or_le (g.p + 2) g.z with h' | h'
  · exact h'
  · have hu : u g ≤ 0 := by unfold u; omega
    have e : (g.d - 1) * u g ≤ (g.d - 1) * 0 := mul_mono (by have := hs.1; omega) hu rfl
    unfold segs fewA fewB reserve at hp
    omega
def commands (g : G) : Int := 64 * (g.d * g.z + 2) * (g.d * g.z + 2) * (g.s + 2) * (g.b + g.s + parts g + 4)
def passes (g : G) : Int := (g.d * g.p + 3) * (g.b + 3)
theorem passes_ge {g : G} (h : Small g) : 3 * (g.b + 3) ≤ passes g := by
  have hd := dp_bd h
  obtain ⟨h1, h2, h3, h4, h5, h6⟩ := h
  unfold passes
  exact Int.mul_le_mul_of_nonneg_right (by omega) (by omega)
theorem commands_pos {g : G} (h : Small g) : 0 < commands g := by
  have hd := dz_bd h
  obtain ⟨h1, h2, h3, h4, h5, h6⟩ := h
  unfold commands parts
  refine Int.mul_pos (Int.mul_pos (Int.mul_pos (Int.mul_pos (by omega) (by omega)) (by omega)) (by omega)) (by omega)
end Geo
namespace Go.Proofs.Ytoiephmngdecaaa
open Go.RowKit Go.Rv
set_option linter.unusedVariables false
/-- a geometry's cells -/
def GC (g : Geo.G) : Array Value := #[.int .i64 g.d, .int .i64 g.z, .int .i64 g.s, .int .i64 g.b, .int .i64 g.p, .int .i64 g.o]
theorem GC_one (g : Geo.G) : (GC g).all (·.oneCell') = true := by simp [GC, Value.oneCell']
theorem GC_size (g : Geo.G) : (GC g).size = 6 := rfl
theorem Try.infoGeom : (Try.prog.info? 23).map (·.size) = some 6 := by kernel_rfl
theorem geo_cells {w : World} {b : Nat} {g : Geo.G} {t : TypeId} (h : w.heap[b]? = some (.cells (GC g) t (0, 0))) : w.cell? ⟨b, 0, none⟩ = some (.int .i64 g.d) ∧ w.cell? ⟨b, 1, none⟩ = some (.int .i64 g.z) ∧ w.cell? ⟨b, 2, none⟩ = some (.int .i64 g.s) ∧ w.cell? ⟨b, 3, none⟩ = some (.int .i64 g.b) ∧ w.cell? ⟨b, 4, none⟩ = some (.int .i64 g.p) ∧ w.cell? ⟨b, 5, none⟩ = some (.int .i64 g.o) :=
  ⟨(cell_of_row _ _ _ _ _ _ h).trans rfl, (cell_of_row _ _ _ _ _ _ h).trans rfl, (cell_of_row _ _ _ _ _ _ h).trans rfl, (cell_of_row _ _ _ _ _ _ h).trans rfl, (cell_of_row _ _ _ _ _ _ h).trans rfl, (cell_of_row _ _ _ _ _ _ h).trans rfl⟩
set_option maxRecDepth 100000 in
set_option maxHeartbeats 400000 in
theorem gwithin_any (n a b : Int) (w : World) :
    Calls Try.prog 59 #[.int .i64 n, .int .i64 a, .int .i64 b] w fun e w' => e = .returned (.bool (Geo.inB n a b)) ∧ w = w' := by
  unfold Geo.inB
  cases h1 : decide (a ≤ n)
  · go_enter Try.func59, Try.ntmps59
    go_wp2
    go_ret
    exact ⟨rfl, rfl⟩
  · go_enter Try.func59, Try.ntmps59
    go_wp2
    go_ret
    exact ⟨rfl, rfl⟩
set_option maxRecDepth 100000 in
set_option maxHeartbeats 2000000 in
theorem gsmall_any (g : Geo.G) (w : World) :
    Calls Try.prog 62 #[.agg (GC g)] w fun e w' => e = .returned (.bool (Geo.small g)) ∧ Below w.heap.size w w' := by
  have hg := heap_alloc_new w (.cells (GC g) 23)
  obtain ⟨c0, c1, c2, c3, c4, c5⟩ := geo_cells hg
  have hB : Below w.heap.size w (w.alloc (.cells (GC g) 23)) := (Below.refl _ _).alloc (Nat.le_refl _) _
  have HR := Lib.hid (show Geo.small g = _ from rfl)
  unfold Geo.small at HR
  have H0 := Lib.hid (fun W => gwithin_any g.d 3 8 W)
  have H1 := Lib.hid (fun W => gwithin_any g.z 1 64 W)
  have H2 := Lib.hid (fun W => gwithin_any g.s 4 64 W)
  have H3 := Lib.hid (fun W => gwithin_any g.b 1 256 W)
  have H4 := Lib.hid (fun W => gwithin_any g.p 0 4 W)
  have H5 := Lib.hid (fun W => gwithin_any g.o 4 64 W)
  have HRR : Hid (Geo.small g = (Geo.inB g.d 3 8 && Geo.inB g.z 1 64 && Geo.inB g.s 4 64 && Geo.inB g.b 1 256 && Geo.inB g.p 0 4 && Geo.inB g.o 4 64)) := Lib.hid rfl
  clear HR
  generalize Geo.inB g.d 3 8 = b0 at *
  generalize Geo.inB g.z 1 64 = b1 at *
  generalize Geo.inB g.s 4 64 = b2 at *
  generalize Geo.inB g.b 1 256 = b3 at *
  generalize Geo.inB g.p 0 4 = b4 at *
  generalize Geo.inB g.o 4 64 = b5 at *
  generalize GC g = C at *
  clear hg
  go_enter Try.func62, Try.ntmps62
  go_wp2_with fail
  refine (H0.out _).mono ?_
  rintro e w' ⟨rfl, rfl⟩
  cases b0
  case false =>
    go_wp2
    go_ret
    exact ⟨by rw [HRR.out]; rfl, hB⟩
  go_wp2_with fail
  refine (H1.out _).mono ?_
  rintro e w' ⟨rfl, rfl⟩
  cases b1
  case false =>
    go_wp2
    go_ret
    exact ⟨by rw [HRR.out]; rfl, hB⟩
  go_wp2_with fail
  refine (H2.out _).mono ?_
  rintro e w' ⟨rfl, rfl⟩
  cases b2
  case false =>
    go_wp2
    go_ret
    exact ⟨by rw [HRR.out]; rfl, hB⟩
  go_wp2_with fail
  refine (H3.out _).mono ?_
  rintro e w' ⟨rfl, rfl⟩
  cases b3
  case false =>
    go_wp2
    go_ret
    exact ⟨by rw [HRR.out]; rfl, hB⟩
  go_wp2_with fail
  refine (H4.out _).mono ?_
  rintro e w' ⟨rfl, rfl⟩
  cases b4
  case false =>
    go_wp2
    go_ret
    exact ⟨by rw [HRR.out]; rfl, hB⟩
  go_wp2_with fail
  refine (H5.out _).mono ?_
  rintro e w' ⟨rfl, rfl⟩
  go_wp2
  go_ret
  exact ⟨by rw [HRR.out]; rfl, hB⟩
set_option maxRecDepth 100000 in
set_option maxHeartbeats 1000000 in
theorem gparts_any (g : Geo.G) (w : World) (h : Geo.Small g) :
    Calls Try.prog 63 #[.agg (GC g)] w fun e w' => e = .returned (.int .i64 (Geo.parts g)) ∧ Below w.heap.size w w' := by
  have hg := heap_alloc_new w (.cells (GC g) 23)
  obtain ⟨c0, c1, c2, c3, c4, c5⟩ := geo_cells hg
  have hB : Below w.heap.size w (w.alloc (.cells (GC g) 23)) := (Below.refl _ _).alloc (Nat.le_refl _) _
  obtain ⟨-, -, -, hb, -, -⟩ := h
  have HP : Hid (Geo.parts g = 1 + (g.b + 2 - 1) / 2) := Lib.hid rfl
  generalize GC g = C at *
  clear hg
  go_enter Try.func63, Try.ntmps63
  go_wp2
  go_ret
  exact ⟨rfl, hB⟩
set_option maxRecDepth 100000 in
set_option maxHeartbeats 1000000 in
theorem greserve_any (g : Geo.G) (w : World) (h : Geo.Small g) :
    Calls Try.prog 74 #[.agg (GC g)] w fun e w' => e = .returned (.int .i64 (Geo.reserve g)) ∧ Below w.heap.size w w' := by
  have hg := heap_alloc_new w (.cells (GC g) 23)
  obtain ⟨c0, c1, c2, c3, c4, c5⟩ := geo_cells hg
  have hB : Below w.heap.size w (w.alloc (.cells (GC g) 23)) := (Below.refl _ _).alloc (Nat.le_refl _) _
  have hd := Geo.dp_bd h
  generalize GC g = C at *
  clear hg
  go_enter Try.func74, Try.ntmps74
  go_wp2
  go_ret
  exact ⟨rfl, hB⟩
set_option maxRecDepth 100000 in
set_option maxHeartbeats 1000000 in
theorem gall_any (g : Geo.G) (w : World) (h : Geo.Small g) :
    Calls Try.prog 46 #[.agg (GC g)] w fun e w' => e = .returned (.int .i64 (g.d * g.z)) ∧ Below w.heap.size w w' := by
  have hg := heap_alloc_new w (.cells (GC g) 23)
  obtain ⟨c0, c1, c2, c3, c4, c5⟩ := geo_cells hg
  have hB : Below w.heap.size w (w.alloc (.cells (GC g) 23)) := (Below.refl _ _).alloc (Nat.le_refl _) _
  have hd := Geo.dz_bd h
  generalize GC g = C at *
  clear hg
  go_enter Try.func46, Try.ntmps46
  go_wp2
  go_ret
  exact ⟨rfl, hB⟩
end Go.Proofs.Ytoiephmngdecaaa
namespace Go.Proofs.Ytoiephmngdecaaa
open Go.RowKit Go.Rv
set_option linter.unusedVariables false
theorem ret_i64 {a b : Int} (h : a = b) : Ending.returned (.int .i64 a) = .returned (.int .i64 b) := by rw [h]
set_option maxRecDepth 100000 in
set_option maxHeartbeats 2000000 in
theorem gsegs_any (g : Geo.G) (w : World) (h : Geo.Small g) :
    Calls Try.prog 64 #[.agg (GC g)] w fun e w' => e = .returned (.int .i64 (Geo.segs g)) ∧ Below w.heap.size w w' := by
  have hg := heap_alloc_new w (.cells (GC g) 23)
  obtain ⟨c0, c1, c2, c3, c4, c5⟩ := geo_cells hg
  have hB : Below w.heap.size w (w.alloc (.cells (GC g) 23)) := (Below.refl _ _).alloc (Nat.le_refl _) _
  have HRES := Lib.hid (fun W => greserve_any g W h)
  have hu := Geo.u_bd h
  have hdp := Geo.dp_bd h
  have hdu := Geo.du_bd h
  have heu := Geo.eu_bd h
  have hfew := Geo.few_bd h
  have hsg := Geo.segs_bd h
  obtain ⟨⟨h1, h1'⟩, ⟨h2, h2'⟩, ⟨h3, h3'⟩, ⟨h4, h4'⟩, ⟨h5, h5'⟩, ⟨h6, h6'⟩⟩ := h
  have HS : Hid (Geo.segs g = min (Geo.fewA g) (Geo.fewB g) / 2 - 1 - g.d * g.p) := Lib.hid rfl
  have z0 : (w.alloc (.cells (GC g) 23)).heap.size = w.heap.size + 1 := by simp
  go_enter Try.func64, Try.ntmps64
  go_wp2_with fail
  have q1 : IntKind.i64.wrap (g.z - g.p) = g.z - g.p := IntWalk.i64_in _ (by omega)
  have q2 : IntKind.i64.wrap (g.z - g.p - 2) = g.z - g.p - 2 := IntWalk.i64_in _ (by omega)
  obtain ⟨W0, hW0⟩ : ∃ W0, w.alloc (.cells (GC g) 23) = W0 := ⟨_, rfl⟩
  rw [hW0] at c0 c1 c2 c3 c4 c5 hB z0 ⊢
  have HW0 := Lib.hid hW0
  clear hW0
  go_region_held3 (fun W => W.cell? ⟨w.heap.size, 0, none⟩ = some (.int .i64 g.d) ∧ W.cell? ⟨w.heap.size, 1, none⟩ = some (.int .i64 g.z) ∧ W.cell? ⟨w.heap.size, 2, none⟩ = some (.int .i64 g.s) ∧ W.cell? ⟨w.heap.size, 3, none⟩ = some (.int .i64 g.b) ∧ W.cell? ⟨w.heap.size, 4, none⟩ = some (.int .i64 g.p) ∧ W.cell? ⟨w.heap.size, 5, none⟩ = some (.int .i64 g.o)) (first | (refine ⟨?_, ?_, ?_, ?_, ?_, ?_⟩ <;> assumption) | go_keep) (first | (go_at_call 74; refine (HRES.out _).mono ?_; rintro e w1 ⟨rfl, hB1⟩; have k0 := (hB1.cell (p := ⟨w.heap.size, 0, none⟩) (by simp; omega)).trans c0; have k1 := (hB1.cell (p := ⟨w.heap.size, 1, none⟩) (by simp; omega)).trans c1; have k2 := (hB1.cell (p := ⟨w.heap.size, 2, none⟩) (by simp; omega)).trans c2; have k3 := (hB1.cell (p := ⟨w.heap.size, 3, none⟩) (by simp; omega)).trans c3; have k4 := (hB1.cell (p := ⟨w.heap.size, 4, none⟩) (by simp; omega)).trans c4; have k5 := (hB1.cell (p := ⟨w.heap.size, 5, none⟩) (by simp; omega)).trans c5; have hC1 : Below W0.heap.size W0 w1 := (Below.refl W0.heap.size W0).drew.trans hB1))
  clear q1 q2 HRES hB1 c0 c1 c2 c3 c4 c5
  obtain ⟨uu, huu⟩ : ∃ uu, g.z - g.p - 2 = uu := ⟨_, rfl⟩
  obtain ⟨rr, hrr⟩ : ∃ rr, Geo.reserve g = rr := ⟨_, rfl⟩
  have e1 : Geo.fewA g = (g.d - 1) * uu - rr + 1 := by rw [← huu, ← hrr]; rfl
  have e2 : Geo.fewB g = g.d * uu - 2 * rr + 1 := by rw [← huu, ← hrr]; rfl
  have e3 : Geo.u g = uu := huu
  have e4 : rr = g.d * g.p + 4 := hrr.symm
  rw [e3] at hu hdu heu
  rw [e1, e2] at hfew
  have HS2 : Hid (Geo.segs g = min ((g.d - 1) * uu - rr + 1) (g.d * uu - 2 * rr + 1) / 2 - 1 - g.d * g.p) := Lib.hid (by rw [HS.out, e1, e2])
  have hr1 : 4 ≤ rr := by omega
  have hr2 : rr ≤ 36 := by omega
  rw [hrr, huu]
  clear huu hrr e1 e2 e3 e4 HS HW0
  go_wp2
  all_goals
    go_ret
    exact ⟨ret_i64 (by rw [HS2.out]; omega), hB.trans (hC1.mono hB.size)⟩
end Go.Proofs.Ytoiephmngdecaaa
namespace Go.Proofs.Ytoiephmngdecaaa
open Go.RowKit Go.Rv
set_option linter.unusedVariables false
theorem geo_keep {W0 W : World} {b : Nat} {g : Geo.G} (hB : Below W0.heap.size W0 W) (hz : b < W0.heap.size) (h : W0.cell? ⟨b, 0, none⟩ = some (.int .i64 g.d) ∧ W0.cell? ⟨b, 1, none⟩ = some (.int .i64 g.z) ∧ W0.cell? ⟨b, 2, none⟩ = some (.int .i64 g.s) ∧ W0.cell? ⟨b, 3, none⟩ = some (.int .i64 g.b) ∧ W0.cell? ⟨b, 4, none⟩ = some (.int .i64 g.p) ∧ W0.cell? ⟨b, 5, none⟩ = some (.int .i64 g.o)) :
    W.cell? ⟨b, 0, none⟩ = some (.int .i64 g.d) ∧ W.cell? ⟨b, 1, none⟩ = some (.int .i64 g.z) ∧ W.cell? ⟨b, 2, none⟩ = some (.int .i64 g.s) ∧ W.cell? ⟨b, 3, none⟩ = some (.int .i64 g.b) ∧ W.cell? ⟨b, 4, none⟩ = some (.int .i64 g.p) ∧ W.cell? ⟨b, 5, none⟩ = some (.int .i64 g.o) := by
  obtain ⟨h0, h1, h2, h3, h4, h5⟩ := h
  exact ⟨(hB.cell (p := ⟨b, 0, none⟩) hz).trans h0, (hB.cell (p := ⟨b, 1, none⟩) hz).trans h1, (hB.cell (p := ⟨b, 2, none⟩) hz).trans h2, (hB.cell (p := ⟨b, 3, none⟩) hz).trans h3, (hB.cell (p := ⟨b, 4, none⟩) hz).trans h4, (hB.cell (p := ⟨b, 5, none⟩) hz).trans h5⟩
set_option maxRecDepth 100000 in
set_option maxHeartbeats 4000000 in
theorem gright_core (g : Geo.G) (sm : Bool) (pa se : Int) (r : Bool) (w : World)
    (HSM' : ∀ W, Calls Try.prog 62 #[.agg (GC g)] W fun e w' => e = .returned (.bool sm) ∧ Below W.heap.size W w')
    (HPA' : sm = true → ∀ W, Calls Try.prog 63 #[.agg (GC g)] W fun e w' => e = .returned (.int .i64 pa) ∧ Below W.heap.size W w')
    (HSE' : sm = true → ∀ W, Calls Try.prog 64 #[.agg (GC g)] W fun e w' => e = .returned (.int .i64 se) ∧ Below W.heap.size W w')
    (hr : (sm = false ∧ r = false) ∨ (sm = true ∧ decide (pa ≤ g.s) = false ∧ r = false) ∨ (sm = true ∧ decide (pa ≤ g.s) = true ∧ IntKind.i64.wrap (2 * g.b) = 2 * g.b ∧ IntKind.i64.wrap (g.s * se) = g.s * se ∧ r = decide (2 * g.b ≤ g.s * se))) :
    Calls Try.prog 45 #[.agg (GC g)] w fun e w' => e = .returned (.bool r) ∧ Below w.heap.size w w' := by
  have hg := heap_alloc_new w (.cells (GC g) 23)
  obtain ⟨c0, c1, c2, c3, c4, c5⟩ := geo_cells hg
  have hB : Below w.heap.size w (w.alloc (.cells (GC g) 23)) := (Below.refl _ _).alloc (Nat.le_refl _) _
  have HSM := Lib.hid HSM'
  have HPA := Lib.hid HPA'
  have HSE := Lib.hid HSE'
  clear HSM' HPA' HSE'
  have HR := Lib.hid hr
  have z0 : w.heap.size < (w.alloc (.cells (GC g) 23)).heap.size := by simp
  clear hr hg
  go_enter Try.func45, Try.ntmps45
  go_wp2_with fail
  obtain ⟨W0, hW0⟩ : ∃ W0, w.alloc (.cells (GC g) 23) = W0 := ⟨_, rfl⟩
  rw [hW0] at c0 c1 c2 c3 c4 c5 hB z0 ⊢
  clear hW0
  have HC : Hid (W0.cell? ⟨w.heap.size, 0, none⟩ = some (.int .i64 g.d) ∧ W0.cell? ⟨w.heap.size, 1, none⟩ = some (.int .i64 g.z) ∧ W0.cell? ⟨w.heap.size, 2, none⟩ = some (.int .i64 g.s) ∧ W0.cell? ⟨w.heap.size, 3, none⟩ = some (.int .i64 g.b) ∧ W0.cell? ⟨w.heap.size, 4, none⟩ = some (.int .i64 g.p) ∧ W0.cell? ⟨w.heap.size, 5, none⟩ = some (.int .i64 g.o)) := Lib.hid ⟨c0, c1, c2, c3, c4, c5⟩
  clear c0 c1 c2 c3 c4 c5
  have hB0 := hB
  clear hB
  rcases HR.out with ⟨rfl, rfl⟩ | ⟨rfl, t1, rfl⟩ | ⟨rfl, t1, t2, t3, HF⟩
  · clear HR HPA HSE
    refine wp_region_conf 20 [Fact.eq ?rax0, Fact.eq ?rax1, Fact.eq ?rax2, Fact.eq undef, Fact.eq undef, Fact.eq undef, Fact.eq undef, Fact.eq undef, Fact.eq ?rax8, Fact.eq ?rax9, Fact.eq undef, Fact.eq undef, Fact.eq undef, Fact.eq undef, Fact.eq undef, Fact.eq undef, Fact.eq undef, Fact.eq undef, Fact.eq undef, Fact.eq ?rax19] ?raA (by kernel_rfl) (by kernel_rfl) ?rahA ?raho ?rahend
    case rahA =>
      intro vv
      simp only [putRules, Nat.reduceAdd]
      rfl
    case raho =>
      refine ⟨?_, ?_, ?_, ?_, ?_, ?_, ?_, ?_, ?_, ?_, ?_, ?_, ?_, ?_, ?_, ?_, ?_, ?_, ?_, ?_, trivial⟩
      · intro vv W K hB hd hK
        simp only [confRules] at hK
        have HK := Lib.hid hK
        clear hK hd
        obtain ⟨k0, k1, k2, k3, k4, k5⟩ := geo_keep hB z0 HC.out
        go_wp2
        refine HK.out _ _ (Below.refl _ _) ?_
        rfl
      · intro vv W K hB hd hK
        simp only [confRules] at hd hK
        have h0 := hd
        clear hd
        simp only [h0] at hK ⊢
        clear h0
        have HK := Lib.hid hK
        clear hK
        go_wp2_with (go_at_call 62; refine (HSM.out _).mono ?_; rintro e w9 ⟨rfl, hB9⟩)
        refine HK.out _ _ hB9 ?_
        rfl
      · intro vv W K hB hd hK
        simp only [confRules] at hd hK
        obtain ⟨h1, _⟩ := hd
        simp only [h1] at hK ⊢
        clear h1
        have HK := Lib.hid hK
        clear hK
        go_wp2
        refine HK.out _ _ (Below.refl _ _) ?_
        rfl
      · intro vv W K hB hd hK
        simp only [confRules] at hd hK
        have h2 := hd
        clear hd
        simp only [h2] at hK ⊢
        clear h2
        have HK := Lib.hid hK
        clear hK
        refine wpList_guard_no (by rfl) ?_
        refine HK.out _ _ (Below.refl _ _) ?_
        rfl
      · intro vv W K hB hd hK
        simp only [confRules] at hd hK
        obtain ⟨h3, h2, _⟩ := hd
        simp only [h3, h2] at hK ⊢
        clear h3 h2
        have HK := Lib.hid hK
        clear hK
        refine wpList_guard_no (by rfl) ?_
        refine HK.out _ _ (Below.refl _ _) ?_
        rfl
      · intro vv W K hB hd hK
        simp only [confRules] at hd hK
        have h2 := hd
        clear hd
        simp only [h2] at hK ⊢
        clear h2
        have HK := Lib.hid hK
        clear hK
        refine wpList_guard_no (by rfl) ?_
        refine HK.out _ _ (Below.refl _ _) ?_
        rfl
      · intro vv W K hB hd hK
        simp only [confRules] at hd hK
        obtain ⟨h5, h2⟩ := hd
        simp only [h5, h2] at hK ⊢
        clear h5 h2
        have HK := Lib.hid hK
        clear hK
        refine wpList_guard_no (by rfl) ?_
        refine HK.out _ _ (Below.refl _ _) ?_
        rfl
      · intro vv W K hB hd hK
        simp only [confRules] at hd hK
        obtain ⟨h4, h6, h2⟩ := hd
        simp only [h4, h6, h2] at hK ⊢
        clear h4 h6 h2
        have HK := Lib.hid hK
        clear hK
        refine wpList_guard_no (by rfl) ?_
        refine HK.out _ _ (Below.refl _ _) ?_
        rfl
      · intro vv W K hB hd hK
        simp only [confRules] at hd hK
        obtain ⟨h2, h7⟩ := hd
        simp only [h2, h7] at hK ⊢
        clear h2 h7
        have HK := Lib.hid hK
        clear hK
        go_wp2
        refine HK.out _ _ (Below.refl _ _) ?_
        rfl
      · intro vv W K hB hd hK
        simp only [confRules] at hd hK
        obtain ⟨h8, h4⟩ := hd
        simp only [h8, h4] at hK ⊢
        clear h8 h4
        have HK := Lib.hid hK
        clear hK
        go_wp2
        refine HK.out _ _ (Below.refl _ _) ?_
        rfl
      · intro vv W K hB hd hK
        simp only [confRules] at hd hK
        have h9 := hd
        clear hd
        simp only [h9] at hK ⊢
        clear h9
        have HK := Lib.hid hK
        clear hK
        refine wpList_guard_no (by rfl) ?_
        refine HK.out _ _ (Below.refl _ _) ?_
        rfl
      · intro vv W K hB hd hK
        simp only [confRules] at hd hK
        obtain ⟨h10, h9⟩ := hd
        simp only [h10, h9] at hK ⊢
        clear h10 h9
        have HK := Lib.hid hK
        clear hK
        refine wpList_guard_no (by rfl) ?_
        refine HK.out _ _ (Below.refl _ _) ?_
        rfl
      · intro vv W K hB hd hK
        simp only [confRules] at hd hK
        obtain ⟨h11, h9⟩ := hd
        simp only [h11, h9] at hK ⊢
        clear h11 h9
        have HK := Lib.hid hK
        clear hK
        refine wpList_guard_no (by rfl) ?_
        refine HK.out _ _ (Below.refl _ _) ?_
        rfl
      · intro vv W K hB hd hK
        simp only [confRules] at hd hK
        have h9 := hd
        clear hd
        simp only [h9] at hK ⊢
        clear h9
        have HK := Lib.hid hK
        clear hK
        refine wpList_guard_no (by rfl) ?_
        refine HK.out _ _ (Below.refl _ _) ?_
        rfl
      · intro vv W K hB hd hK
        simp only [confRules] at hd hK
        obtain ⟨h13, h9⟩ := hd
        simp only [h13, h9] at hK ⊢
        clear h13 h9
        have HK := Lib.hid hK
        clear hK
        refine wpList_guard_no (by rfl) ?_
        refine HK.out _ _ (Below.refl _ _) ?_
        rfl
      · intro vv W K hB hd hK
        simp only [confRules] at hd hK
        have h9 := hd
        clear hd
        simp only [h9] at hK ⊢
        clear h9
        have HK := Lib.hid hK
        clear hK
        refine wpList_guard_no (by rfl) ?_
        refine HK.out _ _ (Below.refl _ _) ?_
        rfl
      · intro vv W K hB hd hK
        simp only [confRules] at hd hK
        obtain ⟨h15, h9, _⟩ := hd
        simp only [h15, h9] at hK ⊢
        clear h15 h9
        have HK := Lib.hid hK
        clear hK
        refine wpList_guard_no (by rfl) ?_
        refine HK.out _ _ (Below.refl _ _) ?_
        rfl
      · intro vv W K hB hd hK
        simp only [confRules] at hd hK
        obtain ⟨h14, h16, h9⟩ := hd
        simp only [h14, h16, h9] at hK ⊢
        clear h14 h16 h9
        have HK := Lib.hid hK
        clear hK
        refine wpList_guard_no (by rfl) ?_
        refine HK.out _ _ (Below.refl _ _) ?_
        rfl
      · intro vv W K hB hd hK
        simp only [confRules] at hd hK
        obtain ⟨h12, h17, h9⟩ := hd
        simp only [h12, h17, h9] at hK ⊢
        clear h12 h17 h9
        have HK := Lib.hid hK
        clear hK
        refine wpList_guard_no (by rfl) ?_
        refine HK.out _ _ (Below.refl _ _) ?_
        rfl
      · intro vv W K hB hd hK
        simp only [confRules] at hd hK
        obtain ⟨h9, h18⟩ := hd
        simp only [h9, h18] at hK ⊢
        clear h9 h18
        have HK := Lib.hid hK
        clear hK
        go_wp2
        refine HK.out _ _ (Below.refl _ _) ?_
        rfl
    case rahend =>
      intro vv W hB hf
      have e19 := hf 19 (by decide)
      simp only [endRules] at e19
      simp only [e19, dropRules]
      clear hf e19
      go_wp2
      go_ret
      exact ⟨rfl, hB0.trans (hB.mono hB0.size)⟩
  · clear HR HSE
    have HPB := Lib.hid (HPA.out rfl)
    have T1 := Lib.hid t1
    clear HPA t1
    refine wp_region_conf 20 [Fact.eq ?rbx0, Fact.eq ?rbx1, Fact.eq ?rbx2, Fact.eq ?rbx3, Fact.eq ?rbx4, Fact.eq ?rbx5, Fact.eq ?rbx6, Fact.eq ?rbx7, Fact.eq ?rbx8, Fact.eq ?rbx9, Fact.eq undef, Fact.eq undef, Fact.eq undef, Fact.eq undef, Fact.eq undef, Fact.eq undef, Fact.eq undef, Fact.eq undef, Fact.eq undef, Fact.eq ?rbx19] ?rbA (by kernel_rfl) (by kernel_rfl) ?rbhA ?rbho ?rbhend
    case rbhA =>
      intro vv
      simp only [putRules, Nat.reduceAdd]
      rfl
    case rbho =>
      refine ⟨?_, ?_, ?_, ?_, ?_, ?_, ?_, ?_, ?_, ?_, ?_, ?_, ?_, ?_, ?_, ?_, ?_, ?_, ?_, ?_, trivial⟩
      · intro vv W K hB hd hK
        simp only [confRules] at hK
        have HK := Lib.hid hK
        clear hK hd
        obtain ⟨k0, k1, k2, k3, k4, k5⟩ := geo_keep hB z0 HC.out
        go_wp2
        refine HK.out _ _ (Below.refl _ _) ?_
        rfl
      · intro vv W K hB hd hK
        simp only [confRules] at hd hK
        have h0 := hd
        clear hd
        simp only [h0] at hK ⊢
        clear h0
        have HK := Lib.hid hK
        clear hK
        go_wp2_with (go_at_call 62; refine (HSM.out _).mono ?_; rintro e w9 ⟨rfl, hB9⟩)
        refine HK.out _ _ hB9 ?_
        rfl
      · intro vv W K hB hd hK
        simp only [confRules] at hd hK
        obtain ⟨h1, _⟩ := hd
        simp only [h1] at hK ⊢
        clear h1
        have HK := Lib.hid hK
        clear hK
        go_wp2
        refine HK.out _ _ (Below.refl _ _) ?_
        rfl
      · intro vv W K hB hd hK
        simp only [confRules] at hd hK
        have h2 := hd
        clear hd
        simp only [h2] at hK ⊢
        clear h2
        have HK := Lib.hid hK
        clear hK
        refine wpList_guard_yes (by rfl) ?_
        obtain ⟨k0, k1, k2, k3, k4, k5⟩ := geo_keep hB z0 HC.out
        go_wp2
        refine HK.out _ _ (Below.refl _ _) ?_
        rfl
      · intro vv W K hB hd hK
        simp only [confRules] at hd hK
        obtain ⟨h3, h2, _⟩ := hd
        simp only [h3, h2] at hK ⊢
        clear h3 h2
        have HK := Lib.hid hK
        clear hK
        refine wpList_guard_yes (by rfl) ?_
        go_wp2_with (go_at_call 63; refine (HPB.out _).mono ?_; rintro e w9 ⟨rfl, hB9⟩)
        refine HK.out _ _ hB9 ?_
        rfl
      · intro vv W K hB hd hK
        simp only [confRules] at hd hK
        have h2 := hd
        clear hd
        simp only [h2] at hK ⊢
        clear h2
        have HK := Lib.hid hK
        clear hK
        refine wpList_guard_yes (by rfl) ?_
        go_wp2
        refine HK.out _ _ (Below.refl _ _) ?_
        rfl
      · intro vv W K hB hd hK
        simp only [confRules] at hd hK
        obtain ⟨h5, h2⟩ := hd
        simp only [h5, h2] at hK ⊢
        clear h5 h2
        have HK := Lib.hid hK
        clear hK
        refine wpList_guard_yes (by rfl) ?_
        obtain ⟨k0, k1, k2, k3, k4, k5⟩ := geo_keep hB z0 HC.out
        go_wp2
        refine HK.out _ _ (Below.refl _ _) ?_
        rfl
      · intro vv W K hB hd hK
        simp only [confRules] at hd hK
        obtain ⟨h4, h6, h2⟩ := hd
        simp only [h4, h6, h2] at hK ⊢
        clear h4 h6 h2
        have HK := Lib.hid hK
        clear hK
        refine wpList_guard_yes (by rfl) ?_
        have t1 := T1.out
        go_wp2
        refine HK.out _ _ (Below.refl _ _) ?_
        rfl
      · intro vv W K hB hd hK
        simp only [confRules] at hd hK
        obtain ⟨h2, h7⟩ := hd
        simp only [h2, h7] at hK ⊢
        clear h2 h7
        have HK := Lib.hid hK
        clear hK
        go_wp2
        refine HK.out _ _ (Below.refl _ _) ?_
        rfl
      · intro vv W K hB hd hK
        simp only [confRules] at hd hK
        obtain ⟨h8, h4⟩ := hd
        simp only [h8, h4] at hK ⊢
        clear h8 h4
        have HK := Lib.hid hK
        clear hK
        go_wp2
        refine HK.out _ _ (Below.refl _ _) ?_
        rfl
      · intro vv W K hB hd hK
        simp only [confRules] at hd hK
        have h9 := hd
        clear hd
        simp only [h9] at hK ⊢
        clear h9
        have HK := Lib.hid hK
        clear hK
        refine wpList_guard_no (by rfl) ?_
        refine HK.out _ _ (Below.refl _ _) ?_
        rfl
      · intro vv W K hB hd hK
        simp only [confRules] at hd hK
        obtain ⟨h10, h9⟩ := hd
        simp only [h10, h9] at hK ⊢
        clear h10 h9
        have HK := Lib.hid hK
        clear hK
        refine wpList_guard_no (by rfl) ?_
        refine HK.out _ _ (Below.refl _ _) ?_
        rfl
      · intro vv W K hB hd hK
        simp only [confRules] at hd hK
        obtain ⟨h11, h9⟩ := hd
        simp only [h11, h9] at hK ⊢
        clear h11 h9
        have HK := Lib.hid hK
        clear hK
        refine wpList_guard_no (by rfl) ?_
        refine HK.out _ _ (Below.refl _ _) ?_
        rfl
      · intro vv W K hB hd hK
        simp only [confRules] at hd hK
        have h9 := hd
        clear hd
        simp only [h9] at hK ⊢
        clear h9
        have HK := Lib.hid hK
        clear hK
        refine wpList_guard_no (by rfl) ?_
        refine HK.out _ _ (Below.refl _ _) ?_
        rfl
      · intro vv W K hB hd hK
        simp only [confRules] at hd hK
        obtain ⟨h13, h9⟩ := hd
        simp only [h13, h9] at hK ⊢
        clear h13 h9
        have HK := Lib.hid hK
        clear hK
        refine wpList_guard_no (by rfl) ?_
        refine HK.out _ _ (Below.refl _ _) ?_
        rfl
      · intro vv W K hB hd hK
        simp only [confRules] at hd hK
        have h9 := hd
        clear hd
        simp only [h9] at hK ⊢
        clear h9
        have HK := Lib.hid hK
        clear hK
        refine wpList_guard_no (by rfl) ?_
        refine HK.out _ _ (Below.refl _ _) ?_
        rfl
      · intro vv W K hB hd hK
        simp only [confRules] at hd hK
        obtain ⟨h15, h9, _⟩ := hd
        simp only [h15, h9] at hK ⊢
        clear h15 h9
        have HK := Lib.hid hK
        clear hK
        refine wpList_guard_no (by rfl) ?_
        refine HK.out _ _ (Below.refl _ _) ?_
        rfl
      · intro vv W K hB hd hK
        simp only [confRules] at hd hK
        obtain ⟨h14, h16, h9⟩ := hd
        simp only [h14, h16, h9] at hK ⊢
        clear h14 h16 h9
        have HK := Lib.hid hK
        clear hK
        refine wpList_guard_no (by rfl) ?_
        refine HK.out _ _ (Below.refl _ _) ?_
        rfl
      · intro vv W K hB hd hK
        simp only [confRules] at hd hK
        obtain ⟨h12, h17, h9⟩ := hd
        simp only [h12, h17, h9] at hK ⊢
        clear h12 h17 h9
        have HK := Lib.hid hK
        clear hK
        refine wpList_guard_no (by rfl) ?_
        refine HK.out _ _ (Below.refl _ _) ?_
        rfl
      · intro vv W K hB hd hK
        simp only [confRules] at hd hK
        obtain ⟨h9, h18⟩ := hd
        simp only [h9, h18] at hK ⊢
        clear h9 h18
        have HK := Lib.hid hK
        clear hK
        go_wp2
        refine HK.out _ _ (Below.refl _ _) ?_
        rfl
    case rbhend =>
      intro vv W hB hf
      have e19 := hf 19 (by decide)
      simp only [endRules] at e19
      simp only [e19, dropRules]
      clear hf e19
      go_wp2
      go_ret
      exact ⟨rfl, hB0.trans (hB.mono hB0.size)⟩
  · clear HR
    have HPB := Lib.hid (HPA.out rfl)
    have HSB := Lib.hid (HSE.out rfl)
    have HFF := Lib.hid HF
    have T1 := Lib.hid t1
    have T2 := Lib.hid t2
    have T3 := Lib.hid t3
    clear HPA HSE HF t1 t2 t3
    refine wp_region_conf 20 [Fact.eq ?rcx0, Fact.eq ?rcx1, Fact.eq ?rcx2, Fact.eq ?rcx3, Fact.eq ?rcx4, Fact.eq ?rcx5, Fact.eq ?rcx6, Fact.eq ?rcx7, Fact.eq ?rcx8, Fact.eq ?rcx9, Fact.eq ?rcx10, Fact.eq ?rcx11, Fact.eq ?rcx12, Fact.eq ?rcx13, Fact.eq ?rcx14, Fact.eq ?rcx15, Fact.eq ?rcx16, Fact.eq ?rcx17, Fact.eq ?rcx18, Fact.eq ?rcx19] ?rcA (by kernel_rfl) (by kernel_rfl) ?rchA ?rcho ?rchend
    case rchA =>
      intro vv
      simp only [putRules, Nat.reduceAdd]
      rfl
    case rcho =>
      refine ⟨?_, ?_, ?_, ?_, ?_, ?_, ?_, ?_, ?_, ?_, ?_, ?_, ?_, ?_, ?_, ?_, ?_, ?_, ?_, ?_, trivial⟩
      · intro vv W K hB hd hK
        simp only [confRules] at hK
        have HK := Lib.hid hK
        clear hK hd
        obtain ⟨k0, k1, k2, k3, k4, k5⟩ := geo_keep hB z0 HC.out
        go_wp2
        refine HK.out _ _ (Below.refl _ _) ?_
        rfl
      · intro vv W K hB hd hK
        simp only [confRules] at hd hK
        have h0 := hd
        clear hd
        simp only [h0] at hK ⊢
        clear h0
        have HK := Lib.hid hK
        clear hK
        go_wp2_with (go_at_call 62; refine (HSM.out _).mono ?_; rintro e w9 ⟨rfl, hB9⟩)
        refine HK.out _ _ hB9 ?_
        rfl
      · intro vv W K hB hd hK
        simp only [confRules] at hd hK
        obtain ⟨h1, _⟩ := hd
        simp only [h1] at hK ⊢
        clear h1
        have HK := Lib.hid hK
        clear hK
        go_wp2
        refine HK.out _ _ (Below.refl _ _) ?_
        rfl
      · intro vv W K hB hd hK
        simp only [confRules] at hd hK
        have h2 := hd
        clear hd
        simp only [h2] at hK ⊢
        clear h2
        have HK := Lib.hid hK
        clear hK
        refine wpList_guard_yes (by rfl) ?_
        obtain ⟨k0, k1, k2, k3, k4, k5⟩ := geo_keep hB z0 HC.out
        go_wp2
        refine HK.out _ _ (Below.refl _ _) ?_
        rfl
      · intro vv W K hB hd hK
        simp only [confRules] at hd hK
        obtain ⟨h3, h2, _⟩ := hd
        simp only [h3, h2] at hK ⊢
        clear h3 h2
        have HK := Lib.hid hK
        clear hK
        refine wpList_guard_yes (by rfl) ?_
        go_wp2_with (go_at_call 63; refine (HPB.out _).mono ?_; rintro e w9 ⟨rfl, hB9⟩)
        refine HK.out _ _ hB9 ?_
        rfl
      · intro vv W K hB hd hK
        simp only [confRules] at hd hK
        have h2 := hd
        clear hd
        simp only [h2] at hK ⊢
        clear h2
        have HK := Lib.hid hK
        clear hK
        refine wpList_guard_yes (by rfl) ?_
        go_wp2
        refine HK.out _ _ (Below.refl _ _) ?_
        rfl
      · intro vv W K hB hd hK
        simp only [confRules] at hd hK
        obtain ⟨h5, h2⟩ := hd
        simp only [h5, h2] at hK ⊢
        clear h5 h2
        have HK := Lib.hid hK
        clear hK
        refine wpList_guard_yes (by rfl) ?_
        obtain ⟨k0, k1, k2, k3, k4, k5⟩ := geo_keep hB z0 HC.out
        go_wp2
        refine HK.out _ _ (Below.refl _ _) ?_
        rfl
      · intro vv W K hB hd hK
        simp only [confRules] at hd hK
        obtain ⟨h4, h6, h2⟩ := hd
        simp only [h4, h6, h2] at hK ⊢
        clear h4 h6 h2
        have HK := Lib.hid hK
        clear hK
        refine wpList_guard_yes (by rfl) ?_
        have t1 := T1.out
        go_wp2
        refine HK.out _ _ (Below.refl _ _) ?_
        rfl
      · intro vv W K hB hd hK
        simp only [confRules] at hd hK
        obtain ⟨h2, h7⟩ := hd
        simp only [h2, h7] at hK ⊢
        clear h2 h7
        have HK := Lib.hid hK
        clear hK
        go_wp2
        refine HK.out _ _ (Below.refl _ _) ?_
        rfl
      · intro vv W K hB hd hK
        simp only [confRules] at hd hK
        obtain ⟨h8, h4⟩ := hd
        simp only [h8, h4] at hK ⊢
        clear h8 h4
        have HK := Lib.hid hK
        clear hK
        go_wp2
        refine HK.out _ _ (Below.refl _ _) ?_
        rfl
      · intro vv W K hB hd hK
        simp only [confRules] at hd hK
        have h9 := hd
        clear hd
        simp only [h9] at hK ⊢
        clear h9
        have HK := Lib.hid hK
        clear hK
        refine wpList_guard_yes (by rfl) ?_
        go_wp2
        refine HK.out _ _ (Below.refl _ _) ?_
        rfl
      · intro vv W K hB hd hK
        simp only [confRules] at hd hK
        obtain ⟨h10, h9⟩ := hd
        simp only [h10, h9] at hK ⊢
        clear h10 h9
        have HK := Lib.hid hK
        clear hK
        refine wpList_guard_yes (by rfl) ?_
        obtain ⟨k0, k1, k2, k3, k4, k5⟩ := geo_keep hB z0 HC.out
        go_wp2
        refine HK.out _ _ (Below.refl _ _) ?_
        rfl
      · intro vv W K hB hd hK
        simp only [confRules] at hd hK
        obtain ⟨h11, h9⟩ := hd
        simp only [h11, h9] at hK ⊢
        clear h11 h9
        have HK := Lib.hid hK
        clear hK
        refine wpList_guard_yes (by rfl) ?_
        have t2 := T2.out
        go_wp2
        refine HK.out _ _ (Below.refl _ _) ?_
        rfl
      · intro vv W K hB hd hK
        simp only [confRules] at hd hK
        have h9 := hd
        clear hd
        simp only [h9] at hK ⊢
        clear h9
        have HK := Lib.hid hK
        clear hK
        refine wpList_guard_yes (by rfl) ?_
        go_wp2
        refine HK.out _ _ (Below.refl _ _) ?_
        rfl
      · intro vv W K hB hd hK
        simp only [confRules] at hd hK
        obtain ⟨h13, h9⟩ := hd
        simp only [h13, h9] at hK ⊢
        clear h13 h9
        have HK := Lib.hid hK
        clear hK
        refine wpList_guard_yes (by rfl) ?_
        obtain ⟨k0, k1, k2, k3, k4, k5⟩ := geo_keep hB z0 HC.out
        go_wp2
        refine HK.out _ _ (Below.refl _ _) ?_
        rfl
      · intro vv W K hB hd hK
        simp only [confRules] at hd hK
        have h9 := hd
        clear hd
        simp only [h9] at hK ⊢
        clear h9
        have HK := Lib.hid hK
        clear hK
        refine wpList_guard_yes (by rfl) ?_
        obtain ⟨k0, k1, k2, k3, k4, k5⟩ := geo_keep hB z0 HC.out
        go_wp2
        refine HK.out _ _ (Below.refl _ _) ?_
        rfl
      · intro vv W K hB hd hK
        simp only [confRules] at hd hK
        obtain ⟨h15, h9, _⟩ := hd
        simp only [h15, h9] at hK ⊢
        clear h15 h9
        have HK := Lib.hid hK
        clear hK
        refine wpList_guard_yes (by rfl) ?_
        go_wp2_with (go_at_call 64; refine (HSB.out _).mono ?_; rintro e w9 ⟨rfl, hB9⟩)
        refine HK.out _ _ hB9 ?_
        rfl
      · intro vv W K hB hd hK
        simp only [confRules] at hd hK
        obtain ⟨h14, h16, h9⟩ := hd
        simp only [h14, h16, h9] at hK ⊢
        clear h14 h16 h9
        have HK := Lib.hid hK
        clear hK
        refine wpList_guard_yes (by rfl) ?_
        have t3 := T3.out
        go_wp2
        refine HK.out _ _ (Below.refl _ _) ?_
        rfl
      · intro vv W K hB hd hK
        simp only [confRules] at hd hK
        obtain ⟨h12, h17, h9⟩ := hd
        simp only [h12, h17, h9] at hK ⊢
        clear h12 h17 h9
        have HK := Lib.hid hK
        clear hK
        refine wpList_guard_yes (by rfl) ?_
        go_wp2
        refine HK.out _ _ (Below.refl _ _) ?_
        rfl
      · intro vv W K hB hd hK
        simp only [confRules] at hd hK
        obtain ⟨h9, h18⟩ := hd
        simp only [h9, h18] at hK ⊢
        clear h9 h18
        have HK := Lib.hid hK
        clear hK
        go_wp2
        refine HK.out _ _ (Below.refl _ _) ?_
        rfl
    case rchend =>
      intro vv W hB hf
      have e19 := hf 19 (by decide)
      simp only [endRules] at e19
      simp only [e19, dropRules]
      clear hf e19
      go_wp2
      go_ret
      exact ⟨by rw [HFF.out]; rfl, hB0.trans (hB.mono hB0.size)⟩
theorem gright_any (g : Geo.G) (w : World) :
    Calls Try.prog 45 #[.agg (GC g)] w fun e w' => e = .returned (.bool (Geo.right g)) ∧ Below w.heap.size w w' := by
  refine gright_core g (Geo.small g) (Geo.parts g) (Geo.segs g) _ w (fun W => gsmall_any g W) (fun h W => gparts_any g W ((Geo.small_iff g).1 h)) (fun h W => gsegs_any g W ((Geo.small_iff g).1 h)) ?_
  cases hs : Geo.small g
  · exact .inl ⟨rfl, by simp [Geo.right, hs]⟩
  · have hS := (Geo.small_iff g).1 hs
    have h1 := Geo.ss_bd hS
    have h2 := hS.2.2.2.1
    cases hp : decide (Geo.parts g ≤ g.s)
    · exact .inr (.inl ⟨rfl, rfl, by simp [Geo.right, hs, hp]⟩)
    · exact .inr (.inr ⟨rfl, rfl, IntWalk.i64_in _ (by omega), IntWalk.i64_in _ (by omega), by simp [Geo.right, hs, hp]⟩)
end Go.Proofs.Ytoiephmngdecaaa
namespace Go.Proofs.Ytoiephmngdecaaa
open Go.RowKit Go.Rv
set_option linter.unusedVariables false
/-- a zone's domain -/
def domOf (g : Geo.G) (zone : Int) : Int := if 0 ≤ zone ∧ zone < g.d * g.z then zone / g.z else -1
theorem gsize {g : Geo.G} : (Try.prog.info? 23).map (·.size) = some (GC g).size := by rw [GC_size]; exact Try.infoGeom
set_option maxRecDepth 100000 in
set_option maxHeartbeats 1000000 in
theorem gdomain_any (g : Geo.G) (zone : Int) (w : World) (h : Geo.Small g) :
    Calls Try.prog 41 #[.agg (GC g), .int .i64 zone] w fun e w' => e = .returned (.int .i64 (domOf g zone)) ∧ Below w.heap.size w w' := by
  have HA := Lib.hid (fun W => gall_any g W h)
  have hg := heap_alloc_new w (.cells (GC g) 23)
  have hB : Below w.heap.size w (w.alloc (.cells (GC g) 23)) := (Below.refl _ _).alloc (Nat.le_refl _) _
  have hcs := fun (W : World) (hh : W.heap[w.heap.size]? = some (.cells (GC g) 23 (0, 0))) => geo_cells hh
  have HCS := Lib.hid hcs
  have HS := Lib.hid (gsize (g := g))
  have hzl := h.2.1.1
  clear hcs
  by_cases h1 : zone < 0
  · have t1 : decide (zone < 0) = true := decide_eq_true h1
    have HR : Hid (domOf g zone = -1) := Lib.hid (if_neg (by omega))
    rw [HR.out]
    generalize GC g = C at *
    clear hg h HR
    go_enter Try.func41, Try.ntmps41
    go_wp2
    go_ret
    exact ⟨rfl, hB⟩
  · have t1 : decide (zone < 0) = false := decide_eq_false h1
    by_cases h2 : zone < g.d * g.z
    · have t2 : decide (g.d * g.z ≤ zone) = false := decide_eq_false (by omega)
      have HR : Hid (domOf g zone = zone / g.z) := Lib.hid (if_pos ⟨by omega, h2⟩)
      rw [HR.out]
      have hz0 : 0 ≤ zone := by omega
      have hz1 : zone ≤ 512 := by have := (Geo.dz_bd h).2; omega
      have hz2 := h.2.1.2
      generalize GC g = C at *
      clear h h1 HR h2
      go_enter Try.func41, Try.ntmps41
      go_wp2_with (refine wpList_row_on (by rfl) 23 _ rfl w.heap.size rfl 23 _ _ _ hg Try.underlying23 rfl HS.out ?_)
      refine (HA.out _).mono ?_
      rintro e w1 ⟨rfl, hB1⟩
      have hg1 := (hB1.block w.heap.size (by simp)).trans hg
      have hB2 := hB.trans (hB1.mono hB.size)
      obtain ⟨c0, c1, c2, c3, c4, c5⟩ := HCS.out _ hg1
      clear hg hg1 hB hB1
      go_wp2
      go_ret
      exact ⟨rfl, hB2⟩
    · have t2 : decide (g.d * g.z ≤ zone) = true := decide_eq_true (by omega)
      have HR : Hid (domOf g zone = -1) := Lib.hid (if_neg (by omega))
      rw [HR.out]
      generalize GC g = C at *
      clear h h1 HR h2
      go_enter Try.func41, Try.ntmps41
      go_wp2_with (refine wpList_row_on (by rfl) 23 _ rfl w.heap.size rfl 23 _ _ _ hg Try.underlying23 rfl HS.out ?_)
      refine (HA.out _).mono ?_
      rintro e w1 ⟨rfl, hB1⟩
      have hB2 := hB.trans (hB1.mono hB.size)
      clear hg hB hB1
      go_wp2
      go_ret
      exact ⟨rfl, hB2⟩
end Go.Proofs.Ytoiephmngdecaaa
