/- Proved here: the contract of the entry's Body. -/
import Derived.Test.YtfcadbeamojdpaaEnRight
import Derived.Test.YtfcadbeamojdpaaPen
import Derived.Test.YtfcadbeamojdpaaDecode
namespace En
/-- a right entry's body -/
def body (e : E) : List Nat := Cod.leN 6 e.first.toNat ++ Cod.leN 1 e.count.toNat ++ Cod.leN 1 e.block.toNat ++ Cod.leN 2 e.many.toNat ++ Cod.leN 2 e.mate.toNat ++ e.bytes
theorem body_length {e : E} (h : e.bytes.length = 32) : (body e).length = 44 := by simp [body, Cod.leN_length, h]
theorem right_nat {e : E} (h : right e = true) : ∃ f c b m t : Nat, e = ⟨e.kind, f, c, b, m, t, e.bytes⟩ ∧ f ≤ 281474976710655 ∧ 1 ≤ c ∧ c ≤ 4 ∧ b ≤ 255 ∧ m ≤ 256 ∧ t ≤ 65535 := by
  simp only [right, Bool.and_eq_true, inB_iff] at h
  obtain ⟨⟨h1, h2⟩, ⟨h3, h4⟩, ⟨h5, h6⟩, h7⟩ := h
  have hc : 1 ≤ e.count ∧ e.count ≤ 4 ∧ 0 ≤ e.many ∧ e.many ≤ 256 := by
    unfold counts at h7
    split at h7
    · simp only [Bool.and_eq_true, inB_iff, beq_iff_eq] at h7
      omega
    · split at h7
      · simp only [Bool.and_eq_true, inB_iff, beq_iff_eq] at h7
        omega
      · simp only [Bool.and_eq_true, beq_iff_eq] at h7
        omega
  refine ⟨e.first.toNat, e.count.toNat, e.block.toNat, e.many.toNat, e.mate.toNat, ?_, by omega, by omega, by omega, by omega, by omega, by omega⟩
  obtain ⟨k, f, c, b, m, t, l⟩ := e
  simp only at *
  simp only [E.mk.injEq, true_and, and_true]
  omega
theorem body_bytes {e : E} (h : ∀ c ∈ e.bytes, c < 256) : ∀ c ∈ body e, c < 256 := by
  intro c hc
  simp only [body, List.mem_append] at hc
  rcases hc with ((((hc | hc) | hc) | hc) | hc) | hc
  all_goals first | exact Cod.leN_lt _ _ _ hc | exact h c hc
end En
namespace Go.Proofs.Ytfcadbeamojdpaa
open Go.RowKit Go.Rv
set_option linter.unusedVariables false
theorem size_body {l : List Nat} (h : l.length = 44) : (Try.prog.info? 22).map (·.size) = some (byteCells l).size := by rw [size_byteCells, h]; exact (zero_of_info Try.infoBody).2
/-- a body and an error -/
def BodPost (l : List Nat) (k : Int) (w : World) (e : Ending) (w' : World) : Prop := e = .returned (.tuple #[.agg (byteCells l), .int .i64 k]) ∧ Below w.heap.size w w'
set_option maxRecDepth 100000 in
set_option maxHeartbeats 1000000 in
theorem ebody_no (e : En.E) (w : World) (hb : EBody e) (hr : En.right e = false) :
    Calls Try.prog 28 #[.agg (EC e)] w (BodPost (List.replicate 44 0) 10 w) := by
  have hz := (zero_of_info Try.infoBody).1
  have hone := one_byteCells (List.replicate 44 0)
  have HI := Lib.hid (size_body (l := List.replicate 44 0) (by simp))
  have HIE := Lib.hid (size_ent hb.1)
  have HR := Lib.hid (fun W => eright_any e W hb)
  rw [hr] at HR
  generalize hC : EC e = C at *
  generalize hZ : byteCells (List.replicate 44 0) = Z at *
  have HZ := Lib.hid hZ
  clear hr hC hZ hb
  have hB0 := below3 w (.cells C 55) (.cells Z 22) (.cells Z 22)
  obtain ⟨hE0, hS0, hO0⟩ := alloc3_at w (.cells C 55) (.cells Z 22) (.cells Z 22)
  go_enter Try.func28, Try.ntmps28
  go_wp2_with (refine wpList_load_row rfl 55 _ rfl w.heap.size rfl 55 _ _ _ hE0 Try.underlying55 rfl HIE.out ?_)
  refine (HR.out _).mono ?_
  rintro x w1 ⟨rfl, hB1⟩
  have hS1 := (hB1.block (w.heap.size + 1) (by simp)).trans hS0
  have hO1 := (hB1.block (w.heap.size + 1 + 1) (by simp)).trans hO0
  have hB1' := hB0.trans (hB1.mono (by simp; omega))
  clear hE0 hS0 hO0
  go_wp2_with (first | (refine wpList_load_row rfl 22 _ rfl (w.heap.size + 1 + 1) rfl 22 _ _ _ hO1 Try.underlying22 rfl HI.out ?_) | (refine wpList_store_row rfl 22 _ _ rfl (w.heap.size + 1) Z rfl rfl 22 Z hS1 HI.out rfl hone ?_))
  refine bodyPost_ret (results_row_tmp rfl _ _ (w.heap.size + 1) 22 Z _ _ rfl (setRow_heap _ _ _ _ _ _ hS1) Try.underlying22 rfl HI.out) rfl ?_
  exact ⟨by rw [HZ.out]; rfl, below_setRow hB1' (by omega) _⟩
theorem pow_le {n m k : Nat} (h : n ≤ m) (hk : m < 256 ^ k) : n < 256 ^ k := by omega
set_option maxRecDepth 100000 in
set_option maxHeartbeats 4000000 in
theorem ebody_yes (e : En.E) (w : World) (hb : EBody e) (hr : En.right e = true) :
    Calls Try.prog 28 #[.agg (EC e)] w (BodPost (En.body e) 0 w) := by
  have hz := (zero_of_info Try.infoBody).1
  have hone := one_byteCells (En.body e)
  have HI := Lib.hid (size_body (En.body_length hb.1))
  have HI0 := Lib.hid (size_body (l := List.replicate 44 0) (by simp))
  have HIE := Lib.hid (size_ent hb.1)
  have HR := Lib.hid (fun W => eright_any e W hb)
  rw [hr] at HR
  have HFL := Lib.hid (En.body_length hb.1)
  obtain ⟨f, c, b, m, t, he, b1, b2, b3, b4, b5, b6⟩ := En.right_nat hr
  have hcells := fun (W : World) g t h => ent_cells (w := W) (g := g) (e := e) (t := t) h
  have hbody := fun (W : World) g t h => ent_bytes (w := W) (g := g) (e := e) (t := t) h hb.2
  unfold EntAt at hcells
  rw [show e.first = (f : Int) by rw [he], show e.count = (c : Int) by rw [he], show e.block = (b : Int) by rw [he], show e.many = (m : Int) by rw [he], show e.mate = (t : Int) by rw [he]] at hcells
  obtain ⟨q1, hq1⟩ : ∃ q, q = [] ++ Cod.leN 6 f := ⟨_, rfl⟩
  obtain ⟨q2, hq2⟩ : ∃ q, q = q1 ++ Cod.leN 1 c := ⟨_, rfl⟩
  obtain ⟨q3, hq3⟩ : ∃ q, q = q2 ++ Cod.leN 1 b := ⟨_, rfl⟩
  obtain ⟨q4, hq4⟩ : ∃ q, q = q3 ++ Cod.leN 2 m := ⟨_, rfl⟩
  obtain ⟨q5, hq5⟩ : ∃ q, q = q4 ++ Cod.leN 2 t := ⟨_, rfl⟩
  have hq6 : En.body e = q5 ++ e.bytes := by
    rw [hq5, hq4, hq3, hq2, hq1]
    conv => lhs; rw [he]
    rfl
  have l1 : q1.length = 6 := by rw [hq1]; simp [Cod.leN_length]
  have l2 : q2.length = 7 := by rw [hq2]; simp [l1, Cod.leN_length]
  have l3 : q3.length = 8 := by rw [hq3]; simp [l2, Cod.leN_length]
  have l4 : q4.length = 10 := by rw [hq4]; simp [l3, Cod.leN_length]
  have l5 : q5.length = 12 := by rw [hq5]; simp [l4, Cod.leN_length]
  have H1 := Lib.hid (fun g fp W hP hf => pen_to g fp [] q1 false 6 f 6 f W hP hf rfl rfl (by omega) (by omega) (pow_le b1 (by decide)) (by simp) hq1)
  have H2 := Lib.hid (fun g fp W hP hf => pen_to g fp q1 q2 false 1 c 1 c W hP hf rfl rfl (by omega) (by omega) (pow_le b3 (by decide)) (by omega) hq2)
  have H3 := Lib.hid (fun g fp W hP hf => pen_to g fp q2 q3 false 1 b 1 b W hP hf rfl rfl (by omega) (by omega) (pow_le b4 (by decide)) (by omega) hq3)
  have H4 := Lib.hid (fun g fp W hP hf => pen_to g fp q3 q4 false 2 m 2 m W hP hf rfl rfl (by omega) (by omega) (pow_le b5 (by decide)) (by omega) hq4)
  have H5 := Lib.hid (fun g fp W hP hf => pen_to g fp q4 q5 false 2 t 2 t W hP hf rfl rfl (by omega) (by omega) (pow_le b6 (by decide)) (by omega) hq5)
  have H6 := Lib.hid (fun g fp a W hP hf hb' hn => pen_bytes_to g fp q5 (En.body e) false a e.bytes 32 32 W hP hf hb' hn (by omega) (by have := hb.1; omega) hb.1 hq6)
  have HC := Lib.hid hcells
  have HB := Lib.hid hbody
  clear hq1 hq2 hq3 hq4 hq5 hq6 l1 l2 l3 l4 l5 hr hcells hbody he hb
  generalize hEC : EC e = C at *
  obtain ⟨Z, hZ⟩ : ∃ Z, byteCells (List.replicate 44 0) = Z := ⟨_, rfl⟩
  have HZ := Lib.hid hZ
  rw [hZ] at hz HI0
  clear hZ hEC
  have hB0 := below3 w (.cells C 55) (.cells Z 22) (.cells Z 22)
  obtain ⟨hF0, hS0, hO0⟩ := alloc3_at w (.cells C 55) (.cells Z 22) (.cells Z 22)
  go_enter Try.func28, Try.ntmps28
  go_wp2_with (refine wpList_load_row rfl 55 _ rfl w.heap.size rfl 55 _ _ _ hF0 Try.underlying55 rfl HIE.out ?_)
  refine (HR.out _).mono ?_
  rintro x w1 ⟨rfl, hB1⟩
  have z1 := hB1.size
  simp only [World.size_alloc] at z1
  have hF1 := (hB1.block w.heap.size (by simp; omega)).trans hF0
  have hS1 := (hB1.block (w.heap.size + 1) (by simp)).trans hS0
  have hO1 := (hB1.block (w.heap.size + 1 + 1) (by simp)).trans hO0
  have hB1' := hB0.trans (hB1.mono (by simp; omega))
  have hP1 := PenAt.new w1
  have hg := hP1.lt
  clear hF0 hS0 hO0 hB0 hB1
  have hba : Below w1.heap.size w1 (w1.alloc (.cells #[.slice none 0 0, .bool false] 76)) := (Below.refl _ _).alloc (Nat.le_refl _) _
  have hFb0 := (hba.block w.heap.size (by omega)).trans hF1
  have hSb0 := (hba.block (w.heap.size + 1) (by omega)).trans hS1
  have hOb0 := (hba.block (w.heap.size + 1 + 1) (by omega)).trans hO1
  have hBwb0 := hB1'.trans (hba.mono (by omega))
  have hfb0 : ∀ j, (none : Option Nat) = some j → w1.heap.size < j := fun j h => (by cases h)
  have hPb0 := hP1
  obtain ⟨cb00, cb01, cb02, cb03, cb04, cb05⟩ := HC.out _ _ _ hFb0
  clear hF1 hS1 hO1 hB1' hba hP1
  go_wp2_with fail
  refine (H1.out _ _ _ hPb0 hfb0).mono ?_
  rintro eb1 wb1 ⟨rfl, fb1, hPb1, hfb1, hBb1⟩
  have hFb1 := (hBb1.block w.heap.size (by omega)).trans hFb0
  have hSb1 := (hBb1.block (w.heap.size + 1) (by omega)).trans hSb0
  have hOb1 := (hBb1.block (w.heap.size + 1 + 1) (by omega)).trans hOb0
  have hBwb1 := hBwb0.trans (hBb1.mono (by omega))
  clear cb00 cb01 cb02 cb03 cb04 cb05
  obtain ⟨cb10, cb11, cb12, cb13, cb14, cb15⟩ := HC.out _ _ _ hFb1
  clear hFb0 hSb0 hOb0 hBwb0 hBb1
  go_wp2_with fail
  refine (H2.out _ _ _ hPb1 hfb1).mono ?_
  rintro eb2 wb2 ⟨rfl, fb2, hPb2, hfb2, hBb2⟩
  have hFb2 := (hBb2.block w.heap.size (by omega)).trans hFb1
  have hSb2 := (hBb2.block (w.heap.size + 1) (by omega)).trans hSb1
  have hOb2 := (hBb2.block (w.heap.size + 1 + 1) (by omega)).trans hOb1
  have hBwb2 := hBwb1.trans (hBb2.mono (by omega))
  clear cb10 cb11 cb12 cb13 cb14 cb15
  obtain ⟨cb20, cb21, cb22, cb23, cb24, cb25⟩ := HC.out _ _ _ hFb2
  clear hFb1 hSb1 hOb1 hBwb1 hBb2
  go_wp2_with fail
  refine (H3.out _ _ _ hPb2 hfb2).mono ?_
  rintro eb3 wb3 ⟨rfl, fb3, hPb3, hfb3, hBb3⟩
  have hFb3 := (hBb3.block w.heap.size (by omega)).trans hFb2
  have hSb3 := (hBb3.block (w.heap.size + 1) (by omega)).trans hSb2
  have hOb3 := (hBb3.block (w.heap.size + 1 + 1) (by omega)).trans hOb2
  have hBwb3 := hBwb2.trans (hBb3.mono (by omega))
  clear cb20 cb21 cb22 cb23 cb24 cb25
  obtain ⟨cb30, cb31, cb32, cb33, cb34, cb35⟩ := HC.out _ _ _ hFb3
  clear hFb2 hSb2 hOb2 hBwb2 hBb3
  go_wp2_with fail
  refine (H4.out _ _ _ hPb3 hfb3).mono ?_
  rintro eb4 wb4 ⟨rfl, fb4, hPb4, hfb4, hBb4⟩
  have hFb4 := (hBb4.block w.heap.size (by omega)).trans hFb3
  have hSb4 := (hBb4.block (w.heap.size + 1) (by omega)).trans hSb3
  have hOb4 := (hBb4.block (w.heap.size + 1 + 1) (by omega)).trans hOb3
  have hBwb4 := hBwb3.trans (hBb4.mono (by omega))
  clear cb30 cb31 cb32 cb33 cb34 cb35
  obtain ⟨cb40, cb41, cb42, cb43, cb44, cb45⟩ := HC.out _ _ _ hFb4
  clear hFb3 hSb3 hOb3 hBwb3 hBb4
  go_wp2_with fail
  refine (H5.out _ _ _ hPb4 hfb4).mono ?_
  rintro eb5 wb5 ⟨rfl, fb5, hPb5, hfb5, hBb5⟩
  have hFb5 := (hBb5.block w.heap.size (by omega)).trans hFb4
  have hSb5 := (hBb5.block (w.heap.size + 1) (by omega)).trans hSb4
  have hOb5 := (hBb5.block (w.heap.size + 1 + 1) (by omega)).trans hOb4
  have hBwb5 := hBwb4.trans (hBb5.mono (by omega))
  clear cb40 cb41 cb42 cb43 cb44 cb45
  obtain ⟨cb50, cb51, cb52, cb53, cb54, cb55⟩ := HC.out _ _ _ hFb5
  clear hFb4 hSb4 hOb4 hBwb4 hBb5
  go_wp2_with fail
  refine (H6.out _ _ _ _ hPb5 hfb5 (HB.out _ _ _ hFb5) (fun e => by cases e)).mono ?_
  rintro e8 w8 ⟨rfl, f8, hP8, hf8, hB8⟩
  have hS8 := (hB8.block (w.heap.size + 1) (by omega)).trans hSb5
  have hO8 := (hB8.block (w.heap.size + 1 + 1) (by omega)).trans hOb5
  have hBw8 := hBwb5.trans (hB8.mono (by omega))
  have hg8 := hP8.lt
  go_wp2_with fail
  refine (pen_out _ _ _ _ _ hP8 (by rw [HFL.out]; omega)).mono ?_
  rintro e9 w9 ⟨⟨v9, rfl, hown9, -⟩, hB9⟩
  simp only [Bool.false_eq_true, if_false] at hown9
  obtain ⟨a9, c9, rfl, hb9, hn9, -⟩ := hown9.bytes
  rw [HFL.out]
  have hS9 := (hB9.block (w.heap.size + 1) (by omega)).trans hS8
  have hO9 := (hB9.block (w.heap.size + 1 + 1) (by omega)).trans hO8
  have hBw9 := hBw8.trans (hB9.mono (by omega))
  have z9 := hB9.size
  clear hS8 hO8 hBw8 cb50 cb51 cb52 cb53 cb54 cb55
  obtain ⟨CS, hCS⟩ : ∃ CS, (En.body e).map bv = CS := ⟨_, rfl⟩
  obtain ⟨ZL, hZL⟩ : ∃ ZL, (List.replicate 44 0).map bv = ZL := ⟨_, rfl⟩
  have hcl : CS.length = 44 := by rw [← hCS, List.length_map, HFL.out]
  have hzl : ZL.length = 44 := by rw [← hZL]; simp
  have hZZ : Z = ZL.toArray := by rw [← HZ.out, ← hZL]; rfl
  have hO9' : w9.heap[w.heap.size + 1 + 1]? = some (.cells ZL.toArray 22 (0, 0)) := by rw [← hZZ]; exact hO9
  have hsrc : ∃ ad, a9 = some ad ∧ ∀ (j : Nat) (v : Value), CS[j]? = some v → w9.cell? (ad.add j) = some v := by
    have h := src_cells hb9 44 (by rw [List.length_map, List.length_take, HFL.out]; decide)
    rwa [List.take_of_length_le (by rw [HFL.out]; omega), hCS] at h
  have h1c : ∀ v ∈ CS, v.oneCell' = true := by
    intro v hv
    rw [← hCS] at hv
    obtain ⟨q, -, rfl⟩ := List.mem_map.1 hv
    rfl
  have hspl : Hid ((splice ZL 0 CS).toArray = byteCells (En.body e)) := Lib.hid (by
    rw [show splice ZL 0 CS = CS by simp [splice, hcl, hzl], ← hCS]
    rfl)
  have HZS : Hid (Z.size = (byteCells (En.body e)).size) := Lib.hid (by rw [hZZ, size_byteCells, HFL.out]; simpa using hzl)
  have HSRC := Lib.hid hsrc
  have H1C := Lib.hid h1c
  have HCL := Lib.hid hcl
  have HZL := Lib.hid hzl
  clear hsrc h1c hcl hzl hCS hZL hZZ hO9
  have hiU : (Try.prog.info? 5).map (·.size) = some 1 := by kernel_rfl
  have HIU := Lib.hid hiU
  clear hiU
  go_wp2_with (first | (refine wpList_copy_splice rfl (.tmp 34) (.tmp 35) 47 47 rfl 5 Try.underlying47 HIU.out _ _ 44 44 44 c9 rfl rfl (w.heap.size + 1 + 1) 0 ZL 22 hO9' CS (by rw [HCL.out]; rfl) (fun _ => ⟨rfl, HSRC.out⟩) (by rw [HCL.out, HZL.out]; omega) H1C.out (w.heap.size + 1 + 1) w9 (Below.refl _ _) (Nat.le_refl _) ?_; intro w10 hO10 hB10; have hO10' := hO10.out; rw [hspl.out] at hO10'; have hS10 := (hB10.block (w.heap.size + 1) (by omega)).trans hS9; have hBw10 := hBw9.trans (hB10.mono (by omega))) | (refine wpList_load_row rfl 22 _ rfl (w.heap.size + 1 + 1) rfl 22 _ _ _ hO10' Try.underlying22 rfl HI.out ?_) | (refine wpList_store_row rfl 22 _ _ rfl (w.heap.size + 1) (byteCells (En.body e)) rfl rfl 22 Z hS10 HI.out HZS.out hone ?_))
  refine bodyPost_ret (results_row_tmp rfl _ _ (w.heap.size + 1) 22 (byteCells (En.body e)) _ _ rfl (setRow_heap _ _ _ _ _ _ hS10) Try.underlying22 rfl HI.out) rfl ?_
  exact ⟨rfl, below_setRow hBw10 (by omega) _⟩
theorem ebody_any (e : En.E) (w : World) (hb : EBody e) :
    Calls Try.prog 28 #[.agg (EC e)] w (BodPost (if En.right e = true then En.body e else List.replicate 44 0) (if En.right e = true then 0 else 10) w) := by
  cases hr : En.right e
  · simpa [hr] using ebody_no e w hb hr
  · simpa [hr] using ebody_yes e w hb hr
end Go.Proofs.Ytfcadbeamojdpaa
