/- Proved here: the contract of the frame's Encode. -/
import Derived.Test.YtfcadbeamojdpaaFrRight
import Derived.Test.YtfcadbeamojdpaaPen
import Derived.Test.YtfcadbeamojdpaaSeal
import Derived.Deep.MidRow
import Derived.Laws.Cover3
namespace Go.Proofs.Ytfcadbeamojdpaa
open Go.RowKit Go.Rv Frm
set_option linter.unusedVariables false
theorem size_sec {l : List Nat} (h : l.length = 64) : (Try.prog.info? 31).map (·.size) = some (byteCells l).size := by rw [size_byteCells, h]; exact (zero_of_info Try.infoSector).2
theorem size_frm {f : Fr} (h : f.body.length = 44) : (Try.prog.info? 24).map (·.size) = some (FC f).size := by rw [FC_size, h]; exact (zero_of_info Try.infoFrame).2
theorem size_tab : (Try.prog.info? 28).map (·.size) = some Tb.tabV.size := by rw [Tb.size_tabV]; exact (zero_of_info Try.infoTab).2
/-- a sector and an error -/
def SecPost (l : List Nat) (k : Int) (w : World) (e : Ending) (w' : World) : Prop := e = .returned (.tuple #[.agg (byteCells l), .int .i64 k]) ∧ Below w.heap.size w w'
set_option maxRecDepth 100000 in
set_option maxHeartbeats 1000000 in
theorem encode_no (f : Fr) (w : World) (hb : Body f.body) (hr : rightF f = false) :
    Calls Try.prog 17 #[.agg Tb.tabV, .agg (FC f)] w (SecPost (List.replicate 64 0) 10 w) := by
  have hz := (zero_of_info Try.infoSector).1
  have hs0 : (List.replicate 64 0 : List Nat).length = 64 := by simp
  have hone := one_byteCells (List.replicate 64 0)
  have HI := Lib.hid (size_sec hs0)
  have HIF := Lib.hid (size_frm hb.1)
  have HR := Lib.hid (fun W => fright_any f W)
  rw [hr] at HR
  generalize hC : FC f = C at *
  generalize hZ : byteCells (List.replicate 64 0) = Z at *
  have HC := Lib.hid hC
  have HZ := Lib.hid hZ
  clear hr hC hZ hb
  have hB0 := below3 w (.cells Tb.tabV 28) (.cells C 24) (.cells Z 31)
  obtain ⟨hT0, hF0, hS0⟩ := alloc3_at w (.cells Tb.tabV 28) (.cells C 24) (.cells Z 31)
  go_enter Try.func17, Try.ntmps17
  go_wp2_with (first | (refine wpList_load_row rfl 24 _ rfl (w.heap.size + 1) rfl 24 _ _ _ hF0 Try.underlying24 rfl HIF.out ?_) | (go_at_call 23; refine (HR.out _).mono ?_; rintro e w1 ⟨rfl, hB1⟩; have hS1 := (hB1.block _ (by simp)).trans hS0) | (refine wpList_store_row rfl 31 _ _ rfl (w.heap.size + 1 + 1) Z rfl rfl 31 Z hS1 HI.out rfl hone ?_))
  refine bodyPost_ret (results_row_tmp rfl _ _ (w.heap.size + 1 + 1) 31 Z _ _ rfl (setRow_heap _ _ _ _ _ _ hS1) Try.underlying31 rfl HI.out) rfl ?_
  exact ⟨by rw [HZ.out]; rfl, below_setRow (hB0.trans (hB1.mono (by simp; omega))) (by omega) _⟩
theorem pow_of {n m k : Nat} (h : n ≤ m) (hk : m < 256 ^ k) : n < 256 ^ k := by omega
set_option maxRecDepth 100000 in
set_option maxHeartbeats 4000000 in
theorem encode_yes (f : Fr) (w : World) (hb : Body f.body) (hr : rightF f = true) :
    Calls Try.prog 17 #[.agg Tb.tabV, .agg (FC f)] w (SecPost (sectorOf f) 0 w) := by
  have hz := (zero_of_info Try.infoSector).1
  have hs0 : (List.replicate 64 0 : List Nat).length = 64 := by simp
  have hone := one_byteCells (sectorOf f)
  have HI := Lib.hid (size_sec (sector_length hb))
  have HIF := Lib.hid (size_frm hb.1)
  have HIT := Lib.hid size_tab
  have HR := Lib.hid (fun W => fright_any f W)
  rw [hr] at HR
  have hZZ : (byteCells (List.replicate 64 0)).size = (byteCells (sectorOf f)).size := by rw [size_byteCells, size_byteCells, sector_length hb]; rfl
  have HSE := Lib.hid (fun W a c hb' hn => seal_any a (frB f) c W hb' hn (by rw [frB_length hb]; omega))
  rw [frB_length hb] at HSE
  have HSL := Lib.hid (sector_length hb)
  have HFL := Lib.hid (frB_length hb)
  obtain ⟨k, z, o, e, s, hf, b1, b2, b3, b4, b5, b6, b7⟩ := right_nat hr
  have hcells := fun (W : World) g t h => frame_cells (w := W) (g := g) (f := f) (t := t) h
  have hbody := fun (W : World) g t h => frame_body (w := W) (g := g) (f := f) (t := t) h hb.2
  rw [show f.kind = (k : Int) by rw [hf], show f.zone = (z : Int) by rw [hf], show f.off = (o : Int) by rw [hf], show f.epoch = (e : Int) by rw [hf], show f.seq = (s : Int) by rw [hf]] at hcells
  obtain ⟨q1, hq1⟩ : ∃ q, q = [] ++ Cod.leN 1 k := ⟨_, rfl⟩
  obtain ⟨q2, hq2⟩ : ∃ q, q = q1 ++ Cod.leN 1 1 := ⟨_, rfl⟩
  obtain ⟨q3, hq3⟩ : ∃ q, q = q2 ++ Cod.leN 2 z := ⟨_, rfl⟩
  obtain ⟨q4, hq4⟩ : ∃ q, q = q3 ++ Cod.leN 2 o := ⟨_, rfl⟩
  obtain ⟨q5, hq5⟩ : ∃ q, q = q4 ++ Cod.leN 4 e := ⟨_, rfl⟩
  obtain ⟨q6, hq6⟩ : ∃ q, q = q5 ++ Cod.leN 6 s := ⟨_, rfl⟩
  have hq7 : frB f = q6 ++ f.body := by
    rw [hq6, hq5, hq4, hq3, hq2, hq1]
    conv => lhs; rw [hf]
    rfl
  have l1 : q1.length = 1 := by rw [hq1]; rfl
  have l2 : q2.length = 2 := by rw [hq2]; simp [l1, Cod.leN_length]
  have l3 : q3.length = 4 := by rw [hq3]; simp [l2, Cod.leN_length]
  have l4 : q4.length = 6 := by rw [hq4]; simp [l3, Cod.leN_length]
  have l5 : q5.length = 10 := by rw [hq5]; simp [l4, Cod.leN_length]
  have l6 : q6.length = 16 := by rw [hq6]; simp [l5, Cod.leN_length]
  have H1 := Lib.hid (fun g f W hP hf => pen_to g f [] q1 false 1 k 1 k W hP hf rfl rfl (by omega) (by omega) (pow_of (show k ≤ 255 by omega) (by decide)) (by simp) hq1)
  have H2 := Lib.hid (fun g f W hP hf => pen_to g f q1 q2 false 1 1 1 1 W hP hf rfl rfl (by omega) (by omega) (by decide) (by omega) hq2)
  have H3 := Lib.hid (fun g f W hP hf => pen_to g f q2 q3 false 2 z 2 z W hP hf rfl rfl (by omega) (by omega) (pow_of b3 (by decide)) (by omega) hq3)
  have H4 := Lib.hid (fun g f W hP hf => pen_to g f q3 q4 false 2 o 2 o W hP hf rfl rfl (by omega) (by omega) (pow_of b4 (by decide)) (by omega) hq4)
  have H5 := Lib.hid (fun g f W hP hf => pen_to g f q4 q5 false 4 e 4 e W hP hf rfl rfl (by omega) (by omega) (pow_of b6 (by decide)) (by omega) hq5)
  have H6 := Lib.hid (fun g f W hP hf => pen_to g f q5 q6 false 6 s 6 s W hP hf rfl rfl (by omega) (by omega) (pow_of b7 (by decide)) (by omega) hq6)
  have H7 := Lib.hid (fun g fp a W hP hf hb' hn => pen_bytes_to g fp q6 (frB f) false a f.body 44 44 W hP hf hb' hn (by omega) (by have := hb.1; omega) hb.1 hq7)
  have HC := Lib.hid hcells
  have HB := Lib.hid hbody
  have HSO := Lib.hid (show sectorOf f = frB f ++ Crc.le4 (Crc.sum (frB f)) from rfl)
  clear hq1 hq2 hq3 hq4 hq5 hq6 hq7 l1 l2 l3 l4 l5 l6 hr hcells hbody hf hb
  generalize hFC : FC f = C at *
  generalize hZ : byteCells (List.replicate 64 0) = Z at *
  clear hZ hFC
  have hB0 := below3 w (.cells Tb.tabV 28) (.cells C 24) (.cells Z 31)
  obtain ⟨hT0, hF0, hS0⟩ := alloc3_at w (.cells Tb.tabV 28) (.cells C 24) (.cells Z 31)
  go_enter Try.func17, Try.ntmps17
  go_wp2_with (refine wpList_load_row rfl 24 _ rfl (w.heap.size + 1) rfl 24 _ _ _ hF0 Try.underlying24 rfl HIF.out ?_)
  refine (HR.out _).mono ?_
  rintro e1 w1 ⟨rfl, hB1⟩
  have z1 := hB1.size
  simp only [World.size_alloc] at z1
  have hT1 := (hB1.block w.heap.size (by simp; omega)).trans hT0
  have hF1 := (hB1.block (w.heap.size + 1) (by simp)).trans hF0
  have hS1 := (hB1.block (w.heap.size + 1 + 1) (by simp)).trans hS0
  have hB1' := hB0.trans (hB1.mono (by simp; omega))
  have hP1 := PenAt.new w1
  have hg := hP1.lt
  clear hT0 hF0 hS0 hB0 hB1
  have hba : Below w1.heap.size w1 (w1.alloc (.cells #[.slice none 0 0, .bool false] 76)) := (Below.refl _ _).alloc (Nat.le_refl _) _
  have hTa := (hba.block w.heap.size (by omega)).trans hT1
  have hFa := (hba.block (w.heap.size + 1) (by omega)).trans hF1
  have hSa := (hba.block (w.heap.size + 1 + 1) (by omega)).trans hS1
  have hBwa := hB1'.trans (hba.mono (by omega))
  have hfa : ∀ j, (none : Option Nat) = some j → w1.heap.size < j := fun j h => (by cases h)
  obtain ⟨ca0, ca1, ca2, ca3, ca4⟩ := HC.out _ _ _ hFa
  clear hT1 hF1 hS1 hB1'
  go_wp2_with fail
  refine (H1.out _ _ _ hP1 hfa).mono ?_
  rintro eb1 wb1 ⟨rfl, fb1, hPb1, hfb1, hBb1⟩
  have hTb1 := (hBb1.block w.heap.size (by omega)).trans hTa
  have hFb1 := (hBb1.block (w.heap.size + 1) (by omega)).trans hFa
  have hSb1 := (hBb1.block (w.heap.size + 1 + 1) (by omega)).trans hSa
  have hBwb1 := hBwa.trans (hBb1.mono (by omega))
  obtain ⟨cb10, cb11, cb12, cb13, cb14⟩ := HC.out _ _ _ hFb1
  clear hTa hFa hSa hBwa hBb1
  go_wp2_with fail
  refine (H2.out _ _ _ hPb1 hfb1).mono ?_
  rintro eb2 wb2 ⟨rfl, fb2, hPb2, hfb2, hBb2⟩
  have hTb2 := (hBb2.block w.heap.size (by omega)).trans hTb1
  have hFb2 := (hBb2.block (w.heap.size + 1) (by omega)).trans hFb1
  have hSb2 := (hBb2.block (w.heap.size + 1 + 1) (by omega)).trans hSb1
  have hBwb2 := hBwb1.trans (hBb2.mono (by omega))
  obtain ⟨cb20, cb21, cb22, cb23, cb24⟩ := HC.out _ _ _ hFb2
  clear hTb1 hFb1 hSb1 hBwb1 hBb2
  go_wp2_with fail
  refine (H3.out _ _ _ hPb2 hfb2).mono ?_
  rintro eb3 wb3 ⟨rfl, fb3, hPb3, hfb3, hBb3⟩
  have hTb3 := (hBb3.block w.heap.size (by omega)).trans hTb2
  have hFb3 := (hBb3.block (w.heap.size + 1) (by omega)).trans hFb2
  have hSb3 := (hBb3.block (w.heap.size + 1 + 1) (by omega)).trans hSb2
  have hBwb3 := hBwb2.trans (hBb3.mono (by omega))
  obtain ⟨cb30, cb31, cb32, cb33, cb34⟩ := HC.out _ _ _ hFb3
  clear hTb2 hFb2 hSb2 hBwb2 hBb3
  go_wp2_with fail
  refine (H4.out _ _ _ hPb3 hfb3).mono ?_
  rintro eb4 wb4 ⟨rfl, fb4, hPb4, hfb4, hBb4⟩
  have hTb4 := (hBb4.block w.heap.size (by omega)).trans hTb3
  have hFb4 := (hBb4.block (w.heap.size + 1) (by omega)).trans hFb3
  have hSb4 := (hBb4.block (w.heap.size + 1 + 1) (by omega)).trans hSb3
  have hBwb4 := hBwb3.trans (hBb4.mono (by omega))
  obtain ⟨cb40, cb41, cb42, cb43, cb44⟩ := HC.out _ _ _ hFb4
  clear hTb3 hFb3 hSb3 hBwb3 hBb4
  go_wp2_with fail
  refine (H5.out _ _ _ hPb4 hfb4).mono ?_
  rintro eb5 wb5 ⟨rfl, fb5, hPb5, hfb5, hBb5⟩
  have hTb5 := (hBb5.block w.heap.size (by omega)).trans hTb4
  have hFb5 := (hBb5.block (w.heap.size + 1) (by omega)).trans hFb4
  have hSb5 := (hBb5.block (w.heap.size + 1 + 1) (by omega)).trans hSb4
  have hBwb5 := hBwb4.trans (hBb5.mono (by omega))
  obtain ⟨cb50, cb51, cb52, cb53, cb54⟩ := HC.out _ _ _ hFb5
  clear hTb4 hFb4 hSb4 hBwb4 hBb5
  go_wp2_with fail
  refine (H6.out _ _ _ hPb5 hfb5).mono ?_
  rintro eb6 wb6 ⟨rfl, fb6, hPb6, hfb6, hBb6⟩
  have hTb6 := (hBb6.block w.heap.size (by omega)).trans hTb5
  have hFb6 := (hBb6.block (w.heap.size + 1) (by omega)).trans hFb5
  have hSb6 := (hBb6.block (w.heap.size + 1 + 1) (by omega)).trans hSb5
  have hBwb6 := hBwb5.trans (hBb6.mono (by omega))
  obtain ⟨cb60, cb61, cb62, cb63, cb64⟩ := HC.out _ _ _ hFb6
  clear hTb5 hFb5 hSb5 hBwb5 hBb6
  go_wp2_with fail
  refine (H7.out _ _ _ _ hPb6 hfb6 (HB.out _ _ _ hFb6) (fun e => by cases e)).mono ?_
  rintro e8 w8 ⟨rfl, f8, hP8, hf8, hB8⟩
  have hT8 := (hB8.block w.heap.size (by omega)).trans hTb6
  have hS8 := (hB8.block (w.heap.size + 1 + 1) (by omega)).trans hSb6
  have hBw8 := hBwb6.trans (hB8.mono (by omega))
  have hg8 := hP8.lt
  go_wp2_with fail
  refine (pen_out _ _ _ _ _ hP8 (by rw [HFL.out]; omega)).mono ?_
  rintro e9 w9 ⟨⟨v9, rfl, hown9, -⟩, hB9⟩
  simp only [Bool.false_eq_true, if_false] at hown9
  obtain ⟨a9, c9, rfl, hb9, hn9, -⟩ := hown9.bytes
  rw [HFL.out]
  have hT9 := (hB9.block w.heap.size (by omega)).trans hT8
  have hS9 := (hB9.block (w.heap.size + 1 + 1) (by omega)).trans hS8
  have hBw9 := hBw8.trans (hB9.mono (by omega))
  have z9 := hB9.size
  have hat : ∀ (g c : Nat) (W : World), (Instr.arrayAt 31 (.slice (some ⟨g, 0, none⟩) 64 c)).run Try.prog W = .ok (.pointer (some ⟨g, 0, none⟩)) W := fun g c W => run_arrayAt W 31 _ 64 _ 64 c Try.underlying31 (by omega)
  have HSE9 := Lib.hid (HSE.out w9 a9 c9 hb9 hn9)
  rw [← HSO.out] at HSE9
  go_wp2_with (first | (refine wpList_load_row rfl 28 _ rfl w.heap.size rfl 28 _ _ _ hT9 Try.underlying28 rfl HIT.out ?_) | (go_at_call 41; refine HSE9.out.mono ?_; rintro e10 w10 ⟨v10, rfl, hown10, hB10⟩; obtain ⟨g10, c10, rfl, hg10, hgl10, hlc10, hcm10, hc10, -⟩ := hown10.open (by rw [HSL.out]; omega); rw [HSL.out] at hlc10 ⊢; have hS10 := (hB10.block (w.heap.size + 1 + 1) (by omega)).trans hS9; have hR10 : w10.rangeAt g10 0 ((sectorOf f).map fun c => Value.int .u8 (c : Nat)) := (by intro j v hv; simp only [List.getElem?_map, Option.map_eq_some_iff] at hv; obtain ⟨x, hx, rfl⟩ := hv; rw [Nat.zero_add, hc10 j (List.getElem?_eq_some_iff.1 hx).1, List.getD_eq_getElem?_getD, hx]; rfl); clear hc10) | (refine wpList_load_mid rfl 31 _ rfl g10 0 rfl _ _ hR10 Try.underlying31 rfl (by rw [HI.out]; simp [byteCells]) ?_) | (refine wpList_store_row rfl 31 _ _ rfl (w.heap.size + 1 + 1) (byteCells (sectorOf f)) rfl rfl 31 Z hS10 HI.out hZZ hone ?_))
  refine bodyPost_ret (results_row_tmp rfl _ _ (w.heap.size + 1 + 1) 31 (byteCells (sectorOf f)) _ _ rfl (setRow_heap _ _ _ _ _ _ hS10) Try.underlying31 rfl HI.out) rfl ?_
  exact ⟨rfl, below_setRow (hBw9.trans (hB10.mono hBw9.size)) (by omega) _⟩
end Go.Proofs.Ytfcadbeamojdpaa
