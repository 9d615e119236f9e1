/- Proved here, one behind the other: Proved here: what the snapshot's code writes with a pen: a body out of a pen; an entry; Proved here: snap's put: an entry goes through a pen; Proved here: snap's head: the body of a snapshot's first frame; Proved here: snap's part: the body of another frame; Proved here: snap's Right; Plain facts and words on a snapshot's frames; Plain facts and words on how a snapshot is read from frames; Proved here: snap's Frames; Proved here: snap's take: an entry is read; Proved here: snap's begin: the first frame is read; Proved here: snap's fill: another frame is read; Proved here: snap's Frames, whatever the snapshot; snap's Same; Proved here: snap's Read; Proved here: the document's example of a snapshot; Arguments that are lists of frames, by their cells. -/
import Derived.Deep.MidRow
import Derived.LoopTactic
import Derived.Lib.SlBuf
import Derived.IntWalk
import Derived.Great.BuildSlice
import Derived.Test.YtjnneoejnpephaaBa
import Derived.Test.YtjnneoejnpephaaBc
import Derived.Test.YtjnneoejnpephaaBn
namespace Sn
/-- bytes as a body: zeros behind -/
def pad44 (l : List Nat) : List Nat := l ++ List.replicate (44 - l.length) 0
theorem pad44_length {l : List Nat} (h : l.length ≤ 44) : (pad44 l).length = 44 := by simp [pad44]; omega
end Sn
namespace Go.Proofs.Ytjnneoejnpephaa
open Go.RowKit Go.Rv
set_option linter.unusedVariables false
attribute [local go_sem] Oper.semAt_some
theorem Try.infoBodyS : (Try.prog.info? 40).map (fun i => (i.zero, i.size)) = some (some (.agg (byteCells (List.replicate 44 0))), 44) := by kernel_rfl
theorem size_bodyS {l : List Nat} (h : l.length = 44) : (Try.prog.info? 40).map (·.size) = some (byteCells l).size := by rw [size_byteCells, h]; exact (zero_of_info Try.infoBodyS).2
/-- the cells of bytes that stand in a slice -/
theorem src44 {w : World} {b : Option Addr} {m : List Nat} (hb : Bytes w b m) (h0 : 0 < (m.map bv).length) : ∃ ad, b = some ad ∧ ∀ (j : Nat) (v : Value), (m.map bv)[j]? = some v → w.cell? (ad.add j) = some v := by
  simp at h0
  obtain ⟨b1, o1, c1, rfl, _⟩ := hb.at (k := 0) (by omega)
  refine ⟨_, rfl, fun j v hv => ?_⟩
  simp only [List.getElem?_map, Option.map_eq_some_iff] at hv
  obtain ⟨x, hx, rfl⟩ := hv
  have hj : j < m.length := (List.getElem?_eq_some_iff.1 hx).1
  obtain ⟨b2, o2, c2, e, _, hc, _, hl⟩ := hb.at hj
  cases e
  have hadd : (⟨b1, o1, none⟩ : Addr).add j = ⟨b1, o1 + j, none⟩ := by unfold Addr.add; split <;> simp_all
  rw [hadd, hc]
  rw [hl] at hx; cases hx; rfl
set_option maxRecDepth 100000 in
set_option maxHeartbeats 2000000 in
theorem sbody_any (g : Nat) (f : Option Nat) (l : List Nat) (w : World) (hP : PenAt w g f l false) (hl : l.length ≤ 44) :
    Calls Try.prog 74 #[.pointer (some ⟨g, 0, none⟩)] w fun e w' => e = .returned (.agg (byteCells (Sn.pad44 l))) ∧ Below w.heap.size w w' := by
  have hz := (zero_of_info Try.infoBodyS).1
  have hone := one_byteCells (Sn.pad44 l)
  have HI := Lib.hid (size_bodyS (Sn.pad44_length hl))
  have HO := Lib.hid (fun W hW => pen_out g f l false W hW (by omega))
  obtain ⟨Z, hZ⟩ : ∃ Z, byteCells (List.replicate 44 0) = Z := ⟨_, rfl⟩
  have HZ := Lib.hid hZ
  rw [hZ] at hz
  clear hZ
  have hB0 : Below w.heap.size w ((w.alloc (.cells Z 40)).alloc (.cells Z 40)) := ((Below.refl _ _).alloc (Nat.le_refl _) _).alloc (by simp) _
  obtain ⟨W0, hW0⟩ : ∃ W0, (w.alloc (.cells Z 40)).alloc (.cells Z 40) = W0 := ⟨_, rfl⟩
  have hS0 : W0.heap[w.heap.size]? = some (.cells Z 40 (0, 0)) := by rw [← hW0]; exact heap_alloc2_old w _ _
  have hO0 : W0.heap[w.heap.size + 1]? = some (.cells Z 40 (0, 0)) := by rw [← hW0]; exact heap_alloc2_new w _ _
  rw [hW0] at hB0
  have HP0 := Lib.hid (hP.below hB0)
  have HW0 := Lib.hid hW0
  have zO : w.heap.size + 1 < W0.heap.size := (Array.getElem?_eq_some_iff.1 hO0).1
  clear hW0 hP
  go_enter Try.func74, Try.ntmps74
  go_wp2_with fail
  rw [HW0.out]
  refine (HO.out _ HP0.out).mono ?_
  rintro e w9 ⟨⟨v9, rfl, hown9, -⟩, hB9⟩
  simp only [Bool.false_eq_true, if_false] at hown9
  obtain ⟨a9, c9, rfl, hb9, hn9, -⟩ := hown9.bytes
  have hS9 := (hB9.block w.heap.size (by omega)).trans hS0
  have hO9 := (hB9.block (w.heap.size + 1) zO).trans hO0
  have hBw9 := hB0.trans (hB9.mono hB0.size)
  have z9 := hB9.size
  clear hS0 hO0 hB0 hB9
  obtain ⟨CS, hCS⟩ : ∃ CS, l.map bv = CS := ⟨_, rfl⟩
  obtain ⟨ZL, hZL⟩ : ∃ ZL, (List.replicate 44 0).map bv = ZL := ⟨_, rfl⟩
  have hcl : CS.length = l.length := by rw [← hCS, List.length_map]
  have hzl : ZL.length = 44 := by rw [← hZL]; simp
  have hZZ : Z = ZL.toArray := by rw [← HZ.out, ← hZL]; rfl
  have hO9' : w9.heap[w.heap.size + 1]? = some (.cells ZL.toArray 40 (0, 0)) := by rw [← hZZ]; exact hO9
  have hsrc : 0 < CS.length → ∃ ad, a9 = some ad ∧ ∀ (j : Nat) (v : Value), CS[j]? = some v → w9.cell? (ad.add j) = some v := by
    intro h0
    rw [← hCS] at h0 ⊢
    exact src44 hb9 h0
  have h1c : ∀ v ∈ CS, v.oneCell' = true := by
    intro v hv
    rw [← hCS] at hv
    obtain ⟨q, -, rfl⟩ := List.mem_map.1 hv
    rfl
  have hspl : Hid ((splice ZL 0 CS).toArray = byteCells (Sn.pad44 l)) := Lib.hid (by
    unfold splice byteCells Sn.pad44
    rw [← hCS, ← hZL]
    rw [List.take_zero, List.nil_append, Nat.zero_add, List.length_map, List.map_replicate, List.drop_replicate, List.map_append, List.map_replicate]
    rfl)
  have HZS : Hid (Z.size = (byteCells (Sn.pad44 l)).size) := Lib.hid (by rw [hZZ, size_byteCells, Sn.pad44_length hl]; simpa using hzl)
  have HSRC := Lib.hid hsrc
  have H1C := Lib.hid h1c
  have HCL := Lib.hid hcl
  have HZL := Lib.hid hzl
  have HLN := Lib.hid hl
  clear hsrc h1c hcl hzl hCS hZL hZZ hO9 hl
  have hiU : (Try.prog.info? 5).map (·.size) = some 1 := by kernel_rfl
  have HIU := Lib.hid hiU
  clear hiU
  go_wp2_with (first | (refine wpList_copy_splice rfl (.tmp 11) (.tmp 12) 94 94 rfl 5 Try.underlying94 HIU.out _ _ 44 44 l.length c9 rfl rfl (w.heap.size + 1) 0 ZL 40 hO9' CS (by rw [HCL.out]; exact (Nat.min_eq_left HLN.out).symm) (fun h => ⟨rfl, HSRC.out h⟩) (by rw [HZL.out, HCL.out]; have := HLN.out; omega) H1C.out (w.heap.size + 1) w9 (Below.refl _ _) (Nat.le_refl _) ?_; intro w10 hO10 hB10; have hO10' := hO10.out; rw [hspl.out] at hO10'; have hS10 := (hB10.block w.heap.size (by omega)).trans hS9; have hBw10 := hBw9.trans (hB10.mono (by omega))) | (refine wpList_load_row rfl 40 _ rfl (w.heap.size + 1) rfl 40 _ _ _ hO10' Try.underlying40 rfl HI.out ?_) | (refine wpList_store_row rfl 40 _ _ rfl w.heap.size (byteCells (Sn.pad44 l)) rfl rfl 40 Z hS10 HI.out HZS.out hone ?_))
  refine bodyPost_ret (res_row rfl _ _ w.heap.size 40 (byteCells (Sn.pad44 l)) _ _ rfl (setRow_heap _ _ _ _ _ _ hS10) Try.underlying40 rfl HI.out) rfl ?_
  exact ⟨rfl, below_setRow hBw10 (by omega) _⟩
end Go.Proofs.Ytjnneoejnpephaa
namespace Sn
open Go.Proofs.Ytjnneoejnpephaa
/-- an entry's bytes -/
def entB (e : BE) : List Nat := Cod.leN 1 e.st.toNat ++ Cod.leN 2 e.z.toNat ++ Cod.leN 2 e.m.toNat ++ Cod.leN 1 e.o.toNat ++ Cod.leN 6 e.q.toNat ++ Cod.leN 4 e.s.toNat
theorem entB_length (e : BE) : (entB e).length = 16 := by simp [entB, Cod.leN_length]
/-- an entry's numbers have room -/
def Room (e : BE) : Prop := (0 ≤ e.st ∧ e.st < 256) ∧ (0 ≤ e.z ∧ e.z < 65536) ∧ (0 ≤ e.m ∧ e.m < 65536) ∧ (0 ≤ e.o ∧ e.o < 256) ∧ (0 ≤ e.q ∧ e.q < 281474976710656) ∧ (0 ≤ e.s ∧ e.s < 4294967296)
end Sn
namespace Go.Proofs.Ytjnneoejnpephaa
open Go.RowKit Go.Rv
set_option linter.unusedVariables false
attribute [local go_sem] Oper.semAt_some
/-- a number goes through a pen, wherever it lies -/
theorem pen_on (g : Nat) (f : Option Nat) (l q : List Nat) (W V : Int) (k : Nat) (w : World) (hP : PenAt w g f l false) (hW : W = k) (h1 : 1 ≤ k) (h7 : k ≤ 7) (h0 : 0 ≤ V) (hn : V < (256 ^ k : Nat)) (hl : l.length ≤ 1000000) (hq : q = l ++ Cod.leN k V.toNat) :
    Calls Try.prog 73 #[.pointer (some ⟨g, 0, none⟩), .int .i64 W, .int .i64 V] w (PenPost w g f q false) := by
  obtain ⟨n, rfl⟩ : ∃ n : Nat, V = n := ⟨V.toNat, by omega⟩
  subst hW hq
  exact pen_num_yes g f l false k n w hP h1 h7 (by exact_mod_cast hn) hl
/-- what a pen's writing leaves as it was -/
theorem PenPost.keep {w0 w w' : World} {g : Nat} {f0 f f' : Option Nat} (hf : f = f0 ∨ ∃ k, f = some k ∧ w0.heap.size ≤ k) (hO : Only (g :: f0.toList) w0 w) (hO' : Only (g :: f.toList) w w') (hf' : f' = f ∨ ∃ k, f' = some k ∧ w.heap.size ≤ k) :
    Only (g :: f0.toList) w0 w' ∧ (f' = f0 ∨ ∃ k, f' = some k ∧ w0.heap.size ≤ k) := by
  have hz := hO.size
  refine ⟨hO.trans' hO' (fun k hk => ?_), fresh_trans hf hf' hz⟩
  rcases List.mem_cons.1 hk with e | hk
  · exact .inl (by simp [e])
  · rcases hf with rfl | ⟨j, rfl, hj⟩
    · exact .inl (by simp at hk; simp [hk])
    · exact .inr (by simp at hk; omega)
set_option maxRecDepth 100000 in
set_option maxHeartbeats 4000000 in
theorem sput_any (g : Nat) (f : Option Nat) (l : List Nat) (e : BE) (w : World) (hP : PenAt w g f l false) (hl : l.length ≤ 1000) (he : Sn.Room e) :
    Calls Try.prog 75 #[.pointer (some ⟨g, 0, none⟩), .agg (BEC e)] w (PenPost w g f (l ++ Sn.entB e) false) := by
  obtain ⟨⟨a0, b0⟩, ⟨a1, b1⟩, ⟨a2, b2⟩, ⟨a3, b3⟩, ⟨a4, b4⟩, ⟨a5, b5⟩⟩ := he
  obtain ⟨q0, hq0⟩ : ∃ q, q = l ++ Cod.leN 1 e.st.toNat := ⟨_, rfl⟩
  obtain ⟨q1, hq1⟩ : ∃ q, q = q0 ++ Cod.leN 2 e.z.toNat := ⟨_, rfl⟩
  obtain ⟨q2, hq2⟩ : ∃ q, q = q1 ++ Cod.leN 2 e.m.toNat := ⟨_, rfl⟩
  obtain ⟨q3, hq3⟩ : ∃ q, q = q2 ++ Cod.leN 1 e.o.toNat := ⟨_, rfl⟩
  obtain ⟨q4, hq4⟩ : ∃ q, q = q3 ++ Cod.leN 6 e.q.toNat := ⟨_, rfl⟩
  have hq5 : l ++ Sn.entB e = q4 ++ Cod.leN 4 e.s.toNat := by rw [hq4, hq3, hq2, hq1, hq0]; simp [Sn.entB]
  have l0 : q0.length = l.length + 1 := by rw [hq0]; simp [Cod.leN_length]
  have l1 : q1.length = l.length + 3 := by rw [hq1]; simp [l0, Cod.leN_length]
  have l2 : q2.length = l.length + 5 := by rw [hq2]; simp [l1, Cod.leN_length]
  have l3 : q3.length = l.length + 6 := by rw [hq3]; simp [l2, Cod.leN_length]
  have l4 : q4.length = l.length + 12 := by rw [hq4]; simp [l3, Cod.leN_length]
  have H0 := Lib.hid (fun fp W hP => pen_on g fp l q0 1 e.st 1 W hP rfl (by omega) (by omega) a0 (by simpa using b0) (by omega) hq0)
  have H1 := Lib.hid (fun fp W hP => pen_on g fp q0 q1 2 e.z 2 W hP rfl (by omega) (by omega) a1 (by simpa using b1) (by omega) hq1)
  have H2 := Lib.hid (fun fp W hP => pen_on g fp q1 q2 2 e.m 2 W hP rfl (by omega) (by omega) a2 (by simpa using b2) (by omega) hq2)
  have H3 := Lib.hid (fun fp W hP => pen_on g fp q2 q3 1 e.o 1 W hP rfl (by omega) (by omega) a3 (by simpa using b3) (by omega) hq3)
  have H4 := Lib.hid (fun fp W hP => pen_on g fp q3 q4 6 e.q 6 W hP rfl (by omega) (by omega) a4 (by simpa using b4) (by omega) hq4)
  have H5 := Lib.hid (fun fp W hP => pen_on g fp q4 (l ++ Sn.entB e) 4 e.s 4 W hP rfl (by omega) (by omega) a5 (by simpa using b5) (by omega) hq5)
  clear hq0 hq1 hq2 hq3 hq4 hq5 l0 l1 l2 l3 l4 a0 a1 a2 a3 a4 a5 b0 b1 b2 b3 b4 b5
  obtain ⟨QL, hQL⟩ : ∃ QL, l ++ Sn.entB e = QL := ⟨_, rfl⟩
  rw [hQL] at H5 ⊢
  clear hQL
  have HC : Hid (∀ W : World, W.heap[w.heap.size]? = some (.cells (BEC e) 46 (0, 0)) → W.cell? ⟨w.heap.size, 0, none⟩ = some (.int .i64 e.st) ∧ W.cell? ⟨w.heap.size, 1, none⟩ = some (.int .i64 e.z) ∧ W.cell? ⟨w.heap.size, 2, none⟩ = some (.int .i64 e.m) ∧ W.cell? ⟨w.heap.size, 3, none⟩ = some (.int .i64 e.o) ∧ W.cell? ⟨w.heap.size, 4, none⟩ = some (.int .i64 e.q) ∧ W.cell? ⟨w.heap.size, 5, none⟩ = some (.int .i64 e.s)) := Lib.hid (fun W hh => ⟨(cell_of_row _ _ _ _ _ _ hh).trans rfl, (cell_of_row _ _ _ _ _ _ hh).trans rfl, (cell_of_row _ _ _ _ _ _ hh).trans rfl, (cell_of_row _ _ _ _ _ _ hh).trans rfl, (cell_of_row _ _ _ _ _ _ hh).trans rfl, (cell_of_row _ _ _ _ _ _ hh).trans rfl⟩)
  have hg : g < w.heap.size := hP.lt
  have hfl : ∀ k, f = some k → k < w.heap.size := fun k hk => hP.row_lt hk
  have HFL := Lib.hid hfl
  have hal : Below w.heap.size w (w.alloc (.cells (BEC e) 46)) := (Below.refl _ _).alloc (Nat.le_refl _) _
  have hr0 := heap_alloc_new w (.cells (BEC e) 46)
  have HP0 := Lib.hid (hP.below hal)
  have hO0 : Only (g :: f.toList) w (w.alloc (.cells (BEC e) 46)) := Only.of_below hal
  obtain ⟨W0, hW0⟩ : ∃ W0, w.alloc (.cells (BEC e) 46) = W0 := ⟨_, rfl⟩
  rw [hW0] at HP0 hO0 hr0
  have HO0 := Lib.hid hO0
  have HR0 := Lib.hid hr0
  have HW0 := Lib.hid hW0
  have zb0 : w.heap.size < W0.heap.size := (Array.getElem?_eq_some_iff.1 hr0).1
  have HN0 : Hid (w.heap.size ∉ g :: f.toList) := Lib.hid (fun h => by
    rcases List.mem_cons.1 h with e | h
    · omega
    · have := HFL.out _ (by simpa using h); omega)
  obtain ⟨c0, c1, c2, c3, c4, c5⟩ := HC.out _ hr0
  clear hal hO0 hr0 hP hfl hW0
  go_enter Try.func75, Try.ntmps75
  go_upto_region 1 with (fail)
  rw [HW0.out]
  go_wp2_with fail
  refine (H0.out _ _ HP0.out).mono ?_
  rintro x1 w1 ⟨rfl, f1, hP1, hO1, hf1⟩
  have HP1 := Lib.hid hP1
  have hr1 := hO1.get HR0.out HN0.out
  have zb1 : w.heap.size < w1.heap.size := (Array.getElem?_eq_some_iff.1 hr1).1
  have HN1 : Hid (w.heap.size ∉ g :: f1.toList) := Lib.hid (fun h => by
    rcases hf1 with rfl | ⟨k, rfl, hk⟩
    · exact HN0.out h
    · rcases List.mem_cons.1 h with e | h
      · omega
      · have h2 : w.heap.size = k := by simpa using h
        omega)
  obtain ⟨hk1, hg1⟩ := PenPost.keep (.inl rfl) HO0.out hO1 hf1
  have HO1 := Lib.hid hk1
  have HF1 := Lib.hid hg1
  have HR1 := Lib.hid hr1
  clear c0 c1 c2 c3 c4 c5
  obtain ⟨c0, c1, c2, c3, c4, c5⟩ := HC.out _ hr1
  clear hP1 hO1 hf1 hk1 hg1 hr1
  go_wp2_with fail
  refine (H1.out _ _ HP1.out).mono ?_
  rintro x2 w2 ⟨rfl, f2, hP2, hO2, hf2⟩
  have HP2 := Lib.hid hP2
  have hr2 := hO2.get HR1.out HN1.out
  have zb2 : w.heap.size < w2.heap.size := (Array.getElem?_eq_some_iff.1 hr2).1
  have HN2 : Hid (w.heap.size ∉ g :: f2.toList) := Lib.hid (fun h => by
    rcases hf2 with rfl | ⟨k, rfl, hk⟩
    · exact HN1.out h
    · rcases List.mem_cons.1 h with e | h
      · omega
      · have h2 : w.heap.size = k := by simpa using h
        omega)
  obtain ⟨hk2, hg2⟩ := PenPost.keep HF1.out HO1.out hO2 hf2
  have HO2 := Lib.hid hk2
  have HF2 := Lib.hid hg2
  have HR2 := Lib.hid hr2
  clear c0 c1 c2 c3 c4 c5
  obtain ⟨c0, c1, c2, c3, c4, c5⟩ := HC.out _ hr2
  clear hP2 hO2 hf2 hk2 hg2 hr2
  go_wp2_with fail
  refine (H2.out _ _ HP2.out).mono ?_
  rintro x3 w3 ⟨rfl, f3, hP3, hO3, hf3⟩
  have HP3 := Lib.hid hP3
  have hr3 := hO3.get HR2.out HN2.out
  have zb3 : w.heap.size < w3.heap.size := (Array.getElem?_eq_some_iff.1 hr3).1
  have HN3 : Hid (w.heap.size ∉ g :: f3.toList) := Lib.hid (fun h => by
    rcases hf3 with rfl | ⟨k, rfl, hk⟩
    · exact HN2.out h
    · rcases List.mem_cons.1 h with e | h
      · omega
      · have h2 : w.heap.size = k := by simpa using h
        omega)
  obtain ⟨hk3, hg3⟩ := PenPost.keep HF2.out HO2.out hO3 hf3
  have HO3 := Lib.hid hk3
  have HF3 := Lib.hid hg3
  have HR3 := Lib.hid hr3
  clear c0 c1 c2 c3 c4 c5
  obtain ⟨c0, c1, c2, c3, c4, c5⟩ := HC.out _ hr3
  clear hP3 hO3 hf3 hk3 hg3 hr3
  go_wp2_with fail
  refine (H3.out _ _ HP3.out).mono ?_
  rintro x4 w4 ⟨rfl, f4, hP4, hO4, hf4⟩
  have HP4 := Lib.hid hP4
  have hr4 := hO4.get HR3.out HN3.out
  have zb4 : w.heap.size < w4.heap.size := (Array.getElem?_eq_some_iff.1 hr4).1
  have HN4 : Hid (w.heap.size ∉ g :: f4.toList) := Lib.hid (fun h => by
    rcases hf4 with rfl | ⟨k, rfl, hk⟩
    · exact HN3.out h
    · rcases List.mem_cons.1 h with e | h
      · omega
      · have h2 : w.heap.size = k := by simpa using h
        omega)
  obtain ⟨hk4, hg4⟩ := PenPost.keep HF3.out HO3.out hO4 hf4
  have HO4 := Lib.hid hk4
  have HF4 := Lib.hid hg4
  have HR4 := Lib.hid hr4
  clear c0 c1 c2 c3 c4 c5
  obtain ⟨c0, c1, c2, c3, c4, c5⟩ := HC.out _ hr4
  clear hP4 hO4 hf4 hk4 hg4 hr4
  go_wp2_with fail
  refine (H4.out _ _ HP4.out).mono ?_
  rintro x5 w5 ⟨rfl, f5, hP5, hO5, hf5⟩
  have HP5 := Lib.hid hP5
  have hr5 := hO5.get HR4.out HN4.out
  have zb5 : w.heap.size < w5.heap.size := (Array.getElem?_eq_some_iff.1 hr5).1
  have HN5 : Hid (w.heap.size ∉ g :: f5.toList) := Lib.hid (fun h => by
    rcases hf5 with rfl | ⟨k, rfl, hk⟩
    · exact HN4.out h
    · rcases List.mem_cons.1 h with e | h
      · omega
      · have h2 : w.heap.size = k := by simpa using h
        omega)
  obtain ⟨hk5, hg5⟩ := PenPost.keep HF4.out HO4.out hO5 hf5
  have HO5 := Lib.hid hk5
  have HF5 := Lib.hid hg5
  have HR5 := Lib.hid hr5
  clear c0 c1 c2 c3 c4 c5
  obtain ⟨c0, c1, c2, c3, c4, c5⟩ := HC.out _ hr5
  clear hP5 hO5 hf5 hk5 hg5 hr5
  go_wp2_with fail
  refine (H5.out _ _ HP5.out).mono ?_
  rintro x6 w6 ⟨rfl, f6, hP6, hO6, hf6⟩
  have HP6 := Lib.hid hP6
  have hr6 := hO6.get HR5.out HN5.out
  have zb6 : w.heap.size < w6.heap.size := (Array.getElem?_eq_some_iff.1 hr6).1
  have HN6 : Hid (w.heap.size ∉ g :: f6.toList) := Lib.hid (fun h => by
    rcases hf6 with rfl | ⟨k, rfl, hk⟩
    · exact HN5.out h
    · rcases List.mem_cons.1 h with e | h
      · omega
      · have h2 : w.heap.size = k := by simpa using h
        omega)
  obtain ⟨hk6, hg6⟩ := PenPost.keep HF5.out HO5.out hO6 hf6
  have HO6 := Lib.hid hk6
  have HF6 := Lib.hid hg6
  have HR6 := Lib.hid hr6
  clear c0 c1 c2 c3 c4 c5
  obtain ⟨c0, c1, c2, c3, c4, c5⟩ := HC.out _ hr6
  clear hP6 hO6 hf6 hk6 hg6 hr6
  go_wp2
  refine bodyPost_ret (results_none rfl _ _ _) rfl ?_
  exact ⟨rfl, f6, HP6.out, HO6.out, HF6.out⟩
end Go.Proofs.Ytjnneoejnpephaa
namespace Sn
open Go.Proofs.Ytjnneoejnpephaa
/-- the first frame's bytes -/
def headB (next : Int) (g : Geo.G) : List Nat := Cod.leN 6 next.toNat ++ Cod.leN 1 g.d.toNat ++ Cod.leN 1 g.z.toNat ++ Cod.leN 1 g.s.toNat ++ Cod.leN 2 g.b.toNat ++ Cod.leN 1 g.p.toNat ++ Cod.leN 1 g.o.toNat
theorem headB_length (next : Int) (g : Geo.G) : (headB next g).length = 13 := by simp [headB, Cod.leN_length]
theorem room_of_right {g : Geo.G} {e : BE} (hs : Geo.Small g) (h : beRight g e = true) : Room e := by
  obtain ⟨⟨d1, d2⟩, ⟨z1, z2⟩, ⟨s1, s2⟩, -⟩ := hs
  unfold beRight at h
  split at h
  · rename_i hst
    have he := of_decide_eq_true h
    rw [he]
    refine ⟨?_, ?_, ?_, ?_, ?_, ?_⟩ <;> simp
    rcases hst with h | h <;> omega
  · split at h
    · rename_i h1
      simp only [beLive, holdsG, Bool.and_eq_true, Geo.inB_iff, decide_eq_true_eq] at h
      obtain ⟨⟨-, ⟨a1, a2⟩, a3, a4⟩, ⟨-, ⟨b1, b2⟩, b3, b4⟩, -, q1, q2, s3, s4⟩ := h
      have hm := Int.mul_le_mul d2 z2 (by omega) (by omega)
      refine ⟨⟨by omega, by omega⟩, ⟨a1, by omega⟩, ⟨b1, by omega⟩, ⟨a3, by omega⟩, ⟨by omega, by omega⟩, s3, by omega⟩
    · cases h
end Sn
namespace Go.Proofs.Ytjnneoejnpephaa
open Go.RowKit Go.Rv
set_option linter.unusedVariables false
attribute [local go_sem] Oper.semAt_some
/-- a snapshot's cells -/
def SnC (gen epoch next : Int) (p : Nat) : Array Value := #[.int .i64 gen, .int .i64 epoch, .int .i64 next, .pointer (some ⟨p, 0, none⟩)]
theorem Try.infoSnap : (Try.prog.info? 28).map (fun i => (i.zero, i.size)) = some (some (.agg #[.int .i64 0, .int .i64 0, .int .i64 0, .pointer none]), 4) := by kernel_rfl
theorem snsize (gen epoch next : Int) (p : Nat) : (Try.prog.info? 28).map (·.size) = some (SnC gen epoch next p).size := (zero_of_info Try.infoSnap).2
theorem sn_cells {w : World} {b : Nat} {gen epoch next : Int} {p : Nat} {t : TypeId} (h : w.heap[b]? = some (.cells (SnC gen epoch next p) t (0, 0))) : w.cell? ⟨b, 0, none⟩ = some (.int .i64 gen) ∧ w.cell? ⟨b, 1, none⟩ = some (.int .i64 epoch) ∧ w.cell? ⟨b, 2, none⟩ = some (.int .i64 next) ∧ w.cell? ⟨b, 3, none⟩ = some (.pointer (some ⟨p, 0, none⟩)) :=
  ⟨(cell_of_row _ _ _ _ _ _ h).trans rfl, (cell_of_row _ _ _ _ _ _ h).trans rfl, (cell_of_row _ _ _ _ _ _ h).trans rfl, (cell_of_row _ _ _ _ _ _ h).trans rfl⟩
/-- a number goes through a pen that lies above all else -/
theorem pen_next (g : Nat) (f : Option Nat) (l q : List Nat) (W V : Int) (k : Nat) (w : World) (hP : PenAt w g f l false) (hf : ∀ j, f = some j → g < j) (hW : W = k) (h1 : 1 ≤ k) (h7 : k ≤ 7) (h0 : 0 ≤ V) (hn : V < (256 ^ k : Nat)) (hl : l.length ≤ 1000000) (hq : q = l ++ Cod.leN k V.toNat) :
    Calls Try.prog 73 #[.pointer (some ⟨g, 0, none⟩), .int .i64 W, .int .i64 V] w (PenNext w g q false) :=
  (pen_on g f l q W V k w hP hW h1 h7 h0 hn hl hq).mono fun e w' h => h.next hf hP.lt
set_option maxRecDepth 100000 in
set_option maxHeartbeats 4000000 in
theorem shead_any (w : World) (p le ll ce cl : Nat) (g : Geo.G) (es : List BE) (lv : List Int) (h : BmIs w p le ll ce cl g es lv) (hs : Geo.Small g) (gen epoch next : Int) (hn : 1 ≤ next ∧ next ≤ 281474976710655) :
    Calls Try.prog 46 #[.agg (SnC gen epoch next p)] w fun e w' => e = .returned (.agg (byteCells (Sn.pad44 (Sn.headB next g)))) ∧ Below w.heap.size w w' := by
  have hz := (zero_of_info Try.infoBodyS).1
  have hzg := (zero_of_info Try.infoGeoZ).1
  have hone := one_byteCells (Sn.pad44 (Sn.headB next g))
  have HLN : Hid ((Sn.headB next g).length ≤ 44) := Lib.hid (by rw [Sn.headB_length]; omega)
  have HI := Lib.hid (size_bodyS (Sn.pad44_length HLN.out))
  have HGI := Lib.hid (gsize (g := g))
  have HGE := Lib.hid (fun W hW => bgeom_any W p le ll ce cl g es lv hW)
  have HH := Lib.hid h
  obtain ⟨⟨d1, d2⟩, ⟨z1, z2⟩, ⟨s1, s2⟩, ⟨b1, b2⟩, ⟨p1, p2⟩, o1, o2⟩ := hs
  obtain ⟨n1, n2⟩ := hn
  obtain ⟨q0, hq0⟩ : ∃ q, q = [] ++ Cod.leN 6 next.toNat := ⟨_, rfl⟩
  obtain ⟨q1, hq1⟩ : ∃ q, q = q0 ++ Cod.leN 1 g.d.toNat := ⟨_, rfl⟩
  obtain ⟨q2, hq2⟩ : ∃ q, q = q1 ++ Cod.leN 1 g.z.toNat := ⟨_, rfl⟩
  obtain ⟨q3, hq3⟩ : ∃ q, q = q2 ++ Cod.leN 1 g.s.toNat := ⟨_, rfl⟩
  obtain ⟨q4, hq4⟩ : ∃ q, q = q3 ++ Cod.leN 2 g.b.toNat := ⟨_, rfl⟩
  obtain ⟨q5, hq5⟩ : ∃ q, q = q4 ++ Cod.leN 1 g.p.toNat := ⟨_, rfl⟩
  have hq6 : Sn.headB next g = q5 ++ Cod.leN 1 g.o.toNat := by rw [hq5, hq4, hq3, hq2, hq1, hq0]; rfl
  have l0 : q0.length = 6 := by rw [hq0]; simp [Cod.leN_length]
  have l1 : q1.length = 7 := by rw [hq1]; simp [l0, Cod.leN_length]
  have l2 : q2.length = 8 := by rw [hq2]; simp [l1, Cod.leN_length]
  have l3 : q3.length = 9 := by rw [hq3]; simp [l2, Cod.leN_length]
  have l4 : q4.length = 11 := by rw [hq4]; simp [l3, Cod.leN_length]
  have l5 : q5.length = 12 := by rw [hq5]; simp [l4, Cod.leN_length]
  have H0 := Lib.hid (fun pg fp W hP hf => pen_next pg fp [] q0 6 next 6 W hP hf rfl (by omega) (by omega) (by omega) (by simp; omega) (by simp) hq0)
  have H1 := Lib.hid (fun pg fp W hP hf => pen_next pg fp q0 q1 1 g.d 1 W hP hf rfl (by omega) (by omega) (by omega) (by simp; omega) (by omega) hq1)
  have H2 := Lib.hid (fun pg fp W hP hf => pen_next pg fp q1 q2 1 g.z 1 W hP hf rfl (by omega) (by omega) (by omega) (by simp; omega) (by omega) hq2)
  have H3 := Lib.hid (fun pg fp W hP hf => pen_next pg fp q2 q3 1 g.s 1 W hP hf rfl (by omega) (by omega) (by omega) (by simp; omega) (by omega) hq3)
  have H4 := Lib.hid (fun pg fp W hP hf => pen_next pg fp q3 q4 2 g.b 2 W hP hf rfl (by omega) (by omega) (by omega) (by simp; omega) (by omega) hq4)
  have H5 := Lib.hid (fun pg fp W hP hf => pen_next pg fp q4 q5 1 g.p 1 W hP hf rfl (by omega) (by omega) (by omega) (by simp; omega) (by omega) hq5)
  have H6 := Lib.hid (fun pg fp W hP hf => pen_next pg fp q5 (Sn.headB next g) 1 g.o 1 W hP hf rfl (by omega) (by omega) (by omega) (by simp; omega) (by omega) hq6)
  have HBD := Lib.hid (fun pg fp W hP => sbody_any pg fp (Sn.headB next g) W hP HLN.out)
  have HSC := Lib.hid (fun (W : World) hh => sn_cells (w := W) (b := w.heap.size) (gen := gen) (epoch := epoch) (next := next) (p := p) (t := 28) hh)
  have HGC := Lib.hid (fun (W : World) b hh => geo_cells (w := W) (b := b) (g := g) (t := 23) hh)
  clear hq0 hq1 hq2 hq3 hq4 hq5 hq6 l0 l1 l2 l3 l4 l5 d1 d2 z1 z2 s1 s2 b1 b2 p1 p2 o1 o2 n1 n2 h
  obtain ⟨QL, hQL⟩ : ∃ QL, Sn.headB next g = QL := ⟨_, rfl⟩
  rw [hQL] at H6 HBD HLN HI hone ⊢
  clear hQL
  generalize hC : SnC gen epoch next p = C at *
  clear hC
  obtain ⟨Z, hZ⟩ : ∃ Z, byteCells (List.replicate 44 0) = Z := ⟨_, rfl⟩
  have HZS : Hid (Z.size = (byteCells (Sn.pad44 QL)).size) := Lib.hid (by rw [← hZ, size_byteCells, size_byteCells, Sn.pad44_length HLN.out]; simp)
  rw [hZ] at hz
  clear hZ
  have hB0 : Below w.heap.size w ((w.alloc (.cells C 28)).alloc (.cells Z 40)) := ((Below.refl _ _).alloc (Nat.le_refl _) _).alloc (by simp) _
  obtain ⟨W0, hW0⟩ : ∃ W0, (w.alloc (.cells C 28)).alloc (.cells Z 40) = W0 := ⟨_, rfl⟩
  have hS0 : W0.heap[w.heap.size]? = some (.cells C 28 (0, 0)) := by rw [← hW0]; exact heap_alloc2_old w _ _
  have hO0 : W0.heap[w.heap.size + 1]? = some (.cells Z 40 (0, 0)) := by rw [← hW0]; exact heap_alloc2_new w _ _
  rw [hW0] at hB0
  have HM0 := Lib.hid (HH.out.below hB0)
  have HW0 := Lib.hid hW0
  have zO : w.heap.size + 1 < W0.heap.size := (Array.getElem?_eq_some_iff.1 hO0).1
  obtain ⟨c0, c1, c2, c3⟩ := HSC.out _ hS0
  clear hW0
  go_enter Try.func46, Try.ntmps46
  go_upto_region 1 with (fail)
  rw [HW0.out]
  go_wp2_with fail
  refine (HGE.out _ HM0.out).mono ?_
  rintro e w1 ⟨rfl, hB1⟩
  have hS1 := (hB1.block w.heap.size (by omega)).trans hS0
  have hO1 := (hB1.block (w.heap.size + 1) zO).trans hO0
  have hBw1 := hB0.trans (hB1.mono hB0.size)
  have z1 := hB1.size
  obtain ⟨gb, hgb⟩ : ∃ gb, w1.heap.size = gb := ⟨_, rfl⟩
  obtain ⟨W2, hW2⟩ : ∃ W2, w1.alloc (.cells (GC g) 23) = W2 := ⟨_, rfl⟩
  have hb2 : Below w1.heap.size w1 W2 := by rw [← hW2]; exact (Below.refl _ _).alloc (Nat.le_refl _) _
  have hG2 : W2.heap[gb]? = some (.cells (GC g) 23 (0, 0)) := by rw [← hW2, ← hgb]; exact heap_alloc_new w1 _
  have hS2 := (hb2.block w.heap.size (by omega)).trans hS1
  have hO2 := (hb2.block (w.heap.size + 1) (by omega)).trans hO1
  have hBw2 := hBw1.trans (hb2.mono (by omega))
  have zg : w.heap.size + 1 < gb := by omega
  have zg2 : gb < W2.heap.size := (Array.getElem?_eq_some_iff.1 hG2).1
  have HW2 := Lib.hid hW2
  have HGB := Lib.hid hgb
  clear hS0 hO0 hB0 hB1 hS1 hO1 hBw1 hb2 hW2 hgb c0 c1 c2 c3
  go_upto_region 2 with (refine wpList_store_row rfl 23 _ _ rfl w1.heap.size (GC g) rfl rfl 23 (GC ⟨0, 0, 0, 0, 0, 0⟩) (heap_alloc_new w1 _) HGI.out rfl (GC_one g) ?_; rw [World.setRow_alloc_new])
  rw [HW2.out, HGB.out]
  have hPb0 := PenAt.new W2
  have hba : Below W2.heap.size W2 (W2.alloc (.cells #[.slice none 0 0, .bool false] 134)) := (Below.refl _ _).alloc (Nat.le_refl _) _
  have hg := hPb0.lt
  have hFb0 := (hba.block w.heap.size (by omega)).trans hS2
  have hOb0 := (hba.block (w.heap.size + 1) (by omega)).trans hO2
  have hGb0 := (hba.block gb (by omega)).trans hG2
  have hBwb0 := hBw2.trans (hba.mono (by omega))
  have hfb0 : ∀ j, (none : Option Nat) = some j → W2.heap.size < j := fun j h => (by cases h)
  obtain ⟨c0, c1, c2, c3⟩ := HSC.out _ hFb0
  obtain ⟨d0, d1, d2, d3, d4, d5⟩ := HGC.out _ _ hGb0
  clear hS2 hO2 hG2 hBw2 hba
  go_wp2_with fail
  refine (H0.out _ _ _ hPb0 hfb0).mono ?_
  rintro eb1 wb1 ⟨rfl, fb1, hPb1, hfb1, hBb1⟩
  have hFb1 := (hBb1.block w.heap.size (by omega)).trans hFb0
  have hOb1 := (hBb1.block (w.heap.size + 1) (by omega)).trans hOb0
  have hGb1 := (hBb1.block gb (by omega)).trans hGb0
  have hBwb1 := hBwb0.trans (hBb1.mono (by omega))
  clear c0 c1 c2 c3 d0 d1 d2 d3 d4 d5
  obtain ⟨c0, c1, c2, c3⟩ := HSC.out _ hFb1
  obtain ⟨d0, d1, d2, d3, d4, d5⟩ := HGC.out _ _ hGb1
  clear hFb0 hOb0 hGb0 hBwb0 hBb1
  go_wp2_with fail
  refine (H1.out _ _ _ hPb1 hfb1).mono ?_
  rintro eb2 wb2 ⟨rfl, fb2, hPb2, hfb2, hBb2⟩
  have hFb2 := (hBb2.block w.heap.size (by omega)).trans hFb1
  have hOb2 := (hBb2.block (w.heap.size + 1) (by omega)).trans hOb1
  have hGb2 := (hBb2.block gb (by omega)).trans hGb1
  have hBwb2 := hBwb1.trans (hBb2.mono (by omega))
  clear c0 c1 c2 c3 d0 d1 d2 d3 d4 d5
  obtain ⟨c0, c1, c2, c3⟩ := HSC.out _ hFb2
  obtain ⟨d0, d1, d2, d3, d4, d5⟩ := HGC.out _ _ hGb2
  clear hFb1 hOb1 hGb1 hBwb1 hBb2
  go_wp2_with fail
  refine (H2.out _ _ _ hPb2 hfb2).mono ?_
  rintro eb3 wb3 ⟨rfl, fb3, hPb3, hfb3, hBb3⟩
  have hFb3 := (hBb3.block w.heap.size (by omega)).trans hFb2
  have hOb3 := (hBb3.block (w.heap.size + 1) (by omega)).trans hOb2
  have hGb3 := (hBb3.block gb (by omega)).trans hGb2
  have hBwb3 := hBwb2.trans (hBb3.mono (by omega))
  clear c0 c1 c2 c3 d0 d1 d2 d3 d4 d5
  obtain ⟨c0, c1, c2, c3⟩ := HSC.out _ hFb3
  obtain ⟨d0, d1, d2, d3, d4, d5⟩ := HGC.out _ _ hGb3
  clear hFb2 hOb2 hGb2 hBwb2 hBb3
  go_wp2_with fail
  refine (H3.out _ _ _ hPb3 hfb3).mono ?_
  rintro eb4 wb4 ⟨rfl, fb4, hPb4, hfb4, hBb4⟩
  have hFb4 := (hBb4.block w.heap.size (by omega)).trans hFb3
  have hOb4 := (hBb4.block (w.heap.size + 1) (by omega)).trans hOb3
  have hGb4 := (hBb4.block gb (by omega)).trans hGb3
  have hBwb4 := hBwb3.trans (hBb4.mono (by omega))
  clear c0 c1 c2 c3 d0 d1 d2 d3 d4 d5
  obtain ⟨c0, c1, c2, c3⟩ := HSC.out _ hFb4
  obtain ⟨d0, d1, d2, d3, d4, d5⟩ := HGC.out _ _ hGb4
  clear hFb3 hOb3 hGb3 hBwb3 hBb4
  go_wp2_with fail
  refine (H4.out _ _ _ hPb4 hfb4).mono ?_
  rintro eb5 wb5 ⟨rfl, fb5, hPb5, hfb5, hBb5⟩
  have hFb5 := (hBb5.block w.heap.size (by omega)).trans hFb4
  have hOb5 := (hBb5.block (w.heap.size + 1) (by omega)).trans hOb4
  have hGb5 := (hBb5.block gb (by omega)).trans hGb4
  have hBwb5 := hBwb4.trans (hBb5.mono (by omega))
  clear c0 c1 c2 c3 d0 d1 d2 d3 d4 d5
  obtain ⟨c0, c1, c2, c3⟩ := HSC.out _ hFb5
  obtain ⟨d0, d1, d2, d3, d4, d5⟩ := HGC.out _ _ hGb5
  clear hFb4 hOb4 hGb4 hBwb4 hBb5
  go_wp2_with fail
  refine (H5.out _ _ _ hPb5 hfb5).mono ?_
  rintro eb6 wb6 ⟨rfl, fb6, hPb6, hfb6, hBb6⟩
  have hFb6 := (hBb6.block w.heap.size (by omega)).trans hFb5
  have hOb6 := (hBb6.block (w.heap.size + 1) (by omega)).trans hOb5
  have hGb6 := (hBb6.block gb (by omega)).trans hGb5
  have hBwb6 := hBwb5.trans (hBb6.mono (by omega))
  clear c0 c1 c2 c3 d0 d1 d2 d3 d4 d5
  obtain ⟨c0, c1, c2, c3⟩ := HSC.out _ hFb6
  obtain ⟨d0, d1, d2, d3, d4, d5⟩ := HGC.out _ _ hGb6
  clear hFb5 hOb5 hGb5 hBwb5 hBb6
  go_wp2_with fail
  refine (H6.out _ _ _ hPb6 hfb6).mono ?_
  rintro eb7 wb7 ⟨rfl, fb7, hPb7, hfb7, hBb7⟩
  have hFb7 := (hBb7.block w.heap.size (by omega)).trans hFb6
  have hOb7 := (hBb7.block (w.heap.size + 1) (by omega)).trans hOb6
  have hGb7 := (hBb7.block gb (by omega)).trans hGb6
  have hBwb7 := hBwb6.trans (hBb7.mono (by omega))
  clear c0 c1 c2 c3 d0 d1 d2 d3 d4 d5
  obtain ⟨c0, c1, c2, c3⟩ := HSC.out _ hFb7
  obtain ⟨d0, d1, d2, d3, d4, d5⟩ := HGC.out _ _ hGb7
  clear hFb6 hOb6 hGb6 hBwb6 hBb7
  have hg7 := hPb7.lt
  go_wp2_with fail
  refine (HBD.out _ _ _ hPb7).mono ?_
  rintro e9 w9 ⟨rfl, hB9⟩
  have hO9 := (hB9.block (w.heap.size + 1) (by omega)).trans hOb7
  have hBw9 := hBwb7.trans (hB9.mono (by omega))
  clear c0 c1 c2 c3 d0 d1 d2 d3 d4 d5 hB9
  go_wp2_with (refine wpList_store_row rfl 40 _ _ rfl (w.heap.size + 1) (byteCells (Sn.pad44 QL)) rfl rfl 40 Z hO9 HI.out HZS.out hone ?_)
  refine bodyPost_ret (res_row rfl _ _ (w.heap.size + 1) 40 (byteCells (Sn.pad44 QL)) _ _ rfl (setRow_heap _ _ _ _ _ _ hO9) Try.underlying40 rfl HI.out) rfl ?_
  exact ⟨rfl, below_setRow hBw9 (by omega) _⟩
end Go.Proofs.Ytjnneoejnpephaa
namespace Sn
open Go.Proofs.Ytjnneoejnpephaa
/-- the k-th entry, or none -/
def entAt (es : List BE) (j : Nat) : BE := (es[j]?).getD BE.zero
/-- another frame's bytes, up to k entries -/
def partK (es : List BE) (i k : Nat) : List Nat := Cod.leN 1 i ++ (List.range k).flatMap fun t => entB (entAt es (2 * (i - 1) + t))
def partB (es : List BE) (i : Nat) : List Nat := partK es i 2
theorem partK_zero (es : List BE) (i : Nat) : partK es i 0 = Cod.leN 1 i := by simp [partK]
theorem partK_succ (es : List BE) (i k : Nat) : partK es i (k + 1) = partK es i k ++ entB (entAt es (2 * (i - 1) + k)) := by simp [partK, List.range_succ]
theorem partK_length (es : List BE) (i : Nat) : ∀ k, (partK es i k).length = 1 + 16 * k
  | 0 => by simp [partK, Cod.leN_length]
  | k + 1 => by rw [partK_succ, List.length_append, partK_length es i k, entB_length]; omega
theorem zero_room : Room BE.zero := by unfold Room BE.zero; simp
theorem entAt_room {es : List BE} (h : ∀ e ∈ es, Room e) (j : Nat) : Room (entAt es j) := by
  unfold entAt
  by_cases hj : j < es.length
  · rw [List.getElem?_eq_getElem hj]; exact h _ (List.getElem_mem _)
  · rw [List.getElem?_eq_none (by omega)]; exact zero_room
end Sn
namespace Go.Proofs.Ytjnneoejnpephaa
open Go.RowKit Go.Rv
set_option linter.unusedVariables false
attribute [local go_sem] Oper.semAt_some
/-- Get, wherever -/
theorem bget_at (w : World) (p le ll ce cl : Nat) (g : Geo.G) (es : List BE) (lv : List Int) (h : BmIs w p le ll ce cl g es lv) (j : Int) (h0 : 0 ≤ j) (hn : es.length ≤ 100000) :
    Calls Try.prog 24 #[.pointer (some ⟨p, 0, none⟩), .int .i64 j] w fun x w' => ∃ k, x = .returned (.tuple #[.agg (BEC (Sn.entAt es j.toNat)), .int .i64 k]) ∧ Below w.heap.size w w' := by
  by_cases hj : j < es.length
  · obtain ⟨k, rfl⟩ : ∃ k : Nat, j = k := ⟨j.toNat, by omega⟩
    have hk : k < es.length := by omega
    refine (bget_in w p le ll ce cl g es lv h k es[k] (List.getElem?_eq_getElem hk) hn).mono ?_
    rintro e w' ⟨rfl, hB⟩
    refine ⟨0, ?_, hB⟩
    rw [Int.toNat_natCast, Sn.entAt, List.getElem?_eq_getElem hk]
    rfl
  · refine (bget_out w p le ll ce cl g es lv h j (.inr (by omega))).mono ?_
    rintro e w' ⟨rfl, hB⟩
    refine ⟨13, ?_, hB⟩
    rw [Sn.entAt, List.getElem?_eq_none (by omega)]
    rfl
set_option maxRecDepth 100000 in
set_option maxHeartbeats 4000000 in
theorem spart_any (w : World) (p le ll ce cl : Nat) (g : Geo.G) (es : List BE) (lv : List Int) (h : BmIs w p le ll ce cl g es lv) (hr : ∀ e ∈ es, Sn.Room e) (hn : es.length ≤ 100000) (gen epoch next : Int) (i : Nat) (hi : 1 ≤ i ∧ i ≤ 255) :
    Calls Try.prog 47 #[.agg (SnC gen epoch next p), .int .i64 (i : Nat)] w fun e w' => e = .returned (.agg (byteCells (Sn.pad44 (Sn.partB es i)))) ∧ Below w.heap.size w w' := by
  have hz := (zero_of_info Try.infoBodyS).1
  have hze := (zero_of_info Try.infoEnt).1
  have hone := one_byteCells (Sn.pad44 (Sn.partB es i))
  have HLN : Hid ((Sn.partB es i).length ≤ 44) := Lib.hid (by unfold Sn.partB; rw [Sn.partK_length]; omega)
  have HI := Lib.hid (size_bodyS (Sn.pad44_length HLN.out))
  have HES : Hid (∀ e, (Try.prog.info? 46).map (·.size) = some (BEC e).size) := Lib.hid (fun e => esize e)
  have HM := Lib.hid (fun W (hW : Below w.heap.size w W) => h.below hW)
  have HG := Lib.hid (fun (j : Int) (h0 : 0 ≤ j) W hW => bget_at W p le ll ce cl g es lv hW j h0 hn)
  have HRM := Lib.hid (Sn.entAt_room hr)
  have HN0 := Lib.hid (fun pg fp W hP hf => pen_next pg fp [] (Sn.partK es i 0) 1 (i : Nat) 1 W hP hf rfl (by omega) (by omega) (by omega) (by simp; omega) (by simp) (by rw [Sn.partK_zero]; simp))
  have HPT := Lib.hid (fun (k : Nat) (hk : k < 2) pg fp W hP (hf : ∀ j, fp = some j → pg < j) => (sput_any pg fp (Sn.partK es i k) (Sn.entAt es (2 * (i - 1) + k)) W hP (by rw [Sn.partK_length]; omega) (HRM.out _)).mono (fun e w' h => h.next hf hP.lt))
  have HBD := Lib.hid (fun pg fp W hP => sbody_any pg fp (Sn.partB es i) W hP HLN.out)
  have HSC := Lib.hid (fun (W : World) hh => sn_cells (w := W) (b := w.heap.size) (gen := gen) (epoch := epoch) (next := next) (p := p) (t := 28) hh)
  obtain ⟨i1, i2⟩ := hi
  clear h hr hn
  generalize hC : SnC gen epoch next p = C at *
  clear hC
  obtain ⟨Z, hZ⟩ : ∃ Z, byteCells (List.replicate 44 0) = Z := ⟨_, rfl⟩
  have HZS : Hid (Z.size = (byteCells (Sn.pad44 (Sn.partB es i))).size) := Lib.hid (by rw [← hZ, size_byteCells, size_byteCells, Sn.pad44_length HLN.out]; simp)
  rw [hZ] at hz
  clear hZ
  have hB0 : Below w.heap.size w ((w.alloc (.cells C 28)).alloc (.cells Z 40)) := ((Below.refl _ _).alloc (Nat.le_refl _) _).alloc (by simp) _
  obtain ⟨W0, hW0⟩ : ∃ W0, (w.alloc (.cells C 28)).alloc (.cells Z 40) = W0 := ⟨_, rfl⟩
  have hS0 : W0.heap[w.heap.size]? = some (.cells C 28 (0, 0)) := by rw [← hW0]; exact heap_alloc2_old w _ _
  have hO0 : W0.heap[w.heap.size + 1]? = some (.cells Z 40 (0, 0)) := by rw [← hW0]; exact heap_alloc2_new w _ _
  rw [hW0] at hB0
  have HW0 := Lib.hid hW0
  have zO : w.heap.size + 1 < W0.heap.size := (Array.getElem?_eq_some_iff.1 hO0).1
  obtain ⟨pg, hpg⟩ : ∃ pg, W0.heap.size = pg := ⟨_, rfl⟩
  have hPn := PenAt.new W0
  have hba : Below W0.heap.size W0 (W0.alloc (.cells #[.slice none 0 0, .bool false] 134)) := (Below.refl _ _).alloc (Nat.le_refl _) _
  obtain ⟨W1, hW1⟩ : ∃ W1, W0.alloc (.cells #[.slice none 0 0, .bool false] 134) = W1 := ⟨_, rfl⟩
  rw [hW1, hpg] at hPn
  rw [hW1] at hba
  have HP1 := Lib.hid hPn
  have hS1 := (hba.block w.heap.size (by omega)).trans hS0
  have hO1 := (hba.block (w.heap.size + 1) zO).trans hO0
  have HB1 := Lib.hid (hB0.trans (hba.mono (by omega)))
  have zpg : w.heap.size + 1 < pg := by omega
  have HS1 := Lib.hid hS1
  have HO1 := Lib.hid hO1
  have HW1 := Lib.hid hW1
  have HPG := Lib.hid hpg
  clear hW0 hW1 hB0 hS0 hO0 hS1 hO1 hba hPn hpg
  go_enter Try.func47, Try.ntmps47
  go_upto_region 1 with (fail)
  rw [HW0.out]
  go_upto_region 2 with (fail)
  rw [HW1.out, HPG.out]
  go_wp2_with fail
  refine (HN0.out _ _ _ HP1.out (fun j h => by cases h)).mono ?_
  rintro e2 w2 ⟨rfl, f2, hP2, hf2, hB2⟩
  have hS2 := (hB2.block w.heap.size (by omega)).trans HS1.out
  have hO2 := (hB2.block (w.heap.size + 1) (by omega)).trans HO1.out
  have hBw2 := HB1.out.trans (hB2.mono (by omega))
  have HP2 := Lib.hid hP2
  have HF2 := Lib.hid hf2
  have HS2 := Lib.hid hS2
  have HO2 := Lib.hid hO2
  have HB2 := Lib.hid hBw2
  clear hP2 hf2 hS2 hO2 hBw2 hB2
  go_wp2
  go_loopw [14] (fun u wr => ∃ (k : Nat) (fp : Option Nat), k ≤ 2 ∧ u = .int .i64 k ∧ PenAt wr pg fp (Sn.partK es i k) false ∧ (∀ j, fp = some j → pg < j) ∧ wr.heap[w.heap.size]? = some (.cells C 28 (0, 0)) ∧ wr.heap[w.heap.size + 1]? = some (.cells Z 40 (0, 0)) ∧ Below w.heap.size w wr) (fun u _ => 2 - (intOf u).toNat)
  case atStart => exact ⟨0, f2, by omega, rfl, HP2.out, HF2.out, HS2.out, HO2.out, HB2.out⟩
  case round =>
    obtain ⟨k, fp, hk, rfl, hP, hf, hS, hO, hB⟩ := hrel
    have HP := Lib.hid hP
    have HF := Lib.hid hf
    have HS := Lib.hid hS
    have HO := Lib.hid hO
    have HB := Lib.hid hB
    have zp := hP.lt
    obtain ⟨c0, c1, c2, c3⟩ := HSC.out _ hS
    clear hP hf hS hO hB
    by_cases hlt : k < 2
    · have HGK := Lib.hid (HG.out (2 * ((i : Int) - 1) + k) (by omega) wr (HM.out _ HB.out))
      have he : (2 * ((i : Int) - 1) + (k : Int)).toNat = 2 * (i - 1) + k := by omega
      rw [he] at HGK
      have HPK := Lib.hid (HPT.out k hlt)
      have HKS := Lib.hid (Sn.partK_succ es i k)
      obtain ⟨E, hE⟩ : ∃ E, Sn.entAt es (2 * (i - 1) + k) = E := ⟨_, rfl⟩
      rw [hE] at HGK HPK HKS
      rw [← HKS.out] at HPK
      clear he hE
      go_wp2_with fail
      refine HGK.out.mono ?_
      rintro e3 w3 ⟨ek, rfl, hB3⟩
      have z3 := hB3.size
      have hP3 := HP.out.below hB3
      have hS3 := (hB3.block w.heap.size (by omega)).trans HS.out
      have hO3 := (hB3.block (w.heap.size + 1) (by omega)).trans HO.out
      have hBw3 := HB.out.trans (hB3.mono (by omega))
      obtain ⟨W4, hW4⟩ : ∃ W4, w3.alloc (.cells (BEC E) 46) = W4 := ⟨_, rfl⟩
      have hb4 : Below w3.heap.size w3 W4 := by rw [← hW4]; exact (Below.refl _ _).alloc (Nat.le_refl _) _
      have hE4 : W4.heap[w3.heap.size]? = some (.cells (BEC E) 46 (0, 0)) := by rw [← hW4]; exact heap_alloc_new w3 _
      have HP4 := Lib.hid (hP3.below hb4)
      have HS4 := Lib.hid ((hb4.block w.heap.size (by omega)).trans hS3)
      have HO4 := Lib.hid ((hb4.block (w.heap.size + 1) (by omega)).trans hO3)
      have HB4 := Lib.hid (hBw3.trans (hb4.mono (by omega)))
      have HW4 := Lib.hid hW4
      clear hB3 hP3 hS3 hO3 hBw3 hb4 hW4 c0 c1 c2 c3
      go_upto_region 7 with (refine wpList_store_row rfl 46 _ _ rfl w3.heap.size (BEC E) rfl rfl 46 (BEC BE.zero) (heap_alloc_new w3 _) (HES.out _) rfl (BEC_one E) ?_; rw [World.setRow_alloc_new])
      rw [HW4.out]
      go_wp2_with (refine wpList_row_on (by rfl) 46 _ rfl w3.heap.size rfl 46 _ _ _ hE4 Try.underlying46 rfl (HES.out _) ?_)
      refine (HPK.out _ _ _ HP4.out HF.out).mono ?_
      rintro e5 w5 ⟨rfl, f5, hP5, hf5, hB5⟩
      have HP5 := Lib.hid hP5
      have HF5 := Lib.hid hf5
      have HS5 := Lib.hid ((hB5.block w.heap.size (by omega)).trans HS4.out)
      have HO5 := Lib.hid ((hB5.block (w.heap.size + 1) (by omega)).trans HO4.out)
      have HB5 := Lib.hid (HB4.out.trans (hB5.mono (by omega)))
      clear hP5 hf5 hB5 hE4
      go_wp2
      go_roundw
      case rel => exact ⟨k + 1, f5, by omega, by go_num, HP5.out, HF5.out, HS5.out, HO5.out, HB5.out⟩
      case measure => simp [intOf]; omega
    · obtain rfl : k = 2 := by omega
      go_wp2_with fail
      refine (HBD.out _ _ _ HP.out).mono ?_
      rintro e9 w9 ⟨rfl, hB9⟩
      have hO9 := (hB9.block (w.heap.size + 1) (by omega)).trans HO.out
      have hBw9 := HB.out.trans (hB9.mono (by omega))
      clear c0 c1 c2 c3 hB9
      go_wp2_with (refine wpList_store_row rfl 40 _ _ rfl (w.heap.size + 1) (byteCells (Sn.pad44 (Sn.partB es i))) rfl rfl 40 Z hO9 HI.out HZS.out hone ?_)
      refine bodyPost_ret (res_row rfl _ _ (w.heap.size + 1) 40 (byteCells (Sn.pad44 (Sn.partB es i))) _ _ rfl (setRow_heap _ _ _ _ _ _ hO9) Try.underlying40 rfl HI.out) rfl ?_
      exact ⟨rfl, below_setRow hBw9 (by omega) _⟩
end Go.Proofs.Ytjnneoejnpephaa
namespace Sn
open Go.Proofs.Ytjnneoejnpephaa
/-- may the numbers be? -/
def nums (gen epoch next : Int) : Bool := Geo.inB gen 1 281474976710655 && (Geo.inB epoch 1 4294967295 && Geo.inB next 1 281474976710655)
def right (gen epoch next : Int) (es : List BE) : Bool := nums gen epoch next && es.all fun e => decide (e.q < next)
end Sn
namespace Go.Proofs.Ytjnneoejnpephaa
open Go.RowKit Go.Rv Go.Shelf
set_option linter.unusedVariables false
attribute [local go_sem] Oper.semAt_some
set_option maxRecDepth 100000 in
theorem swithin_any (n m : Int) (w : World) :
    Calls Try.prog 48 #[.int .i64 n, .int .i64 m] w fun e w' => e = .returned (.bool (Geo.inB n 1 m)) ∧ w = w' := by
  go_enter Try.func48, Try.ntmps48
  unfold Geo.inB
  by_cases h1 : 1 ≤ n
  · have t1 : decide (1 ≤ n) = true := decide_eq_true h1
    rw [t1]
    go_wp2
    go_ret
    exact ⟨by simp, rfl⟩
  · have t1 : decide (1 ≤ n) = false := decide_eq_false h1
    rw [t1]
    go_wp2
    go_ret
    exact ⟨by simp, rfl⟩
set_option maxRecDepth 100000 in
set_option maxHeartbeats 4000000 in
theorem sright_no (w : World) (gen epoch next : Int) (p : Nat) (b1 b2 b3 : Bool) (h1 : Geo.inB gen 1 281474976710655 = b1) (h2 : Geo.inB epoch 1 4294967295 = b2) (h3 : Geo.inB next 1 281474976710655 = b3) (hc : b1 = false ∨ (b1 = true ∧ b2 = false) ∨ (b1 = true ∧ b2 = true ∧ b3 = false)) :
    Calls Try.prog 18 #[.agg (SnC gen epoch next p)] w fun e w' => e = .returned (.bool false) ∧ Below w.heap.size w w' := by
  have HW1 : Hid (∀ W, Calls Try.prog 48 #[.int .i64 gen, .int .i64 281474976710655] W fun e w' => e = .returned (.bool b1) ∧ W = w') := Lib.hid (fun W => by have := swithin_any gen 281474976710655 W; rwa [h1] at this)
  have HW2 : Hid (∀ W, Calls Try.prog 48 #[.int .i64 epoch, .int .i64 4294967295] W fun e w' => e = .returned (.bool b2) ∧ W = w') := Lib.hid (fun W => by have := swithin_any epoch 4294967295 W; rwa [h2] at this)
  have HW3 : Hid (∀ W, Calls Try.prog 48 #[.int .i64 next, .int .i64 281474976710655] W fun e w' => e = .returned (.bool b3) ∧ W = w') := Lib.hid (fun W => by have := swithin_any next 281474976710655 W; rwa [h3] at this)
  have HSC := Lib.hid (fun (W : World) hh => sn_cells (w := W) (b := w.heap.size) (gen := gen) (epoch := epoch) (next := next) (p := p) (t := 28) hh)
  clear h1 h2 h3
  generalize hC : SnC gen epoch next p = C at *
  clear hC
  have hB0 : Below w.heap.size w ((w.alloc (.cells C 28)).alloc (.cells #[.bool false] 4)) := ((Below.refl _ _).alloc (Nat.le_refl _) _).alloc (by simp) _
  obtain ⟨W0, hW0⟩ : ∃ W0, (w.alloc (.cells C 28)).alloc (.cells #[.bool false] 4) = W0 := ⟨_, rfl⟩
  have hS0 : W0.heap[w.heap.size]? = some (.cells C 28 (0, 0)) := by rw [← hW0]; exact heap_alloc2_old w _ _
  have hO0 : W0.heap[w.heap.size + 1]? = some (.cells #[.bool false] 4 (0, 0)) := by rw [← hW0]; exact heap_alloc2_new w _ _
  rw [hW0] at hB0
  have HW0 := Lib.hid hW0
  have HB0 := Lib.hid hB0
  have HO0 := Lib.hid hO0
  obtain ⟨c0, c1, c2, c3⟩ := HSC.out _ hS0
  have hc1 := cell_of_one hO0
  have hf1 := free_of_one hO0
  clear hW0 hB0 hO0 hS0
  go_enter Try.func18, Try.ntmps18
  go_upto_region 1 with (fail)
  rw [HW0.out]
  have hfin : ∀ W', W' = W0.setCell ⟨w.heap.size + 1, 0, none⟩ (.bool false) → W'.cell? ⟨w.heap.size + 1, 0, none⟩ = some (.bool false) ∧ Below w.heap.size w W' := by
    rintro W' rfl
    have h2 : Only [w.heap.size + 1] W0 (W0.setCell ⟨w.heap.size + 1, 0, none⟩ (.bool false)) := (Only.refl _ _).setCell (.inl (by simp)) _
    exact ⟨cell_of_one (one_setCell HO0.out), HB0.out.trans (h2.below (by simp) HB0.out.size)⟩
  have HFIN := Lib.hid hfin
  clear hfin
  rcases hc with rfl | ⟨rfl, rfl⟩ | ⟨rfl, rfl, rfl⟩
  · go_wp2_with fail
    refine (HW1.out _).mono ?_
    rintro e1 w1 ⟨rfl, rfl⟩
    go_wp2
    obtain ⟨hc', hB'⟩ := HFIN.out _ rfl
    refine bodyPost_ret (v := .bool false) (by simp [results, Try.results18, go_sem, hc']) rfl ?_
    exact ⟨rfl, hB'⟩
  · go_wp2_with fail
    refine (HW1.out _).mono ?_
    rintro e1 w1 ⟨rfl, rfl⟩
    go_wp2_with fail
    refine (HW2.out _).mono ?_
    rintro e2 w2 ⟨rfl, rfl⟩
    go_wp2
    obtain ⟨hc', hB'⟩ := HFIN.out _ rfl
    refine bodyPost_ret (v := .bool false) (by simp [results, Try.results18, go_sem, hc']) rfl ?_
    exact ⟨rfl, hB'⟩
  · go_wp2_with fail
    refine (HW1.out _).mono ?_
    rintro e1 w1 ⟨rfl, rfl⟩
    go_wp2_with fail
    refine (HW2.out _).mono ?_
    rintro e2 w2 ⟨rfl, rfl⟩
    go_wp2_with fail
    refine (HW3.out _).mono ?_
    rintro e3 w3 ⟨rfl, rfl⟩
    go_wp2
    obtain ⟨hc', hB'⟩ := HFIN.out _ rfl
    refine bodyPost_ret (v := .bool false) (by simp [results, Try.results18, go_sem, hc']) rfl ?_
    exact ⟨rfl, hB'⟩
theorem pre_all {next : Int} {pre : List (BE × Nat)} {x : BE × Nat} (h : ∀ y ∈ pre, y.1.q < next) (hx : x.1.q < next) : ∀ y ∈ pre ++ [x], y.1.q < next := by
  intro y hy
  rcases List.mem_append.1 hy with hy | hy
  · exact h y hy
  · obtain rfl : y = x := by simpa using hy
    exact hx
set_option maxRecDepth 100000 in
set_option maxHeartbeats 8000000 in
theorem sright_in (w : World) (p le ll ce cl : Nat) (g : Geo.G) (es : List BE) (lv : List Int) (h : BmIs w p le ll ce cl g es lv) (hn : es.length ≤ 100000) (gen epoch next : Int) (hnum : Sn.nums gen epoch next = true) :
    Calls Try.prog 18 #[.agg (SnC gen epoch next p)] w fun e w' => e = .returned (.bool (es.all fun e => decide (e.q < next))) ∧ Below w.heap.size w w' := by
  simp only [Sn.nums, Bool.and_eq_true] at hnum
  obtain ⟨h1, h2, h3⟩ := hnum
  have HW1 : Hid (∀ W, Calls Try.prog 48 #[.int .i64 gen, .int .i64 281474976710655] W fun e w' => e = .returned (.bool true) ∧ W = w') := Lib.hid (fun W => by have := swithin_any gen 281474976710655 W; rwa [h1] at this)
  have HW2 : Hid (∀ W, Calls Try.prog 48 #[.int .i64 epoch, .int .i64 4294967295] W fun e w' => e = .returned (.bool true) ∧ W = w') := Lib.hid (fun W => by have := swithin_any epoch 4294967295 W; rwa [h2] at this)
  have HW3 : Hid (∀ W, Calls Try.prog 48 #[.int .i64 next, .int .i64 281474976710655] W fun e w' => e = .returned (.bool true) ∧ W = w') := Lib.hid (fun W => by have := swithin_any next 281474976710655 W; rwa [h3] at this)
  have HBM := Lib.hid h
  have HIE := Lib.hid (fun e => esize e)
  have HON := Lib.hid (fun e => BEC_one e)
  have hz := (zero_of_info Try.infoEnt).1
  have HSZ : Hid (∀ e : BE, (BEC BE.zero).size = (BEC e).size) := Lib.hid (fun e => by rw [BEC_size, BEC_size])
  have HSC := Lib.hid (fun (W : World) hh => sn_cells (w := W) (b := w.heap.size) (gen := gen) (epoch := epoch) (next := next) (p := p) (t := 28) hh)
  clear h1 h2 h3 h
  obtain ⟨C, hC⟩ : ∃ C, SnC gen epoch next p = C := ⟨_, rfl⟩
  rw [hC] at HSC ⊢
  clear hC
  have hB0 : Below w.heap.size w ((w.alloc (.cells C 28)).alloc (.cells #[.bool false] 4)) := ((Below.refl _ _).alloc (Nat.le_refl _) _).alloc (by simp) _
  obtain ⟨W0, hW0⟩ : ∃ W0, (w.alloc (.cells C 28)).alloc (.cells #[.bool false] 4) = W0 := ⟨_, rfl⟩
  have hS0 : W0.heap[w.heap.size]? = some (.cells C 28 (0, 0)) := by rw [← hW0]; exact heap_alloc2_old w _ _
  have hO0 : W0.heap[w.heap.size + 1]? = some (.cells #[.bool false] 4 (0, 0)) := by rw [← hW0]; exact heap_alloc2_new w _ _
  have z0 : w.heap.size + 1 < W0.heap.size := (Array.getElem?_eq_some_iff.1 hO0).1
  rw [hW0] at hB0
  have HW0 := Lib.hid hW0
  obtain ⟨c0, c1, c2, c3⟩ := HSC.out _ hS0
  have hm0 := HBM.out.below hB0
  have HAL := Lib.hid (ball_any W0 p _ _ _ hm0.cells.1)
  obtain ⟨W1, hW1⟩ : ∃ W1, W0.alloc (.cells #[.slice (some ⟨le, 0, none⟩) es.length ce] 108) = W1 := ⟨_, rfl⟩
  have hb1 : Below W0.heap.size W0 W1 := by rw [← hW1]; exact (Below.refl _ _).alloc (Nat.le_refl _) _
  have hsl : W1.heap[W0.heap.size]? = some (.cells #[.slice (some ⟨le, 0, none⟩) es.length ce] 108 (0, 0)) := by rw [← hW1]; exact heap_alloc_new W0 _
  have hB1 : Below w.heap.size w W1 := hB0.trans (hb1.mono hB0.size)
  have k0 := (hb1.block w.heap.size (by omega)).trans hS0
  have k1 := (hb1.block (w.heap.size + 1) z0).trans hO0
  have hm1 := HBM.out.below hB1
  have hlt := hm1.lt
  have hlw := HBM.out.lt
  have HS := Lib.hid (eall1_stops 7 (by omega) W0.heap.size le (some ⟨le, 0, none⟩) ce es W1 (cell_of_one hsl) hm1.rows (fun x e => by cases e; rfl) hlt.2.1 hn)
  have z1 : W0.heap.size < W1.heap.size := (Array.getElem?_eq_some_iff.1 hsl).1
  have HW1' := Lib.hid hW1
  have HB1 := Lib.hid hB1
  have HK0 := Lib.hid k0
  have HK1 := Lib.hid k1
  clear hW0 hW1 hB0 hS0 hO0 hm0 hb1 hsl hm1 hlt hB1
  refine calls_of_marks Try.func18 rfl ?_
  simp only [Try.ntmps18, List.size_toArray, List.length_cons, List.length_nil, Nat.reduceAdd, Nat.reduceSub, Array.replicate_succ, Array.replicate_zero, List.push_toArray, List.append_toArray, List.nil_append, List.cons_append]
  go_upto_region 1 with (fail)
  rw [HW0.out]
  go_wp2_with fail
  refine (HW1.out _).mono ?_
  rintro e1 w1 ⟨rfl, rfl⟩
  go_wp2_with fail
  refine (HW2.out _).mono ?_
  rintro e2 w2 ⟨rfl, rfl⟩
  go_wp2_with fail
  refine (HW3.out _).mono ?_
  rintro e3 w3 ⟨rfl, rfl⟩
  go_wp2_with fail
  refine HAL.out.mono ?_
  rintro e4 w4 ⟨rfl, rfl⟩
  rw [HW1'.out]
  clear c0 c1 c2 c3
  go_wp2
  refine (wpIn_wide (n := 8)).1 (wpIn_rangeT2 (encs := ieV) rfl (by omega) (gf := 92) (lb := #[.pointer (some ⟨W0.heap.size, 0, none⟩)]) rfl trivial (enters_of Try.func92 (by kernel_rfl) rfl)
    HS.out (Below.refl _ _) (fun _ => rfl)
    [w.heap.size + 1] (by simp; omega) (by simp)
    (fun pre W => (∀ y ∈ pre, y.1.q < next) ∧ W.heap[w.heap.size]? = some (.cells C 28 (0, 0)) ∧ W.heap[w.heap.size + 1]? = some (.cells #[.bool false] 4 (0, 0)) ∧ Only [w.heap.size + 1] W1 W)
    (fun cx pre W => (cx = Code.ret ∧ ∃ e ∈ es, ¬ e.q < next) ∧ W.heap[w.heap.size + 1]? = some (.cells #[.bool false] 4 (0, 0)) ∧ Only [w.heap.size + 1] W1 W)
    (AbT.and (AbT.pure _ _ (fun (pre : List (BE × Nat)) => ∀ y ∈ pre, y.1.q < next)) (AbT.and (AbT.row (fun _ => C) (by simp)) (AbT.and (AbT.row (fun _ => #[.bool false]) (by simp)) (AbT.only (Nat.le_refl _) (by simp)))))
    (fun cx => AbT.and (AbT.pure _ _ (fun (pre : List (BE × Nat)) => cx = Code.ret ∧ ∃ e ∈ es, ¬ e.q < next)) (AbT.and (AbT.row (fun _ => #[.bool false]) (by simp)) (AbT.only (Nat.le_refl _) (by simp)))) ⟨by simp, HK0.out, HK1.out, Only.refl _ _⟩
    ?fr (fun x Be W' => W'.heap[Be]? = some (.cells (BEC x.1) 46 (0, 0))) (fun x Be => AbT.row (fun _ => BEC x.1) (by simp)) ?assign ?body ?done ?stop)
  case assign =>
    intro rr pre x W2 K _ hI hK
    have HK2 := Lib.hid hK
    clear hK
    unfold ieV
    gi_wp2_with (refine wpListIn_store_row (by rfl) 46 _ _ rfl W2.heap.size (BEC x.1) rfl rfl 46 (BEC BE.zero) (heap_alloc_new W2 _) (HIE.out _) (HSZ.out _) (HON.out _) ?_; rw [World.setRow_alloc_new])
    obtain ⟨Be, hBe⟩ : ∃ Be, W2.heap.size = Be := ⟨_, rfl⟩
    have hn := heap_alloc_new W2 (.cells (BEC x.1) 46)
    rw [hBe] at hn ⊢
    exact HK2.out Be _ ((Only.refl _ _).alloc _) hn
  case body =>
    rintro rr pre x Be W2 _ hr ⟨ha, hS, hO, hO2⟩ hE hlen hsp
    obtain ⟨e1, e2, e3, e4⟩ := zip_next hsp
    have hmem := List.mem_of_getElem? e2
    have cq : W2.cell? ⟨Be, 4, none⟩ = some (.int .i64 x.1.q) := (cell_of_row _ _ _ _ _ _ hE).trans rfl
    obtain ⟨s0, s1, s2, s3⟩ := HSC.out _ hS
    have hc := cell_of_one hO
    have hf := free_of_one hO
    have HA := Lib.hid ha
    have HS2 := Lib.hid hS
    have HO := Lib.hid hO
    have HO2 := Lib.hid hO2
    have HME := Lib.hid hmem
    clear ha hS hO hO2 hE hlen hsp e1 e2 e3 e4 hmem
    by_cases hq : x.1.q < next
    · have t1 : decide (next ≤ x.1.q) = false := decide_eq_false (by omega)
      have HA2 := Lib.hid (pre_all HA.out hq)
      clear hq
      gi_wp2
      exact ⟨Only.refl _ _, fun a b h => HA2.out (a, b) h, HS2.out, HO.out, HO2.out⟩
    · have t1 : decide (next ≤ x.1.q) = true := decide_eq_true (by omega)
      have HQ := Lib.hid hq
      clear hq
      gi_wp2
      exact ⟨(Only.refl _ _).setCell (.inl (by simp)) _, ⟨rfl, _, HME.out, HQ.out⟩, one_setCell HO.out, HO2.out.setCell (.inl (by simp)) _⟩
  case done =>
    rintro D ys W2 hD rfl ⟨ha, hS, hO, hO2⟩ hKD
    have hall : (es.all fun e => decide (e.q < next)) = true := List.all_eq_true.2 (fun e he => by
      obtain ⟨k, hk, rfl⟩ := List.getElem_of_mem he
      exact decide_eq_true (ha (es[k], k) (List.mem_zipIdx_iff_getElem?.2 (List.getElem?_eq_getElem hk))))
    have hc := cell_of_one hO
    have hf := free_of_one hO
    have HALL := Lib.hid hall
    have HO := Lib.hid hO
    have HB2 : Hid (Below w.heap.size w W2) := Lib.hid (HB1.out.trans (hO2.below (B := w.heap.size) (by simp) HB1.out.size))
    have HKD := Lib.hid hKD
    have hDz : W0.heap.size < D := by omega
    clear ha hS hO hO2 hKD hall
    go_wp2
    refine leave_marks (v := .bool true) [D] _ (by simp) ?_ ?_
    · intro E hE
      obtain rfl : E = D := by simpa using hE
      exact ((Only.refl [w.heap.size + 1] _).setCell (.inl (by simp)) _).get HKD.out (by simp; omega)
    · intro W' hO'
      have hr' := hO'.get (one_setCell HO.out) (by simp; omega)
      have hc' := cell_of_one hr'
      have h2 : Only [w.heap.size + 1] W2 (W2.setCell ⟨w.heap.size + 1, 0, none⟩ (.bool true)) := (Only.refl _ _).setCell (.inl (by simp)) _
      have h3 := HB2.out.trans (h2.below (B := w.heap.size) (by simp) HB2.out.size)
      exact ⟨by simp [results, Try.results18, go_sem, hc'], by rw [HALL.out], h3.trans (hO'.below (by simp; omega) h3.size)⟩
  case stop =>
    rintro D cx pre W2 hD hsp ⟨⟨rfl, hex⟩, hO, hO2⟩ hKD
    refine wpIn_wide.2 ?_
    obtain ⟨e, he, hq⟩ := hex
    have hall : (es.all fun e => decide (e.q < next)) = false := by
      rw [List.all_eq_false]
      exact ⟨e, he, by simpa using hq⟩
    have HALL := Lib.hid hall
    have HO := Lib.hid hO
    have HB2 : Hid (Below w.heap.size w W2) := Lib.hid (HB1.out.trans (hO2.below (B := w.heap.size) (by simp) HB1.out.size))
    have HKD := Lib.hid hKD
    have hDz : W0.heap.size < D := by omega
    clear hO hO2 hKD hall he hq
    go_wp2
    refine leave_marks (v := .bool false) [D] _ (by simp) (by simpa using HKD.out) ?_
    intro W' hO'
    have hr' := hO'.get HO.out (by simp; omega)
    have hc' := cell_of_one hr'
    exact ⟨by simp [results, Try.results18, go_sem, hc'], by rw [HALL.out], HB2.out.trans (hO'.below (by simp; omega) HB2.out.size)⟩
theorem sright_any (w : World) (p le ll ce cl : Nat) (g : Geo.G) (es : List BE) (lv : List Int) (h : BmIs w p le ll ce cl g es lv) (hn : es.length ≤ 100000) (gen epoch next : Int) :
    Calls Try.prog 18 #[.agg (SnC gen epoch next p)] w fun e w' => e = .returned (.bool (Sn.right gen epoch next es)) ∧ Below w.heap.size w w' := by
  unfold Sn.right
  cases hnum : Sn.nums gen epoch next
  · simp only [Bool.false_and]
    refine sright_no w gen epoch next p _ _ _ rfl rfl rfl ?_
    unfold Sn.nums at hnum
    cases h1 : Geo.inB gen 1 281474976710655
    · exact .inl rfl
    · cases h2 : Geo.inB epoch 1 4294967295
      · exact .inr (.inl ⟨rfl, rfl⟩)
      · rw [h1, h2] at hnum
        exact .inr (.inr ⟨rfl, rfl, by simpa using hnum⟩)
  · simp only [Bool.true_and]
    exact sright_in w p le ll ce cl g es lv h hn gen epoch next hnum
end Go.Proofs.Ytjnneoejnpephaa
namespace Sn
open Go.Proofs.Ytjnneoejnpephaa Frm
/-- the first frame -/
def headF (gen epoch next : Int) (g : Geo.G) (zone : Int) : Fr := ⟨4, zone, 0, epoch, gen, pad44 (headB next g)⟩
/-- another frame -/
def partF (gen epoch : Int) (es : List BE) (zone : Int) (i : Nat) : Fr := ⟨5, zone, i, epoch, gen, pad44 (partB es i)⟩
/-- the first n frames (n >= 1) -/
def frames (gen epoch next : Int) (g : Geo.G) (es : List BE) (zone : Int) (n : Nat) : List Fr := headF gen epoch next g zone :: (List.range (n - 1)).map fun i => partF gen epoch es zone (i + 1)
theorem frames_length (gen epoch next : Int) (g : Geo.G) (es : List BE) (zone : Int) {n : Nat} (h : 1 ≤ n) : (frames gen epoch next g es zone n).length = n := by simp [frames]; omega
theorem frames_succ (gen epoch next : Int) (g : Geo.G) (es : List BE) (zone : Int) {n : Nat} (h : 1 ≤ n) : frames gen epoch next g es zone (n + 1) = frames gen epoch next g es zone n ++ [partF gen epoch es zone n] := by
  obtain ⟨m, rfl⟩ : ∃ m, n = m + 1 := ⟨n - 1, by omega⟩
  simp [frames, List.range_succ]
theorem partB_length (es : List BE) (i : Nat) : (partB es i).length = 33 := by unfold partB; rw [partK_length]
end Sn
namespace Sn
open Go.Proofs.Ytjnneoejnpephaa Frm
/-- a snapshot -/
structure S where
  gen : Int
  epoch : Int
  next : Int
  g : Geo.G
  es : List BE
def nParts (g : Geo.G) : Nat := (Geo.parts g).toNat
def n1 (b : List Nat) (o k : Nat) : Int := (Cod.rd ((b.drop o).take k) : Nat)
def headN (b : List Nat) : Int := n1 b 0 6
def headG (b : List Nat) : Geo.G := ⟨n1 b 6 1, n1 b 7 1, n1 b 8 1, n1 b 9 2, n1 b 11 1, n1 b 12 1⟩
/-- the entry that stands at a place -/
def ent (b : List Nat) (o : Nat) : BE := ⟨n1 b o 1, n1 b (o + 1) 2, n1 b (o + 3) 2, n1 b (o + 5) 1, n1 b (o + 6) 6, n1 b (o + 12) 4⟩
def setAt (g : Geo.G) (es : List BE) (b : Nat) (e : BE) : Option (List BE) := if es.length ≤ b then some es else if beRight g e = true then some (es.set b e) else none
def fillE (g : Geo.G) (es : List BE) (i : Nat) (body : List Nat) : Option (List BE) := (setAt g es (2 * i) (ent body 1)).bind fun es' => setAt g es' (2 * i + 1) (ent body 17)
def fillAll (g : Geo.G) : List Fr → Nat → List BE → Option (List BE)
  | [], _, es => some es
  | f :: fs, i, es => if f.off = (i : Int) + 1 then (fillE g es i f.body).bind (fillAll g fs (i + 1)) else none
def S.frames (s : S) (zone : Int) : List Fr := Sn.frames s.gen s.epoch s.next s.g s.es zone (nParts s.g)
def S.right (s : S) : Bool := Sn.right s.gen s.epoch s.next s.es
def S.ok (s : S) (zone : Int) : Bool := s.right && holdsG s.g zone 0
instance : DecidableEq Fr := fun a b => decidable_of_iff (a.kind = b.kind ∧ a.zone = b.zone ∧ a.off = b.off ∧ a.epoch = b.epoch ∧ a.seq = b.seq ∧ a.body = b.body) (by
  obtain ⟨a0, a1, a2, a3, a4, a5⟩ := a
  obtain ⟨b0, b1, b2, b3, b4, b5⟩ := b
  simp)
/-- what the first frame says, and what came of filling -/
def mk (f : Fr) (es : List BE) : S := ⟨f.seq, f.epoch, headN f.body, headG f.body, es⟩
/-- the snapshot of frames -/
def readS : List Fr → Option S
  | [] => none
  | f :: r => if Geo.right (headG f.body) = true ∧ nParts (headG f.body) ≤ r.length + 1 then
      (fillAll (headG f.body) (r.take (nParts (headG f.body) - 1)) 0 (List.replicate (headG f.body).b.toNat BE.zero)).bind fun es =>
        if (mk f es).ok f.zone = true ∧ (mk f es).frames f.zone = (f :: r).take (nParts (headG f.body)) then some (mk f es) else none
    else none
theorem readS_cons (f : Fr) (r : List Fr) : readS (f :: r) = if Geo.right (headG f.body) = true ∧ nParts (headG f.body) ≤ r.length + 1 then
      (fillAll (headG f.body) (r.take (nParts (headG f.body) - 1)) 0 (List.replicate (headG f.body).b.toNat BE.zero)).bind fun es =>
        if (mk f es).ok f.zone = true ∧ (mk f es).frames f.zone = (f :: r).take (nParts (headG f.body)) then some (mk f es) else none
    else none := rfl
theorem nParts_eq {g : Geo.G} (h : Geo.Small g) : nParts g = 1 + (g.b.toNat + 1) / 2 := by
  obtain ⟨-, -, -, ⟨b1, b2⟩, -⟩ := h
  unfold nParts Geo.parts
  omega
theorem nParts_two {g : Geo.G} (h : Geo.Small g) : 2 ≤ nParts g ∧ nParts g ≤ 129 := by
  have h1 := nParts_eq h
  obtain ⟨-, -, -, ⟨b1, b2⟩, -⟩ := h
  omega
theorem nParts_cast {g : Geo.G} (h : Geo.Small g) : (nParts g : Int) = Geo.parts g := by
  obtain ⟨-, -, -, ⟨b1, b2⟩, -⟩ := h
  unfold nParts Geo.parts
  omega
theorem nParts_64 {g : Geo.G} (h : Geo.right g = true) : nParts g ≤ 64 := by
  obtain ⟨h1, h2, -⟩ := (Geo.right_iff g).1 h
  have h3 := nParts_cast h1
  obtain ⟨-, -, ⟨s1, s2⟩, -⟩ := h1
  omega
theorem S.frames_length (s : S) (h : Geo.Small s.g) (zone : Int) : (s.frames zone).length = nParts s.g := Sn.frames_length _ _ _ _ _ _ (by have := nParts_two h; omega)
theorem n1_at (p q r : List Nat) (o k v : Nat) (ho : p.length = o) (hk : q = Cod.leN k v) (hv : v < 256 ^ k) : n1 (p ++ q ++ r) o k = (v : Int) := by
  unfold n1
  subst ho hk
  rw [List.append_assoc, List.drop_left, List.take_left' (Cod.leN_length k v), Cod.rd_leN _ _ hv]
theorem ent_entB {e : BE} (h : Room e) (p r : List Nat) (o : Nat) (ho : p.length = o) : ent (p ++ entB e ++ r) o = e := by
  obtain ⟨st, z, m, oo, q, s⟩ := e
  obtain ⟨⟨a0, b0⟩, ⟨a1, b1⟩, ⟨a2, b2⟩, ⟨a3, b3⟩, ⟨a4, b4⟩, ⟨a5, b5⟩⟩ := h
  simp only at a0 b0 a1 b1 a2 b2 a3 b3 a4 b4 a5 b5
  unfold ent entB
  simp only
  have e0 := n1_at p (Cod.leN 1 st.toNat) (Cod.leN 2 z.toNat ++ (Cod.leN 2 m.toNat ++ (Cod.leN 1 oo.toNat ++ (Cod.leN 6 q.toNat ++ (Cod.leN 4 s.toNat ++ r))))) o 1 _ ho rfl (by omega)
  have e1 := n1_at (p ++ Cod.leN 1 st.toNat) (Cod.leN 2 z.toNat) (Cod.leN 2 m.toNat ++ (Cod.leN 1 oo.toNat ++ (Cod.leN 6 q.toNat ++ (Cod.leN 4 s.toNat ++ r)))) (o + 1) 2 _ (by simp [Cod.leN_length, ho]) rfl (by omega)
  have e2 := n1_at (p ++ (Cod.leN 1 st.toNat ++ Cod.leN 2 z.toNat)) (Cod.leN 2 m.toNat) (Cod.leN 1 oo.toNat ++ (Cod.leN 6 q.toNat ++ (Cod.leN 4 s.toNat ++ r))) (o + 3) 2 _ (by simp [Cod.leN_length, ho]) rfl (by omega)
  have e3 := n1_at (p ++ (Cod.leN 1 st.toNat ++ (Cod.leN 2 z.toNat ++ Cod.leN 2 m.toNat))) (Cod.leN 1 oo.toNat) (Cod.leN 6 q.toNat ++ (Cod.leN 4 s.toNat ++ r)) (o + 5) 1 _ (by simp [Cod.leN_length, ho]) rfl (by omega)
  have e4 := n1_at (p ++ (Cod.leN 1 st.toNat ++ (Cod.leN 2 z.toNat ++ (Cod.leN 2 m.toNat ++ Cod.leN 1 oo.toNat)))) (Cod.leN 6 q.toNat) (Cod.leN 4 s.toNat ++ r) (o + 6) 6 _ (by simp [Cod.leN_length, ho]) rfl (by omega)
  have e5 := n1_at (p ++ (Cod.leN 1 st.toNat ++ (Cod.leN 2 z.toNat ++ (Cod.leN 2 m.toNat ++ (Cod.leN 1 oo.toNat ++ Cod.leN 6 q.toNat))))) (Cod.leN 4 s.toNat) r (o + 12) 4 _ (by simp [Cod.leN_length, ho]) rfl (by omega)
  simp only [List.append_assoc] at e0 e1 e2 e3 e4 e5 ⊢
  rw [e0, e1, e2, e3, e4, e5]
  simp only [BE.mk.injEq]
  omega
theorem head_of {g : Geo.G} (hs : Geo.Small g) {next : Int} (h1 : 1 ≤ next) (h2 : next ≤ 281474976710655) : headN (pad44 (headB next g)) = next ∧ headG (pad44 (headB next g)) = g := by
  obtain ⟨d, z, s, b, p, o⟩ := g
  obtain ⟨⟨d1, d2⟩, ⟨z1, z2⟩, ⟨s1, s2⟩, ⟨b1, b2⟩, ⟨p1, p2⟩, o1, o2⟩ := hs
  simp only at d1 d2 z1 z2 s1 s2 b1 b2 p1 p2 o1 o2
  unfold headN headG pad44
  obtain ⟨R, hR⟩ : ∃ R, List.replicate (44 - (headB next ⟨d, z, s, b, p, o⟩).length) 0 = R := ⟨_, rfl⟩
  rw [hR]
  unfold headB
  simp only
  have e0 := n1_at [] (Cod.leN 6 next.toNat) (Cod.leN 1 d.toNat ++ (Cod.leN 1 z.toNat ++ (Cod.leN 1 s.toNat ++ (Cod.leN 2 b.toNat ++ (Cod.leN 1 p.toNat ++ (Cod.leN 1 o.toNat ++ R)))))) 0 6 _ rfl rfl (by omega)
  have e1 := n1_at (Cod.leN 6 next.toNat) (Cod.leN 1 d.toNat) (Cod.leN 1 z.toNat ++ (Cod.leN 1 s.toNat ++ (Cod.leN 2 b.toNat ++ (Cod.leN 1 p.toNat ++ (Cod.leN 1 o.toNat ++ R))))) 6 1 _ (by simp [Cod.leN_length]) rfl (by omega)
  have e2 := n1_at (Cod.leN 6 next.toNat ++ Cod.leN 1 d.toNat) (Cod.leN 1 z.toNat) (Cod.leN 1 s.toNat ++ (Cod.leN 2 b.toNat ++ (Cod.leN 1 p.toNat ++ (Cod.leN 1 o.toNat ++ R)))) 7 1 _ (by simp [Cod.leN_length]) rfl (by omega)
  have e3 := n1_at (Cod.leN 6 next.toNat ++ (Cod.leN 1 d.toNat ++ Cod.leN 1 z.toNat)) (Cod.leN 1 s.toNat) (Cod.leN 2 b.toNat ++ (Cod.leN 1 p.toNat ++ (Cod.leN 1 o.toNat ++ R))) 8 1 _ (by simp [Cod.leN_length]) rfl (by omega)
  have e4 := n1_at (Cod.leN 6 next.toNat ++ (Cod.leN 1 d.toNat ++ (Cod.leN 1 z.toNat ++ Cod.leN 1 s.toNat))) (Cod.leN 2 b.toNat) (Cod.leN 1 p.toNat ++ (Cod.leN 1 o.toNat ++ R)) 9 2 _ (by simp [Cod.leN_length]) rfl (by omega)
  have e5 := n1_at (Cod.leN 6 next.toNat ++ (Cod.leN 1 d.toNat ++ (Cod.leN 1 z.toNat ++ (Cod.leN 1 s.toNat ++ Cod.leN 2 b.toNat)))) (Cod.leN 1 p.toNat) (Cod.leN 1 o.toNat ++ R) 11 1 _ (by simp [Cod.leN_length]) rfl (by omega)
  have e6 := n1_at (Cod.leN 6 next.toNat ++ (Cod.leN 1 d.toNat ++ (Cod.leN 1 z.toNat ++ (Cod.leN 1 s.toNat ++ (Cod.leN 2 b.toNat ++ Cod.leN 1 p.toNat))))) (Cod.leN 1 o.toNat) R 12 1 _ (by simp [Cod.leN_length]) rfl (by omega)
  simp only [List.append_assoc, List.nil_append] at e0 e1 e2 e3 e4 e5 e6 ⊢
  rw [e0, e1, e2, e3, e4, e5, e6]
  simp only [Geo.G.mk.injEq]
  omega
/-- the first k entries -/
def pref (es : List BE) (k : Nat) : List BE := es.take k ++ List.replicate (es.length - k) BE.zero
theorem pref_length (es : List BE) (k : Nat) : (pref es k).length = es.length := by simp [pref]; omega
theorem pref_all (es : List BE) {k : Nat} (h : es.length ≤ k) : pref es k = es := by
  unfold pref
  rw [List.take_of_length_le h, show es.length - k = 0 by omega]
  simp
theorem pref_zero (es : List BE) : pref es 0 = List.replicate es.length BE.zero := by simp [pref]
theorem pref_set (es : List BE) {k : Nat} (h : k < es.length) : (pref es k).set k es[k] = pref es (k + 1) := by
  unfold pref
  rw [List.set_append_right _ _ (by simp; omega), List.length_take, Nat.min_eq_left (by omega), Nat.sub_self, show es.length - k = (es.length - (k + 1)) + 1 by omega, List.replicate_succ, List.set_cons_zero, List.take_succ_eq_append_getElem h, List.append_assoc]
  rfl
theorem setAt_pref {g : Geo.G} {es : List BE} (h : ∀ e ∈ es, beRight g e = true) (k : Nat) : setAt g (pref es k) k (entAt es k) = some (pref es (k + 1)) := by
  unfold setAt
  rw [pref_length]
  by_cases hk : es.length ≤ k
  · rw [if_pos hk, pref_all es hk, pref_all es (by omega)]
  · have hk' : k < es.length := by omega
    have he : entAt es k = es[k] := by unfold entAt; rw [List.getElem?_eq_getElem hk']; rfl
    rw [if_neg hk, he, if_pos (h _ (List.getElem_mem _)), pref_set es hk']
theorem partB_eq (es : List BE) (i : Nat) : partB es (i + 1) = Cod.leN 1 (i + 1) ++ entB (entAt es (2 * i)) ++ entB (entAt es (2 * i + 1)) := by
  simp [partB, partK, List.range_succ]
theorem fillE_pref {g : Geo.G} {es : List BE} (hs : Geo.Small g) (h : ∀ e ∈ es, beRight g e = true) (i : Nat) : fillE g (pref es (2 * i)) i (pad44 (partB es (i + 1))) = some (pref es (2 * (i + 1))) := by
  have hr := fun j => entAt_room (es := es) (fun e he => room_of_right hs (h e he)) j
  have e0 : ent (pad44 (partB es (i + 1))) 1 = entAt es (2 * i) := by
    unfold pad44
    rw [partB_eq, List.append_assoc _ (entB (entAt es (2 * i + 1)))]
    exact ent_entB (hr _) _ _ 1 (Cod.leN_length _ _)
  have e1 : ent (pad44 (partB es (i + 1))) 17 = entAt es (2 * i + 1) := by
    unfold pad44
    rw [partB_eq]
    exact ent_entB (hr _) _ _ 17 (by rw [List.length_append, Cod.leN_length, entB_length])
  unfold fillE
  rw [e0, e1, setAt_pref h]
  exact setAt_pref h _
theorem fillAll_parts {g : Geo.G} {es : List BE} (hs : Geo.Small g) (h : ∀ e ∈ es, beRight g e = true) (gen epoch zone : Int) : ∀ (m i : Nat), es.length ≤ 2 * (i + m) → fillAll g ((List.range m).map fun j => partF gen epoch es zone (i + j + 1)) i (pref es (2 * i)) = some es
  | 0, i, hl => by
    show some (pref es (2 * i)) = some es
    rw [pref_all es (by omega)]
  | m + 1, i, hl => by
    have ih := fillAll_parts hs h gen epoch zone m (i + 1) (by omega)
    rw [List.range_succ_eq_map, List.map_cons, List.map_map]
    have he : (List.range m).map ((fun j => partF gen epoch es zone (i + j + 1)) ∘ Nat.succ) = (List.range m).map fun j => partF gen epoch es zone (i + 1 + j + 1) := by
      apply List.map_congr_left
      intro j _
      show partF gen epoch es zone (i + (j + 1) + 1) = _
      rw [show i + (j + 1) + 1 = i + 1 + j + 1 by omega]
    rw [he]
    unfold fillAll
    rw [if_pos (by show ((i + 0 + 1 : Nat) : Int) = (i : Int) + 1; omega)]
    have h2 : fillE g (pref es (2 * i)) i (partF gen epoch es zone (i + 0 + 1)).body = some (pref es (2 * (i + 1))) := fillE_pref hs h i
    rw [h2]
    exact ih
theorem nums_iff {gen epoch next : Int} : nums gen epoch next = true ↔ (1 ≤ gen ∧ gen ≤ 281474976710655) ∧ (1 ≤ epoch ∧ epoch ≤ 4294967295) ∧ (1 ≤ next ∧ next ≤ 281474976710655) := by simp [nums, Geo.inB_iff]
theorem right_iff {gen epoch next : Int} {es : List BE} : right gen epoch next es = true ↔ nums gen epoch next = true ∧ ∀ e ∈ es, e.q < next := by simp [right]
/-- a snapshot is read from its frames, and from them with more behind -/
theorem read_frames {s : S} {zone : Int} (hg : Geo.right s.g = true) (hM : MapOk s.g s.es) (hk : s.ok zone = true) (r : List Fr) : readS (s.frames zone ++ r) = some s := by
  obtain ⟨gen, epoch, next, g, es⟩ := s
  have hs := ((Geo.right_iff _).1 hg).1
  have h2 := nParts_two hs
  have h3 := nParts_eq hs
  have hl : (es.length : Int) = g.b := hM.len
  have h3 : nParts g = 1 + (g.b.toNat + 1) / 2 := h3
  have h2 : 2 ≤ nParts g ∧ nParts g ≤ 129 := h2
  have hg : Geo.right g = true := hg
  have hs : Geo.Small g := hs
  have hb1 : 1 ≤ g.b := hs.2.2.2.1.1
  have hk' := hk
  simp only [S.ok, S.right, Bool.and_eq_true] at hk'
  obtain ⟨-, -, n1, n2⟩ := nums_iff.1 (right_iff.1 hk'.1).1
  obtain ⟨e1, e2⟩ := head_of hs n1 n2
  have hfr : S.frames ⟨gen, epoch, next, g, es⟩ zone ++ r = headF gen epoch next g zone :: ((List.range (nParts g - 1)).map (fun i => partF gen epoch es zone (i + 1)) ++ r) := by
    simp [S.frames, Sn.frames]
  have hG : headG (headF gen epoch next g zone).body = g := e2
  have hN : headN (headF gen epoch next g zone).body = next := e1
  have hlen := S.frames_length ⟨gen, epoch, next, g, es⟩ hs zone
  rw [hfr]
  unfold readS
  simp only [hG]
  rw [if_pos ⟨hg, by simp; omega⟩]
  have hfill := fillAll_parts (g := g) (es := es) hs (fun e he => (hM.ok e he).1) gen epoch zone (nParts g - 1) 0 (by omega)
  rw [Nat.mul_zero, pref_zero, show es.length = g.b.toNat by omega] at hfill
  have htk : ((List.range (nParts g - 1)).map (fun i => partF gen epoch es zone (i + 1)) ++ r).take (nParts g - 1) = (List.range (nParts g - 1)).map fun j => partF gen epoch es zone (0 + j + 1) := by
    rw [List.take_left' (by simp)]
    simp
  rw [htk, hfill]
  have hmk : mk (headF gen epoch next g zone) es = ⟨gen, epoch, next, g, es⟩ := by unfold mk; rw [hG, hN]; rfl
  simp only [Option.bind_some]
  rw [hmk]
  have hz : (headF gen epoch next g zone).zone = zone := rfl
  rw [hz, if_pos ⟨hk, by rw [← hfr, List.take_left' hlen]⟩]
theorem n1_lt {b : List Nat} (h : ∀ c ∈ b, c < 256) (o k : Nat) (hk : k ≤ 6) : 0 ≤ n1 b o k ∧ n1 b o k < 281474976710656 := by
  unfold n1
  have h1 := Cod.rd_lt ((b.drop o).take k) (fun c hc => h c (List.mem_of_mem_drop (List.mem_of_mem_take hc)))
  have h2 : ((b.drop o).take k).length ≤ k := List.length_take_le _ _
  have h3 : 256 ^ ((b.drop o).take k).length ≤ 256 ^ 6 := Nat.pow_le_pow_right (by omega) (by omega)
  have h4 : (256 : Nat) ^ 6 = 281474976710656 := by decide
  omega
theorem ent_64 {b : List Nat} (h : ∀ c ∈ b, c < 256) (o : Nat) : E64 (ent b o) := by
  have w : ∀ x : Int, 0 ≤ x ∧ x < 281474976710656 → (Go.Lit.int .i64 x).wf = true := by
    intro x hx
    simp [Go.Lit.wf, Go.IntKind.min, Go.IntKind.max, Go.IntKind.signed, Go.IntKind.bits]
    omega
  exact ⟨w _ (n1_lt h _ _ (by omega)), w _ (n1_lt h _ _ (by omega)), w _ (n1_lt h _ _ (by omega)), w _ (n1_lt h _ _ (by omega)), w _ (n1_lt h _ _ (by omega)), w _ (n1_lt h _ _ (by omega))⟩
theorem setAt_ok {g : Geo.G} {es es' : List BE} {k : Nat} {e : BE} (hM : MapOk g es) (he : E64 e) (h : setAt g es k e = some es') : MapOk g es' := by
  unfold setAt at h
  split at h
  · cases h; exact hM
  · split at h
    · rename_i h2
      cases h
      exact hM.set h2 he k
    · cases h
theorem fillE_ok {g : Geo.G} {es es' : List BE} {i : Nat} {b : List Nat} (hM : MapOk g es) (hb : ∀ c ∈ b, c < 256) (h : fillE g es i b = some es') : MapOk g es' := by
  unfold fillE at h
  cases h1 : setAt g es (2 * i) (ent b 1) with
  | none => rw [h1] at h; cases h
  | some e1 =>
    rw [h1] at h
    exact setAt_ok (setAt_ok hM (ent_64 hb 1) h1) (ent_64 hb 17) h
theorem fillAll_ok {g : Geo.G} : ∀ {fs : List Fr} {i : Nat} {es es' : List BE}, (∀ f ∈ fs, ∀ c ∈ f.body, c < 256) → MapOk g es → fillAll g fs i es = some es' → MapOk g es'
  | [], _, _, _, _, hM, h => by cases h; exact hM
  | f :: fs, i, es, es', hb, hM, h => by
    unfold fillAll at h
    split at h
    · cases h1 : fillE g es i f.body with
      | none => rw [h1] at h; cases h
      | some e1 =>
        rw [h1] at h
        exact fillAll_ok (fun x hx => hb x (by simp [hx])) (fillE_ok hM (hb f (by simp)) h1) h
    · cases h
/-- what is read is right, and the frames begin with its own -/
theorem read_some {l : List Fr} {s : S} (hb : ∀ f ∈ l, ∀ c ∈ f.body, c < 256) (h : readS l = some s) : ∃ f r, l = f :: r ∧ Geo.right s.g = true ∧ MapOk s.g s.es ∧ s.ok f.zone = true ∧ nParts s.g ≤ l.length ∧ s.frames f.zone = l.take (nParts s.g) := by
  cases l with
  | nil => cases h
  | cons f r =>
    refine ⟨f, r, rfl, ?_⟩
    rw [readS_cons] at h
    by_cases h1 : Geo.right (headG f.body) = true ∧ nParts (headG f.body) ≤ r.length + 1
    · rw [if_pos h1] at h
      obtain ⟨h1, h2⟩ := h1
      cases h3 : fillAll (headG f.body) (r.take (nParts (headG f.body) - 1)) 0 (List.replicate (headG f.body).b.toNat BE.zero) with
      | none => rw [h3] at h; cases h
      | some es =>
        rw [h3] at h
        simp only [Option.bind_some] at h
        by_cases h4 : (mk f es).ok f.zone = true ∧ (mk f es).frames f.zone = (f :: r).take (nParts (headG f.body))
        · rw [if_pos h4] at h
          cases h
          exact ⟨h1, fillAll_ok (fun x hx => hb x (by simp [List.mem_of_mem_take hx])) (mapOk_new _ h1) h3, h4.1, h2, h4.2⟩
        · rw [if_neg h4] at h; cases h
    · rw [if_neg h1] at h; cases h
theorem frames_inj {s t : S} {zone zone' : Int} (hg : Geo.right s.g = true) (hM : MapOk s.g s.es) (hk : s.ok zone = true) (hg' : Geo.right t.g = true) (hM' : MapOk t.g t.es) (hk' : t.ok zone' = true) (h : s.frames zone = t.frames zone') : s = t := by
  have h1 := read_frames hg hM hk []
  have h2 := read_frames hg' hM' hk' []
  rw [h, h2] at h1
  cases h1
  rfl
/-- of a beginning there is none -/
theorem read_cut {s : S} {zone : Int} (hg : Geo.right s.g = true) (hn : s.right = true) {k : Nat} (hk : k < nParts s.g) : readS ((s.frames zone).take k) = none := by
  obtain ⟨gen, epoch, next, g, es⟩ := s
  have hs := ((Geo.right_iff _).1 hg).1
  obtain ⟨-, -, n1, n2⟩ := nums_iff.1 (right_iff.1 hn).1
  obtain ⟨e1, e2⟩ := head_of hs n1 n2
  cases k with
  | zero => rfl
  | succ k =>
    have hG : headG (headF gen epoch next g zone).body = g := e2
    simp only [S.frames, Sn.frames, List.take_succ_cons]
    unfold readS
    simp only [hG]
    rw [if_neg]
    rintro ⟨-, h⟩
    simp only [List.length_take, List.length_map, List.length_range] at h
    have hk' : k + 1 < nParts g := hk
    omega
end Sn
namespace Go.Rv
open Go.RowKit
theorem Only.of_setCells (g : Nat) : ∀ (vs : List Value) (o : Nat) (w : World), Only [g] w (w.setCells g o vs)
  | [], _, w => Only.refl _ _
  | v :: vs, o, w => ((Only.refl _ _).setCell (.inl (by simp)) _).trans (Only.of_setCells g vs (o + 1) (w.setCell ⟨g, o, none⟩ v))
theorem heap_setCells_ne (g i : Nat) (h : i ≠ g) : ∀ (vs : List Value) (o : Nat) (w : World), (w.setCells g o vs).heap[i]? = w.heap[i]?
  | [], _, _ => rfl
  | v :: vs, o, w => (heap_setCells_ne g i h vs (o + 1) (w.setCell ⟨g, o, none⟩ v)).trans (Below.heap_setCell w ⟨g, o, none⟩ v i h)
/-- a row, behind a store into its middle -/
theorem heap_setCells_row (g : Nat) (t : TypeId) : ∀ (vs : List Value) (o : Nat) (cur : List Value) (w : World), w.heap[g]? = some (.cells cur.toArray t (0, 0)) → o + vs.length ≤ cur.length →
    (w.setCells g o vs).heap[g]? = some (.cells (splice cur o vs).toArray t (0, 0))
  | [], o, cur, w, h, _ => by
    show w.heap[g]? = _
    rw [h]
    simp [splice]
  | v :: vs, o, cur, w, h, hl => by
    have h1 := heap_setCell_same w g o cur.toArray t v h
    rw [List.setIfInBounds_toArray] at h1
    rw [List.length_cons] at hl
    have h2 := heap_setCells_row g t vs (o + 1) (cur.set o v) (w.setCell ⟨g, o, none⟩ v) h1 (by rw [List.length_set]; omega)
    show ((w.setCell ⟨g, o, none⟩ v).setCells g (o + 1) vs).heap[g]? = _
    rw [h2]
    congr 3
    unfold splice
    rw [List.take_set, List.drop_set_of_lt (by omega)]
    have h3 : (cur.take (o + 1)).set o v = cur.take o ++ [v] := by
      rw [List.take_succ_eq_append_getElem (by omega), List.set_append, if_neg (by rw [List.length_take]; omega), List.length_take, Nat.min_eq_left (show o ≤ cur.length by omega), Nat.sub_self]
      rfl
    rw [h3, List.length_cons, List.append_assoc, List.singleton_append, List.cons_append, show o + 1 + vs.length = o + (vs.length + 1) by omega]
end Go.Rv
namespace Go.Proofs.Ytjnneoejnpephaa
open Go.RowKit Go.Rv Frm
set_option linter.unusedVariables false
attribute [local go_sem] Oper.semAt_some
def Fact.rowOf (B : Nat) (C : Array Value) (t : TypeId) : Fact := ⟨fun u w => ∃ g, u = .pointer (some ⟨g, 0, none⟩) ∧ B ≤ g ∧ w.heap[g]? = some (.cells C t (0, 0)), fun u w w' ⟨g, e, hb, h⟩ hB => ⟨g, e, hb, (hB.block g (Array.getElem?_eq_some_iff.1 h).1).trans h⟩⟩
theorem list_fn (b : List Nat) (n : Nat) (h : b.length = n) : ∃ f : Nat → Nat, b = (List.range n).map f := by
  refine ⟨fun i => b.getD i 0, ?_⟩
  apply List.ext_getElem?
  intro i
  by_cases hi : i < n
  · rw [List.getElem?_eq_getElem (by omega), List.getElem?_map, List.getElem?_range hi]
    simp [List.getD_eq_getElem?_getD, List.getElem?_eq_getElem (show i < b.length by omega)]
  · rw [List.getElem?_eq_none (by omega), List.getElem?_eq_none (by simp; omega)]
set_option maxRecDepth 100000 in
theorem built_head (z e s : Int) (b : List Nat) (hl : b.length = 44) : Try.prog.built 42 [(0, .int .i64 4), (1, .int .i64 z), (3, .int .i64 e), (4, .int .i64 s), (5, .agg (byteCells b))] = some (FC ⟨4, z, 0, e, s, b⟩) := by
  obtain ⟨f, rfl⟩ := list_fn b 44 hl
  kernel_rfl
set_option maxRecDepth 100000 in
theorem filled_frame (k z o e s : Int) (b : List Nat) (hl : b.length = 44) (ie : Array Value) (h0 : ie = (FC Fr.zero)) : Instr.fill (fun i => some (i * 49, 49)) ((Array.range (1 * 49)).map (ie[· % 49]!)) [(0, .agg (FC ⟨k, z, o, e, s, b⟩))] = some (FC ⟨k, z, o, e, s, b⟩) := by
  subst h0
  obtain ⟨f, rfl⟩ := list_fn b 44 hl
  kernel_rfl
/-- a slice of one frame is made -/
theorem wpList_slice1 {w : World} {ops : Array Oper} {rest : List Oper} {o : Oper} {a : Act} {Q : Exit → Act → World → Prop} (hg : o.guard = none) (x : Operand) (ho : o.op = .buildSlice 35 1 #[(0, x)]) (f : Fr) (hf : f.body.length = 44) (hx : a.eval x = .agg (FC f))
    (h : wpList Try.prog ops Q rest (a.put o.dst (.slice (some ⟨w.heap.size, 0, none⟩) 1 1)) (w.alloc (.cells (FC f) 42))) : wpList Try.prog ops Q (o :: rest) a w := by
  have hi := Try.infoFrame
  cases hie : Try.prog.info? 42 with
  | none => rw [hie] at hi; cases hi
  | some ie =>
    rw [hie, Option.map_some, Option.some.injEq, Prod.mk.injEq] at hi
    obtain ⟨hz, hs⟩ := hi
    refine wpList_buildSlice hg 35 42 1 #[(0, x)] ho (FC f) ie (.agg (FC Fr.zero)) Try.underlying35 hie hz (by rw [hs]; decide) (by rw [hs]; decide) ?_ h
    rw [hs]
    obtain ⟨k, z, o, e, s, b⟩ := f
    have h1 := filled_frame k z o e s b hf _ rfl
    simp only [List.map_toArray, List.map_cons, List.map_nil, hx]
    exact h1
theorem kinF : Kin 49 FC (fun f => f.body.length = 44) := ⟨fun f h => by rw [FC_size, h], fun f _ => FC_one f⟩
set_option maxRecDepth 100000 in
set_option maxHeartbeats 4000000 in
theorem sframes_no (w : World) (p le ll ce cl : Nat) (g : Geo.G) (es : List BE) (lv : List Int) (h : BmIs w p le ll ce cl g es lv) (hn : es.length ≤ 100000) (gen epoch next zone : Int) (r : Bool) (hr : Sn.right gen epoch next es = r) (hno : r = false ∨ (r = true ∧ holdsG g zone 0 = false)) :
    Calls Try.prog 17 #[.agg (SnC gen epoch next p), .int .i64 zone] w fun e w' => e = .returned (.tuple #[.slice none 0 0, .int .i64 10]) ∧ Below w.heap.size w w' := by
  have HH := Lib.hid h
  have HRT : Hid (∀ W, BmIs W p le ll ce cl g es lv → Calls Try.prog 18 #[.agg (SnC gen epoch next p)] W fun e w' => e = .returned (.bool r) ∧ Below W.heap.size W w') := Lib.hid (fun W hW => by have := sright_any W p le ll ce cl g es lv hW hn gen epoch next; rwa [hr] at this)
  have HGE := Lib.hid (fun W hW => bgeom_any W p le ll ce cl g es lv hW)
  have HHO := Lib.hid (fun W => gholds_any g zone 0 W)
  have HSI := Lib.hid (snsize gen epoch next p)
  have HSC := Lib.hid (fun (W : World) hh => sn_cells (w := W) (b := w.heap.size) (gen := gen) (epoch := epoch) (next := next) (p := p) (t := 28) hh)
  have hS0 := heap_alloc_new w (.cells (SnC gen epoch next p) 28)
  have hB0 := (Below.refl w.heap.size w).alloc (Nat.le_refl _) (.cells (SnC gen epoch next p) 28)
  clear hr h
  generalize hC : SnC gen epoch next p = C at *
  clear hC
  obtain ⟨W0, hW0⟩ : ∃ W0, w.alloc (.cells C 28) = W0 := ⟨_, rfl⟩
  rw [hW0] at hS0 hB0
  have HW0 := Lib.hid hW0
  have HM0 := Lib.hid (HH.out.below hB0)
  have z0 : w.heap.size < W0.heap.size := (Array.getElem?_eq_some_iff.1 hS0).1
  clear hW0
  go_enter Try.func17, Try.ntmps17
  go_upto_region 1 with (fail)
  rw [HW0.out]
  go_wp2_with (refine wpList_row_on (by rfl) 28 _ rfl w.heap.size rfl 28 _ _ _ hS0 Try.underlying28 rfl HSI.out ?_)
  refine (HRT.out _ HM0.out).mono ?_
  rintro e w1 ⟨rfl, hB1⟩
  have hBw1 := hB0.trans (hB1.mono hB0.size)
  have HM1 := Lib.hid (HM0.out.below hB1)
  have hS1 := (hB1.block w.heap.size z0).trans hS0
  obtain ⟨c0, c1, c2, c3⟩ := HSC.out _ hS1
  have HB1 := Lib.hid hBw1
  clear hB0 hB1 hBw1
  rcases hno with rfl | ⟨rfl, hh⟩
  · go_wp2
    go_ret2
    exact ⟨rfl, HB1.out⟩
  · simp only [hh] at HHO
    go_wp2_with fail
    refine (HGE.out _ HM1.out).mono ?_
    rintro e w2 ⟨rfl, hB2⟩
    have HB2 := Lib.hid (HB1.out.trans (hB2.mono HB1.out.size))
    clear hB2
    go_wp2_with fail
    refine (HHO.out _).mono ?_
    rintro e w3 ⟨rfl, hB3⟩
    have HB3 := Lib.hid (HB2.out.trans (hB3.mono HB2.out.size))
    clear hB3
    go_wp2
    go_ret2
    exact ⟨rfl, HB3.out⟩
theorem size_frq {f : Fr} (h : f.body.length = 44) : (Try.prog.info? 42).map (·.size) = some (FC f).size := by rw [FC_size, h]; exact (zero_of_info Try.infoFrame).2
theorem frame_num {W : World} {b : Nat} {f : Fr} {t : TypeId} (h : W.heap[b]? = some (.cells (FC f) t (0, 0))) : W.frozen? ⟨b, 0, none⟩ = false ∧ W.frozen? ⟨b, 2, none⟩ = false := ⟨frozen_of_row _ _ _ _ _ h, frozen_of_row _ _ _ _ _ h⟩
/-- a frame, turned to another place and body -/
theorem FC_setsP (k z o e s k' o' : Int) (b b' : List Nat) (hb : b.length = 44) (hb' : b'.length = 44) : splice (((FC ⟨k, z, o, e, s, b⟩).setIfInBounds 0 (.int .i64 k')).setIfInBounds 2 (.int .i64 o')).toList 5 (byteCells b').toList = (FC ⟨k', z, o', e, s, b'⟩).toList := by
  unfold splice FC byteCells
  simp [hb, hb']
theorem FC_part (f : Fr) (gen epoch zone : Int) (es : List BE) (k : Nat) (hl : (Sn.pad44 (Sn.partB es k)).length = 44) (hf : f.body.length = 44 ∧ f.zone = zone ∧ f.epoch = epoch ∧ f.seq = gen) :
    (splice (((FC f).setIfInBounds 0 (.int .i64 5)).setIfInBounds 2 (.int .i64 (k : Nat))).toList 5 (byteCells (Sn.pad44 (Sn.partB es k))).toList).toArray = FC (Sn.partF gen epoch es zone k) := by
  obtain ⟨fk, fz, fo, fe, fs, fb⟩ := f
  obtain ⟨q1, q2, q3, q4⟩ := hf
  simp only at q1 q2 q3 q4
  subst q2 q3 q4
  unfold Sn.partF
  generalize Sn.pad44 (Sn.partB es k) = B at *
  apply Array.toList_inj.1
  rw [List.toList_toArray]
  exact FC_setsP fk fz fo fe fs 5 k fb B q1 hl
set_option maxRecDepth 100000 in
set_option maxHeartbeats 8000000 in
theorem sframes_yes (w : World) (p le ll ce cl : Nat) (g : Geo.G) (es : List BE) (lv : List Int) (h : BmIs w p le ll ce cl g es lv) (hM : MapOk g es) (hg : Geo.right g = true) (gen epoch next zone : Int) (hr : Sn.right gen epoch next es = true) (hh : holdsG g zone 0 = true) :
    Calls Try.prog 17 #[.agg (SnC gen epoch next p), .int .i64 zone] w fun e w' => ∃ v, e = .returned (.tuple #[v, .int .i64 0]) ∧ OwnM w' 42 49 FC (fun f => f.body.length = 44) w.heap.size v (Sn.frames gen epoch next g es zone (Sn.nParts g)) ∧ Below w.heap.size w w' := by
  have hsm := ((Geo.right_iff g).1 hg).1
  have hes : es.length ≤ 256 := by have h1 := hM.len; have := hsm.2.2.2.1.2; omega
  obtain ⟨-, -, hn1, hn2⟩ := Sn.nums_iff.1 (Sn.right_iff.1 hr).1
  have hrm : ∀ e ∈ es, Sn.Room e := fun e he => Sn.room_of_right hsm (hM.ok e he).1
  obtain ⟨n, hn⟩ : ∃ n, Sn.nParts g = n := ⟨_, rfl⟩
  have hn2' : 2 ≤ n ∧ n ≤ 64 := by rw [← hn]; exact ⟨(Sn.nParts_two hsm).1, Sn.nParts_64 hg⟩
  have HH := Lib.hid h
  have HRT : Hid (∀ W, BmIs W p le ll ce cl g es lv → Calls Try.prog 18 #[.agg (SnC gen epoch next p)] W fun e w' => e = .returned (.bool true) ∧ Below W.heap.size W w') := Lib.hid (fun W hW => by have := sright_any W p le ll ce cl g es lv hW (by omega) gen epoch next; rwa [hr] at this)
  have HGE := Lib.hid (fun W hW => bgeom_any W p le ll ce cl g es lv hW)
  have HHO : Hid (∀ W, Calls Try.prog 19 #[.agg (GC g), .int .i64 zone, .int .i64 0] W fun e w' => e = .returned (.bool true) ∧ Below W.heap.size W w') := Lib.hid (fun W => by have := gholds_any g zone 0 W; rwa [hh] at this)
  have HPA : Hid (∀ W, Calls Try.prog 21 #[.agg (GC g)] W fun e w' => e = .returned (.int .i64 (n : Nat)) ∧ Below W.heap.size W w') := Lib.hid (fun W => by have := gparts_any g W hsm; rwa [← Sn.nParts_cast hsm, hn] at this)
  have HHD := Lib.hid (fun W hW => shead_any W p le ll ce cl g es lv hW hsm gen epoch next ⟨hn1, hn2⟩)
  have HPT := Lib.hid (fun W hW i hi => spart_any W p le ll ce cl g es lv hW hrm (by omega) gen epoch next i hi)
  have HSI := Lib.hid (snsize gen epoch next p)
  have HSC := Lib.hid (fun (W : World) hh => sn_cells (w := W) (b := w.heap.size) (gen := gen) (epoch := epoch) (next := next) (p := p) (t := 28) hh)
  have HIF := Lib.hid (fun (f : Fr) (h : f.body.length = 44) => size_frq h)
  have HF1 := Lib.hid (fun (f : Fr) => FC_one f)
  have HFZ : Hid (∀ f : Fr, f.body.length = 44 → (FC Fr.zero).size = (FC f).size) := Lib.hid (fun f h => by rw [FC_size, FC_size, h]; rfl)
  have HPL : Hid (∀ i, (Sn.pad44 (Sn.partB es i)).length = 44) := Lib.hid (fun i => Sn.pad44_length (by rw [Sn.partB_length]; omega))
  have HHL : Hid ((Sn.pad44 (Sn.headB next g)).length = 44) := Lib.hid (Sn.pad44_length (by rw [Sn.headB_length]; omega))
  have hzf := (zero_of_info Try.infoFrame).1
  have hS0 := heap_alloc_new w (.cells (SnC gen epoch next p) 28)
  have hB0 := (Below.refl w.heap.size w).alloc (Nat.le_refl _) (.cells (SnC gen epoch next p) 28)
  obtain ⟨F0, hh0⟩ : ∃ F0 : Fr, Sn.headF gen epoch next g zone = F0 := ⟨_, rfl⟩
  have hbh := built_head zone epoch gen (Sn.pad44 (Sn.headB next g)) HHL.out
  rw [show (⟨4, zone, 0, epoch, gen, Sn.pad44 (Sn.headB next g)⟩ : Fr) = F0 from hh0] at hbh
  obtain ⟨X0, hX0⟩ : ∃ X0, FC F0 = X0 := ⟨_, rfl⟩
  obtain ⟨BH, hBH⟩ : ∃ BH, byteCells (Sn.pad44 (Sn.headB next g)) = BH := ⟨_, rfl⟩
  rw [hX0, hBH] at hbh
  rw [hBH] at HHD
  have HBH := Lib.hid hbh
  have HX0 := Lib.hid hX0
  clear hX0 hBH
  have HF0 : Hid (∀ i : Nat, i = 1 → Sn.frames gen epoch next g es zone i = [F0]) := Lib.hid (fun i hi => by rw [hi, ← hh0]; simp [Sn.frames])
  have HFS := Lib.hid (fun (i : Nat) (h : 1 ≤ i) => Sn.frames_succ gen epoch next g es zone h)
  have HFL := Lib.hid (fun (i : Nat) (h : 1 ≤ i) => Sn.frames_length gen epoch next g es zone h)
  have HL0 : Hid (F0.body.length = 44) := Lib.hid (by rw [← hh0]; exact HHL.out)
  have HIR : Hid ((Try.prog.info? 42).map (fun i => (i.zero, i.size, i.bytes)) = some (some (.agg (FC Fr.zero)), 49, 88)) := Lib.hid (by kernel_rfl)
  have HH0 := Lib.hid hh0
  have HN := Lib.hid hn
  clear hr h hh hrm hbh hh0 hn hM hg hsm
  obtain ⟨C, hC⟩ : ∃ C, SnC gen epoch next p = C := ⟨_, rfl⟩
  rw [hC] at HRT HHD HPT HSI HSC hS0 hB0 ⊢
  clear hC
  obtain ⟨W0, hW0⟩ : ∃ W0, w.alloc (.cells C 28) = W0 := ⟨_, rfl⟩
  rw [hW0] at hS0 hB0
  have HW0 := Lib.hid hW0
  have HM0 := Lib.hid (HH.out.below hB0)
  have z0 : w.heap.size < W0.heap.size := (Array.getElem?_eq_some_iff.1 hS0).1
  clear hW0
  go_enter Try.func17, Try.ntmps17
  go_upto_region 1 with (fail)
  rw [HW0.out]
  go_wp2_with (refine wpList_row_on (by rfl) 28 _ rfl w.heap.size rfl 28 _ _ _ hS0 Try.underlying28 rfl HSI.out ?_)
  refine (HRT.out _ HM0.out).mono ?_
  rintro e w1 ⟨rfl, hB1⟩
  have hBw1 := hB0.trans (hB1.mono hB0.size)
  have HM1 := Lib.hid (HM0.out.below hB1)
  have hS1 := (hB1.block w.heap.size z0).trans hS0
  obtain ⟨c0, c1, c2, c3⟩ := HSC.out _ hS1
  have z1 := hB1.size
  clear hB0 hB1
  go_wp2_with fail
  refine (HGE.out _ HM1.out).mono ?_
  rintro e w2 ⟨rfl, hB2⟩
  have hBw2 := hBw1.trans (hB2.mono hBw1.size)
  have hS2 := (hB2.block w.heap.size (by omega)).trans hS1
  have HM2 := Lib.hid (HM1.out.below hB2)
  have z2 := hB2.size
  clear hB2 hBw1
  go_wp2_with fail
  refine (HHO.out _).mono ?_
  rintro e w3 ⟨rfl, hB3⟩
  have HB3 := Lib.hid (hBw2.trans (hB3.mono hBw2.size))
  have hS3 := (hB3.block w.heap.size (by omega)).trans hS2
  have HM3 := Lib.hid (HM2.out.below hB3)
  have z3 := hB3.size
  have HS3 := Lib.hid hS3
  clear hB3 hBw2 hS0 hS1 hS2 hS3 c0 c1 c2 c3
  go_upto_region 3 with (fail)
  refine wp_region_conf2 9 [Fact.eq (.int .i64 zone), Fact.eq (.pointer (some ⟨w.heap.size, 1, none⟩)), Fact.eq (.int .i64 epoch), Fact.eq (.pointer (some ⟨w.heap.size, 0, none⟩)), Fact.eq (.int .i64 gen), Fact.eq (.agg C), Fact.eq (.agg BH), Fact.eq (.agg X0), Fact.rowOf w3.heap.size (FC Fr.zero) 42] ?raA (by kernel_rfl) (by kernel_rfl) ?rahA ?raho ?rahend
  case rahA =>
    intro vv
    simp only [putRules, Nat.reduceAdd]
    rfl
  case raho =>
    refine ⟨?_, ?_, ?_, ?_, ?_, ?_, ?_, ?_, ?_, trivial⟩
    · intro vv W K hB hd HK
      simp only [confRules] at HK
      clear hd
      go_wp2
      refine HK.out _ _ (Below.refl _ _) ?_
      rfl
    · intro vv W K hB hd HK
      simp only [confRules] at HK
      clear hd
      go_wp2
      refine HK.out _ _ (Below.refl _ _) ?_
      rfl
    · intro vv W K hB hd HK
      simp only [confRules] at hd HK
      have h1 := hd
      clear hd
      simp only [h1] at HK ⊢
      clear h1
      obtain ⟨c0, c1, c2, c3⟩ := HSC.out _ ((hB.block w.heap.size (by omega)).trans HS3.out)
      clear c0 c2 c3
      go_wp2
      refine HK.out _ _ (Below.refl _ _) ?_
      rfl
    · intro vv W K hB hd HK
      simp only [confRules] at HK
      clear hd
      go_wp2
      refine HK.out _ _ (Below.refl _ _) ?_
      rfl
    · intro vv W K hB hd HK
      simp only [confRules] at hd HK
      have h3 := hd
      clear hd
      simp only [h3] at HK ⊢
      clear h3
      obtain ⟨c0, c1, c2, c3⟩ := HSC.out _ ((hB.block w.heap.size (by omega)).trans HS3.out)
      clear c1 c2 c3
      go_wp2
      refine HK.out _ _ (Below.refl _ _) ?_
      rfl
    · intro vv W K hB hd HK
      simp only [confRules] at HK
      clear hd
      have hT := (hB.block w.heap.size (by omega)).trans HS3.out
      go_wp2_with (refine wpList_row_on (by rfl) 28 _ rfl w.heap.size rfl 28 _ _ _ hT Try.underlying28 rfl HSI.out ?_)
      refine HK.out _ _ (Below.refl _ _) ?_
      rfl
    · intro vv W K hB hd HK
      simp only [confRules] at hd HK
      have h5 := hd
      clear hd
      simp only [h5] at HK ⊢
      clear h5
      have hT := HM3.out.below hB
      go_wp2_with (refine (HHD.out _ hT).mono ?_; rintro e w9 ⟨rfl, hB9⟩)
      refine HK.out _ _ hB9 ?_
      rfl
    · intro vv W K hB hd HK
      simp only [confRules] at hd HK
      obtain ⟨h0, h2, h4, h6⟩ := hd
      simp only [h0, h2, h4, h6] at HK ⊢
      clear h0 h2 h4 h6
      go_wp2_with (refine wpList_build_on (by rfl) 42 _ rfl #[(0, .int .i64 4), (1, .int .i64 zone), (3, .int .i64 epoch), (4, .int .i64 gen), (5, .agg BH)] (by simp [Act.eval]) X0 HBH.out ?_)
      refine HK.out _ _ (Below.refl _ _) ?_
      rfl
    · intro vv W K hB hd HK
      simp only [confRules] at HK
      clear hd
      go_wp2
      refine HK.out _ _ ((Below.refl _ _).alloc (Nat.le_refl _) _) ?_
      exact ⟨_, rfl, hB.size, heap_alloc_new _ _⟩
  case rahend =>
    intro vv W hB hf
    have e7 := hf 7 (by decide)
    obtain ⟨g8, e8, l8, r8⟩ := hf 8 (by decide)
    simp only [endRules] at e7
    simp only [e7, e8, dropRules]
    clear hf e7 e8
    have HW := Lib.hid (hB.block w.heap.size (by omega) |>.trans HS3.out)
    have zW := hB.size
    have HBW := Lib.hid (HB3.out.trans (hB.mono HB3.out.size))
    have hbs := below_setRow (Below.refl g8 W) (Nat.le_refl _) X0
    have hF4 := setRow_heap W g8 (FC Fr.zero) X0 _ _ r8
    have hg8 : w.heap.size < g8 := by omega
    have HS4 := Lib.hid ((hbs.block w.heap.size (by omega)).trans HW.out)
    have HB4 := Lib.hid (below_setRow HBW.out (show w.heap.size ≤ g8 by omega) X0)
    have HIX : Hid ((Try.prog.info? 42).map (·.size) = some X0.size) := Lib.hid (by rw [← HX0.out]; exact HIF.out _ HL0.out)
    have HZX : Hid ((FC Fr.zero).size = X0.size) := Lib.hid (by rw [← HX0.out]; exact HFZ.out _ HL0.out)
    have H1X : Hid (X0.all (·.oneCell') = true) := Lib.hid (by rw [← HX0.out]; exact HF1.out _)
    obtain ⟨W4, hW4⟩ : ∃ W4, W.setRow g8 X0 = W4 := ⟨_, rfl⟩
    rw [hW4] at HS4 HB4 hF4
    have HF4 := Lib.hid hF4
    have HW4 := Lib.hid hW4
    have R8 := Lib.hid r8
    have zg8 : g8 < W4.heap.size := (Array.getElem?_eq_some_iff.1 hF4).1
    clear hbs hW4 r8 l8 hF4 hB HM0 HM1 HM2 HM3
    go_upto_region 4 with (refine wpList_store_row rfl 42 _ _ rfl g8 X0 rfl rfl 42 (FC Fr.zero) R8.out HIX.out HZX.out H1X.out ?_)
    rw [HW4.out]
    obtain ⟨W5, hW5⟩ : ∃ W5, W4.alloc (.cells X0 42) = W5 := ⟨_, rfl⟩
    have hb5 : Below W4.heap.size W4 W5 := by rw [← hW5]; exact (Below.refl _ _).alloc (Nat.le_refl _) _
    have HO5 : Hid (W5.heap[W4.heap.size]? = some (.cells X0 42 (0, 0))) := Lib.hid (by rw [← hW5]; exact heap_alloc_new W4 _)
    have HF5 := Lib.hid ((hb5.block g8 zg8).trans HF4.out)
    have HS5 := Lib.hid ((hb5.block w.heap.size (by omega)).trans HS4.out)
    have HB5 := Lib.hid (HB4.out.trans (hb5.mono HB4.out.size))
    have HW5 := Lib.hid hW5
    have HOWN : Hid (OwnM W5 42 49 FC (fun f => f.body.length = 44) (g8 + 1) (.slice (some ⟨W4.heap.size, 0, none⟩) 1 1) (Sn.frames gen epoch next g es zone 1)) := Lib.hid (by
      rw [HF0.out 1 rfl]
      refine ⟨⟨by rw [flatM_one, Array.length_toList, FC_size, HL0.out]; rfl, .inr ⟨W4.heap.size, 1, X0, rfl, by omega, HO5.out, Nat.le_refl _, by unfold maxLen; omega, ?_, ?_⟩⟩, by simpa using HL0.out⟩
      · rw [← HX0.out, FC_size, HL0.out]
      · rw [flatM_one, HX0.out, List.take_of_length_le]
        rw [Array.length_toList, ← HX0.out, FC_size, HL0.out]
        simp)
    clear hW5 hb5
    go_upto_region 5 with (first | (refine wpList_row_on (by rfl) 42 _ rfl g8 rfl 42 _ _ _ HF4.out Try.underlying42 rfl HIX.out ?_) | (refine wpList_slice1 rfl (.tmp 28) rfl F0 HL0.out (congrArg Value.agg HX0.out.symm) ?_; rw [HX0.out]))
    rw [HW5.out]
    go_wp2
    go_loopw [7, 8] (fun v u wr => ∃ (k : Nat) (f : Fr), 1 ≤ k ∧ k ≤ n ∧ u = .int .i64 k ∧ (f.body.length = 44 ∧ f.zone = zone ∧ f.epoch = epoch ∧ f.seq = gen) ∧ OwnM wr 42 49 FC (fun f => f.body.length = 44) (g8 + 1) v (Sn.frames gen epoch next g es zone k) ∧ wr.heap[g8]? = some (.cells (FC f) 42 (0, 0)) ∧ wr.heap[w.heap.size]? = some (.cells C 28 (0, 0)) ∧ Below w.heap.size w wr) (fun _ u _ => n - (intOf u).toNat)
    case atStart => exact ⟨1, F0, by omega, by omega, rfl, ⟨HL0.out, by rw [← HH0.out]; exact ⟨rfl, rfl, rfl⟩⟩, HOWN.out, by rw [HX0.out]; exact HF5.out, HS5.out, HB5.out⟩
    case round =>
      obtain ⟨k, f, hk1, hk2, rfl, hfq, hown, hF, hS, hB⟩ := hrel
      have HM := Lib.hid (HH.out.below hB)
      have zr := hB.size
      have zg : g8 < wr.heap.size := (Array.getElem?_eq_some_iff.1 hF).1
      obtain ⟨c0, c1, c2, c3⟩ := HSC.out _ hS
      have HOW := Lib.hid hown
      have HF := Lib.hid hF
      have HS := Lib.hid hS
      have HB := Lib.hid hB
      have HFQ := Lib.hid hfq
      clear hown hF hS hB hfq
      by_cases hlt : k < n
      · go_wp2_with fail
        refine (HGE.out _ HM.out).mono ?_
        rintro e w6 ⟨rfl, hB6⟩
        go_wp2_with fail
        refine (HPA.out _).mono ?_
        rintro e w7 ⟨rfl, hB7⟩
        have hB67 := hB6.trans (hB7.mono hB6.size)
        have z7 := hB67.size
        have hS7 := (hB67.block w.heap.size (by omega)).trans HS.out
        have HS7 := Lib.hid hS7
        have HF7 := Lib.hid ((hB67.block g8 zg).trans HF.out)
        have HB7 := Lib.hid (HB.out.trans (hB67.mono zr))
        have HM7 := Lib.hid (HH.out.below HB7.out)
        have HOW7 := Lib.hid (HOW.out.below hB67)
        clear hB6 hB7 hB67 c0 c1 c2 c3
        go_wp2_with (refine wpList_row_on (by rfl) 28 _ rfl w.heap.size rfl 28 _ _ _ hS7 Try.underlying28 rfl HSI.out ?_)
        refine (HPT.out _ HM7.out k (by omega)).mono ?_
        rintro e w8 ⟨rfl, hB8⟩
        have z8 := hB8.size
        have hF8 := (hB8.block g8 (by omega)).trans HF7.out
        have hS8 := (hB8.block w.heap.size (by omega)).trans HS7.out
        have hB8' := HB7.out.trans (hB8.mono (by omega))
        have hOW8 := HOW7.out.below hB8
        obtain ⟨f0, f2⟩ := frame_num hF8
        obtain ⟨e0, -, e2, -, -⟩ := frame_cells hF8
        obtain ⟨PB, hPB⟩ : ∃ PB, byteCells (Sn.pad44 (Sn.partB es k)) = PB := ⟨_, rfl⟩
        have h1 := heap_setCell_same w8 g8 0 _ _ (.int .i64 5) hF8
        have h2 := heap_setCell_same _ g8 2 _ _ (.int .i64 (k : Nat)) h1
        obtain ⟨W9, hW9⟩ : ∃ W9, (w8.setCell ⟨g8, 0, none⟩ (.int .i64 5)).setCell ⟨g8, 2, none⟩ (.int .i64 (k : Nat)) = W9 := ⟨_, rfl⟩
        rw [hW9] at h2
        have hO9 : Only [g8] w8 W9 := by rw [← hW9]; exact ((Only.refl _ _).setCell (.inl (by simp)) _).setCell (.inl (by simp)) _
        have hsz : (((FC f).setIfInBounds 0 (.int .i64 5)).setIfInBounds 2 (.int .i64 (k : Nat))).size = 49 := by rw [Array.size_setIfInBounds, Array.size_setIfInBounds, FC_size, HFQ.out.1]
        have hth : W9.there g8 5 PB.size := by
          intro j hj
          rw [← hPB, size_byteCells, HPL.out] at hj
          refine ⟨?_, frozen_of_row _ _ _ _ _ h2⟩
          rw [cell_of_row _ _ _ _ _ _ h2, Array.getElem?_eq_getElem (by omega)]
          rfl
        have h2' : W9.heap[g8]? = some (.cells (((FC f).setIfInBounds 0 (.int .i64 5)).setIfInBounds 2 (.int .i64 (k : Nat))).toList.toArray 42 (0, 0)) := h2
        have h3 := heap_setCells_row g8 42 PB.toList 5 _ W9 h2' (by rw [Array.length_toList, Array.length_toList, ← hPB, size_byteCells, HPL.out, hsz]; omega)
        have hsp : (splice (((FC f).setIfInBounds 0 (.int .i64 5)).setIfInBounds 2 (.int .i64 (k : Nat))).toList 5 PB.toList).toArray = FC (Sn.partF gen epoch es zone k) := by
          rw [← hPB]
          exact FC_part f gen epoch zone es k (HPL.out k) HFQ.out
        rw [hsp] at h3
        obtain ⟨W10, hW10⟩ : ∃ W10, W9.setCells g8 5 PB.toList = W10 := ⟨_, rfl⟩
        have hO10 : Only [g8] w8 W10 := by rw [← hW10]; exact hO9.trans (Only.of_setCells g8 _ _ _)
        rw [hW10] at h3
        have HW9 := Lib.hid hW9
        have HW10 := Lib.hid hW10
        have HTH := Lib.hid hth
        have HF10 := Lib.hid h3
        have HS10 := Lib.hid (hO10.get hS8 (by simp; omega))
        have HB10 := Lib.hid (hB8'.trans (hO10.below (B := w.heap.size) (by simp; omega) hB8'.size))
        have HOW10 := Lib.hid (hOW8.only hO10 (fun j hj => by have := (hOW8.base_le hj).1; simp; omega))
        have HIPB : Hid ((Try.prog.info? 40).map (·.size) = some PB.size) := Lib.hid (by rw [← hPB]; exact size_bodyS (HPL.out k))
        have H1PB : Hid (PB.all (·.oneCell') = true) := Lib.hid (by rw [← hPB]; exact one_byteCells _)
        have hlP : (Sn.partF gen epoch es zone k).body.length = 44 := HPL.out k
        have z10 := hO10.size
        obtain ⟨XP, hXP⟩ : ∃ XP, FC (Sn.partF gen epoch es zone k) = XP := ⟨_, rfl⟩
        rw [hXP] at HF10
        have HXP := Lib.hid hXP
        have HLP := Lib.hid hlP
        have HIXP : Hid ((Try.prog.info? 42).map (·.size) = some XP.size) := Lib.hid (by rw [← hXP]; exact HIF.out _ hlP)
        clear hB8 hF8 hS8 hB8' hOW8 h1 h2 h2' h3 hsp hth hsz hO9 hO10 hW9 hW10 hXP hlP
        rw [hPB]
        clear hPB
        go_upto_region 9 with (refine wpList_store_mid rfl 40 _ _ rfl g8 5 PB rfl rfl (by rw [HW9.out]; exact HTH.out) HIPB.out H1PB.out ?_; rw [HW9.out, HW10.out])
        clear f0 f2 e0 e2
        obtain ⟨W11, hW11⟩ : ∃ W11, W10.alloc (.cells XP 42) = W11 := ⟨_, rfl⟩
        have hb11 : Below W10.heap.size W10 W11 := by rw [← hW11]; exact (Below.refl _ _).alloc (Nat.le_refl _) _
        have HO11 : Hid (W11.heap[W10.heap.size]? = some (.cells XP 42 (0, 0))) := Lib.hid (by rw [← hW11]; exact heap_alloc_new W10 _)
        have HF11 := Lib.hid ((hb11.block g8 (by omega)).trans HF10.out)
        have HS11 := Lib.hid ((hb11.block w.heap.size (by omega)).trans HS10.out)
        have HB11 := Lib.hid (HB10.out.trans (hb11.mono (by omega)))
        have HOW11 := Lib.hid (HOW10.out.below hb11)
        have HROW : Hid (RowOf W11 49 FC (fun f => f.body.length = 44) (some ⟨W10.heap.size, 0, none⟩) [Sn.partF gen epoch es zone k]) := Lib.hid (one_rowOf (t := 42) (fr := (0, 0)) (by rw [HXP.out]; exact HO11.out) HLP.out)
        have z11 := hb11.size
        have HW11 := Lib.hid hW11
        have HLK := Lib.hid (HFL.out k hk1)
        have HPF : Hid (∀ a : Act, a.eval (.tmp 46) = .agg XP → a.eval (.tmp 46) = .agg (FC (Sn.partF gen epoch es zone k))) := Lib.hid (fun a h => by rw [HXP.out]; exact h)
        clear hW11 hb11
        have hbase : g8 + 1 ≤ W11.heap.size := by omega
        obtain ⟨FR, hFR⟩ : ∃ FR, Sn.frames gen epoch next g es zone k = FR := ⟨_, rfl⟩
        have HKS := Lib.hid (HFS.out k hk1)
        obtain ⟨NF, hNF⟩ : ∃ NF, Sn.partF gen epoch es zone k = NF := ⟨_, rfl⟩
        rw [hFR] at HOW11 HLK HKS
        rw [hNF] at HROW HLP HXP HPF HKS
        have HFRL : Hid (FR.length + [NF].length ≤ 65) := Lib.hid (by rw [HLK.out]; simp; omega)
        have HNF := Lib.hid hNF
        clear hFR hNF
        go_upto_region 7 with (first | (refine wpList_row_on (by rfl) 42 _ rfl g8 rfl 42 _ _ _ HF10.out Try.underlying42 rfl HIXP.out ?_) | (refine wpList_slice1 rfl (.tmp 46) rfl NF HLP.out (congrArg Value.agg HXP.out.symm) ?_; rw [HXP.out, HW11.out]) | (at_builtin; refine wpList_appendM rfl (.tmp 45) (.tmp 47) 35 rfl 42 49 FC (fun f => f.body.length = 44) kinF (by decide) (.agg (FC Fr.zero)) 88 Try.underlying35 HIR.out rfl (g8 + 1) _ FR rfl HOW11.out (some ⟨W10.heap.size, 0, none⟩) 1 [NF] rfl HROW.out (by simp) (by have := HFRL.out; unfold maxLen; omega) (by have := HFRL.out; omega) hbase ?_; intro v12 w12 hv12 hg12 _))
        have hO12 : Below (g8 + 1) W11 w12 := HOW11.out.grown hg12 hbase
        have HF12 := Lib.hid ((hO12.block g8 (by omega)).trans HF11.out)
        have HS12 := Lib.hid ((hO12.block w.heap.size (by omega)).trans HS11.out)
        have HB12 := Lib.hid (HB11.out.trans (hO12.mono (by omega)))
        have HV12 := Lib.hid hv12
        clear hv12 hg12 hO12
        go_wp2
        go_roundw
        case rel => exact ⟨k + 1, NF, by omega, by omega, by go_num, ⟨HLP.out, by rw [← HNF.out]; exact ⟨rfl, rfl, rfl⟩⟩, by rw [HKS.out]; exact HV12.out, by rw [HXP.out]; exact HF12.out, HS12.out, HB12.out⟩
        case measure => simp [intOf]; omega
      · obtain rfl : k = n := by omega
        go_wp2_with fail
        refine (HGE.out _ HM.out).mono ?_
        rintro e w6 ⟨rfl, hB6⟩
        go_wp2_with fail
        refine (HPA.out _).mono ?_
        rintro e w7 ⟨rfl, hB7⟩
        have hB67 := hB6.trans (hB7.mono hB6.size)
        have HB7 := Lib.hid (HB.out.trans (hB67.mono zr))
        have HOW7 := Lib.hid (HOW.out.below hB67)
        clear hB6 hB7 hB67 c0 c1 c2 c3
        go_wp2
        go_ret2
        exact ⟨_, rfl, by rw [HN.out]; exact HOW7.out.mono (by omega), HB7.out⟩
end Go.Proofs.Ytjnneoejnpephaa
namespace Go.Proofs.Ytjnneoejnpephaa
open Go.RowKit Go.Rv
set_option linter.unusedVariables false
attribute [local go_sem] Oper.semAt_some
/-- a number is read, wherever it lies -/
theorem rd_on {B : Nat} (g : Nat) (l q : List Nat) (W : Int) (V : Int) (k : Nat) (w : World) (hR : RdAt w B g l false) (hW : W = k) (h1 : 1 ≤ k) (h7 : k ≤ 7) (hk : k ≤ l.length) (hq : q = l.drop k) (hV : V = Sn.n1 l 0 k) :
    Calls Try.prog 78 #[.pointer (some ⟨g, 0, none⟩), .int .i64 W] w fun e w' => e = .returned (.int .i64 V) ∧ RdAt w' B g q false ∧ Only [g] w w' := by
  subst hW hq hV
  exact rd_num_yes g l k w hR h1 h7 hk
theorem n1_drop (b : List Nat) (j o k : Nat) : Sn.n1 (b.drop j) o k = Sn.n1 b (j + o) k := by unfold Sn.n1; rw [List.drop_drop]
theorem ent_drop (b : List Nat) (j o : Nat) : Sn.ent (b.drop j) o = Sn.ent b (j + o) := by unfold Sn.ent; simp only [n1_drop, Nat.add_assoc]
theorem be_cells {W : World} {b : Nat} {e : BE} {t : TypeId} (h : W.heap[b]? = some (.cells (BEC e) t (0, 0))) : W.cell? ⟨b, 0, none⟩ = some (.int .i64 e.st) ∧ W.cell? ⟨b, 1, none⟩ = some (.int .i64 e.z) ∧ W.cell? ⟨b, 2, none⟩ = some (.int .i64 e.m) ∧ W.cell? ⟨b, 3, none⟩ = some (.int .i64 e.o) ∧ W.cell? ⟨b, 4, none⟩ = some (.int .i64 e.q) ∧ W.cell? ⟨b, 5, none⟩ = some (.int .i64 e.s) :=
  ⟨(cell_of_row _ _ _ _ _ _ h).trans rfl, (cell_of_row _ _ _ _ _ _ h).trans rfl, (cell_of_row _ _ _ _ _ _ h).trans rfl, (cell_of_row _ _ _ _ _ _ h).trans rfl, (cell_of_row _ _ _ _ _ _ h).trans rfl, (cell_of_row _ _ _ _ _ _ h).trans rfl⟩
theorem only_setRow (w : World) (g : Nat) (X : Array Value) : Only [g] w (w.setRow g X) := ⟨rfl, rfl, rfl, by simp [World.setRow], fun i hi hn => setRow_other w g i X (by simp at hn; omega)⟩
theorem built_ent (v : Int) : Try.prog.built 46 [(0, .int .i64 v)] = some (BEC ⟨v, 0, 0, 0, 0, 0⟩) := by kernel_rfl
set_option maxRecDepth 100000 in
set_option maxHeartbeats 4000000 in
theorem stake_any {B : Nat} (g : Nat) (l : List Nat) (w : World) (hR : RdAt w B g l false) (hl : 16 ≤ l.length) :
    Calls Try.prog 79 #[.pointer (some ⟨g, 0, none⟩)] w fun e w' => e = .returned (.agg (BEC (Sn.ent l 0))) ∧ RdAt w' B g (l.drop 16) false ∧ Only [g] w w' := by
  obtain ⟨q1, hq1⟩ : ∃ q, q = l.drop 1 := ⟨_, rfl⟩
  obtain ⟨q2, hq2⟩ : ∃ q, q = q1.drop 2 := ⟨_, rfl⟩
  obtain ⟨q3, hq3⟩ : ∃ q, q = q2.drop 2 := ⟨_, rfl⟩
  obtain ⟨q4, hq4⟩ : ∃ q, q = q3.drop 1 := ⟨_, rfl⟩
  obtain ⟨q5, hq5⟩ : ∃ q, q = q4.drop 6 := ⟨_, rfl⟩
  have hq6 : l.drop 16 = q5.drop 4 := by rw [hq5, hq4, hq3, hq2, hq1]; simp
  have l1 : q1.length + 1 = l.length := by rw [hq1, List.length_drop]; omega
  have l2 : q2.length + 3 = l.length := by rw [hq2, List.length_drop]; omega
  have l3 : q3.length + 5 = l.length := by rw [hq3, List.length_drop]; omega
  have l4 : q4.length + 6 = l.length := by rw [hq4, List.length_drop]; omega
  have l5 : q5.length + 12 = l.length := by rw [hq5, List.length_drop]; omega
  have he : Sn.ent l 0 = ⟨Sn.n1 l 0 1, Sn.n1 q1 0 2, Sn.n1 q2 0 2, Sn.n1 q3 0 1, Sn.n1 q4 0 6, Sn.n1 q5 0 4⟩ := by
    rw [hq5, hq4, hq3, hq2, hq1]
    simp only [n1_drop]
    rfl
  obtain ⟨v0, hv0⟩ : ∃ v, v = Sn.n1 l 0 1 := ⟨_, rfl⟩
  obtain ⟨v1, hv1⟩ : ∃ v, v = Sn.n1 q1 0 2 := ⟨_, rfl⟩
  obtain ⟨v2, hv2⟩ : ∃ v, v = Sn.n1 q2 0 2 := ⟨_, rfl⟩
  obtain ⟨v3, hv3⟩ : ∃ v, v = Sn.n1 q3 0 1 := ⟨_, rfl⟩
  obtain ⟨v4, hv4⟩ : ∃ v, v = Sn.n1 q4 0 6 := ⟨_, rfl⟩
  obtain ⟨v5, hv5⟩ : ∃ v, v = Sn.n1 q5 0 4 := ⟨_, rfl⟩
  rw [← hv0, ← hv1, ← hv2, ← hv3, ← hv4, ← hv5] at he
  have H0 := Lib.hid (fun W hR => rd_on (B := B) g l q1 1 v0 1 W hR rfl (by omega) (by omega) (by omega) hq1 hv0)
  have H1 := Lib.hid (fun W hR => rd_on (B := B) g q1 q2 2 v1 2 W hR rfl (by omega) (by omega) (by omega) hq2 hv1)
  have H2 := Lib.hid (fun W hR => rd_on (B := B) g q2 q3 2 v2 2 W hR rfl (by omega) (by omega) (by omega) hq3 hv2)
  have H3 := Lib.hid (fun W hR => rd_on (B := B) g q3 q4 1 v3 1 W hR rfl (by omega) (by omega) (by omega) hq4 hv3)
  have H4 := Lib.hid (fun W hR => rd_on (B := B) g q4 q5 6 v4 6 W hR rfl (by omega) (by omega) (by omega) hq5 hv4)
  have H5 := Lib.hid (fun W hR => rd_on (B := B) g q5 (l.drop 16) 4 v5 4 W hR rfl (by omega) (by omega) (by omega) hq6 hv5)
  have hgl := hR.lt
  have HE := Lib.hid he
  have HBU := Lib.hid (built_ent v0)
  have HIE := Lib.hid (fun e => esize e)
  have HON := Lib.hid (fun e => BEC_one e)
  have HSZ : Hid (∀ e e' : BE, (BEC e').size = (BEC e).size) := Lib.hid (fun e e' => by rw [BEC_size, BEC_size])
  have hze := (zero_of_info Try.infoEnt).1
  clear hq1 hq2 hq3 hq4 hq5 hq6 l1 l2 l3 l4 l5 he hv0 hv1 hv2 hv3 hv4 hv5 hl
  obtain ⟨QL, hQL⟩ : ∃ QL, l.drop 16 = QL := ⟨_, rfl⟩
  rw [hQL] at H5 ⊢
  clear hQL
  have hal : Below w.heap.size w (w.alloc (.cells (BEC BE.zero) 46)) := (Below.refl _ _).alloc (Nat.le_refl _) _
  obtain ⟨W0, hW0⟩ : ∃ W0, w.alloc (.cells (BEC BE.zero) 46) = W0 := ⟨_, rfl⟩
  have hr0 : W0.heap[w.heap.size]? = some (.cells (BEC BE.zero) 46 (0, 0)) := by rw [← hW0]; exact heap_alloc_new w _
  rw [hW0] at hal
  have HW0 := Lib.hid hW0
  have HR0 := Lib.hid (hR.below hal)
  have HO0 : Hid (Only [g] w W0) := Lib.hid (Only.of_below hal)
  have HZ0 := Lib.hid hr0
  have z0 : w.heap.size < W0.heap.size := (Array.getElem?_eq_some_iff.1 hr0).1
  clear hW0 hal hR hr0
  go_enter Try.func79, Try.ntmps79
  go_upto_region 1 with (fail)
  rw [HW0.out]
  go_wp2_with fail
  refine (H0.out _ HR0.out).mono ?_
  rintro e1 w1 ⟨rfl, hR1, hO1⟩
  have z1 := hO1.size
  have hZ1 := hO1.get HZ0.out (by simp; omega)
  have hOw1 := HO0.out.trans hO1
  obtain ⟨W2, hW2⟩ : ∃ W2, w1.alloc (.cells (BEC ⟨v0, 0, 0, 0, 0, 0⟩) 46) = W2 := ⟨_, rfl⟩
  obtain ⟨eb, heb⟩ : ∃ eb, w1.heap.size = eb := ⟨_, rfl⟩
  have hb2 : Below w1.heap.size w1 W2 := by rw [← hW2]; exact (Below.refl _ _).alloc (Nat.le_refl _) _
  have hE2 : W2.heap[eb]? = some (.cells (BEC ⟨v0, 0, 0, 0, 0, 0⟩) 46 (0, 0)) := by rw [← hW2, ← heb]; exact heap_alloc_new w1 _
  have HR2 := Lib.hid (hR1.below hb2)
  have HO2 := Lib.hid (hOw1.trans (Only.of_below (S := [g]) hb2))
  have HZ2 := Lib.hid ((hb2.block w.heap.size (by omega)).trans hZ1)
  have HE2 := Lib.hid hE2
  have HW2 := Lib.hid hW2
  have HEB := Lib.hid heb
  have zeb : w.heap.size < eb := by omega
  have z2 : eb < W2.heap.size := (Array.getElem?_eq_some_iff.1 hE2).1
  clear hR1 hO1 hZ1 hOw1 hb2 hE2 hW2 heb
  go_upto_region 2 with (first | (refine wpList_build_on (by rfl) 46 _ rfl #[(0, .int .i64 v0)] (by simp [Act.eval, Act.put]) (BEC ⟨v0, 0, 0, 0, 0, 0⟩) HBU.out ?_) | (refine wpList_store_row rfl 46 _ _ rfl w1.heap.size (BEC ⟨v0, 0, 0, 0, 0, 0⟩) rfl rfl 46 (BEC BE.zero) (heap_alloc_new w1 _) (HIE.out _) (HSZ.out _ _) (HON.out _) ?_; rw [World.setRow_alloc_new]))
  rw [HW2.out, HEB.out]
  go_wp2_with fail
  refine (H1.out _ HR2.out).mono ?_
  rintro e3 w3 ⟨rfl, hR3, hO3⟩
  have z3 := hO3.size
  have HR3 := Lib.hid hR3
  have HZ3 := Lib.hid (hO3.get HZ2.out (by simp; omega))
  have HE3 := Lib.hid (hO3.get HE2.out (by simp; omega))
  have HO3 := Lib.hid (HO2.out.trans hO3)
  clear hR3 hO3
  go_wp2_with fail
  refine (H2.out _ HR3.out).mono ?_
  rintro e4 w4 ⟨rfl, hR4, hO4⟩
  have z4 := hO4.size
  have HR4 := Lib.hid hR4
  have HZ4 := Lib.hid (hO4.get HZ3.out (by simp; omega))
  have HE4 := Lib.hid (hO4.get HE3.out (by simp; omega))
  have HO4 := Lib.hid (HO3.out.trans hO4)
  clear hR4 hO4
  go_wp2_with fail
  refine (H3.out _ HR4.out).mono ?_
  rintro e5 w5 ⟨rfl, hR5, hO5⟩
  have z5 := hO5.size
  have HR5 := Lib.hid hR5
  have HZ5 := Lib.hid (hO5.get HZ4.out (by simp; omega))
  have HE5 := Lib.hid (hO5.get HE4.out (by simp; omega))
  have HO5 := Lib.hid (HO4.out.trans hO5)
  clear hR5 hO5
  have hE5 := HE5.out
  obtain ⟨c0, c1, c2, c3, c4, c5⟩ := be_cells hE5
  have f1 := frozen_of_row _ eb 1 _ _ hE5
  have f2 := frozen_of_row _ eb 2 _ _ hE5
  have f3 := frozen_of_row _ eb 3 _ _ hE5
  have s0 := heap_setCell_same _ eb 1 _ _ (.int .i64 v1) hE5
  have s1 := heap_setCell_same _ eb 2 _ _ (.int .i64 v2) s0
  have s2 := heap_setCell_same _ eb 3 _ _ (.int .i64 v3) s1
  obtain ⟨w6, hw6⟩ : ∃ W', (((w5.setCell ⟨eb, 1, none⟩ (.int .i64 v1)).setCell ⟨eb, 2, none⟩ (.int .i64 v2)).setCell ⟨eb, 3, none⟩ (.int .i64 v3)) = W' := ⟨_, rfl⟩
  have hO6 : Only [eb] w5 w6 := by rw [← hw6]; exact ((((Only.refl _ _).setCell (.inl (by simp)) _).setCell (.inl (by simp)) _).setCell (.inl (by simp)) _)
  have HE6 : Hid (w6.heap[eb]? = some (.cells (BEC ⟨v0, v1, v2, v3, 0, 0⟩) 46 (0, 0))) := Lib.hid (by rw [← hw6]; exact s2)
  have HR6 := Lib.hid (HR5.out.only hO6 (by simp; omega) (by simp; omega))
  have HZ6 := Lib.hid (hO6.get HZ5.out (by simp; omega))
  have HO6 := Lib.hid (HO5.out.trans' hO6 (by simp; omega))
  have z6 := hO6.size
  have Hw6 := Lib.hid hw6
  clear hE5 hO6 hw6 s0 s1 s2
  go_upto_region 3 with (fail)
  rw [Hw6.out]
  clear c0 c1 c2 c3 c4 c5 f1 f2 f3
  go_wp2_with fail
  refine (H4.out _ HR6.out).mono ?_
  rintro e7 w7 ⟨rfl, hR7, hO7⟩
  have z7 := hO7.size
  have HR7 := Lib.hid hR7
  have HZ7 := Lib.hid (hO7.get HZ6.out (by simp; omega))
  have HE7 := Lib.hid (hO7.get HE6.out (by simp; omega))
  have HO7 := Lib.hid (HO6.out.trans hO7)
  clear hR7 hO7
  go_wp2_with fail
  refine (H5.out _ HR7.out).mono ?_
  rintro e8 w8 ⟨rfl, hR8, hO8⟩
  have z8 := hO8.size
  have HR8 := Lib.hid hR8
  have HZ8 := Lib.hid (hO8.get HZ7.out (by simp; omega))
  have HE8 := Lib.hid (hO8.get HE7.out (by simp; omega))
  have HO8 := Lib.hid (HO7.out.trans hO8)
  clear hR8 hO8
  have hE8 := HE8.out
  obtain ⟨c0, c1, c2, c3, c4, c5⟩ := be_cells hE8
  have f4 := frozen_of_row _ eb 4 _ _ hE8
  have f5 := frozen_of_row _ eb 5 _ _ hE8
  have s0 := heap_setCell_same _ eb 4 _ _ (.int .i64 v4) hE8
  have s1 := heap_setCell_same _ eb 5 _ _ (.int .i64 v5) s0
  obtain ⟨w9, hw9⟩ : ∃ W', ((w8.setCell ⟨eb, 4, none⟩ (.int .i64 v4)).setCell ⟨eb, 5, none⟩ (.int .i64 v5)) = W' := ⟨_, rfl⟩
  have hO9 : Only [eb] w8 w9 := by rw [← hw9]; exact (((Only.refl _ _).setCell (.inl (by simp)) _).setCell (.inl (by simp)) _)
  have HE9 : Hid (w9.heap[eb]? = some (.cells (BEC ⟨v0, v1, v2, v3, v4, v5⟩) 46 (0, 0))) := Lib.hid (by rw [← hw9]; exact s1)
  have HR9 := Lib.hid (HR8.out.only hO9 (by simp; omega) (by simp; omega))
  have HZ9 := Lib.hid (hO9.get HZ8.out (by simp; omega))
  have HO9 := Lib.hid (HO8.out.trans' hO9 (by simp; omega))
  have z9 := hO9.size
  have Hw9 := Lib.hid hw9
  clear hE8 hO9 hw9 s0 s1
  go_upto_region 4 with (fail)
  rw [Hw9.out]
  clear c0 c1 c2 c3 c4 c5 f4 f5
  have hE9 := HE9.out
  have hZ9 := HZ9.out
  have hfin : ∀ W', W' = w9.setRow w.heap.size (BEC ⟨v0, v1, v2, v3, v4, v5⟩) → RdAt W' B g QL false ∧ Only [g] w W' := by
    rintro W' rfl
    have hs : Only [w.heap.size] w9 (w9.setRow w.heap.size (BEC ⟨v0, v1, v2, v3, v4, v5⟩)) := only_setRow w9 _ _
    exact ⟨HR9.out.only hs (by simp; omega) (by simp; omega), HO9.out.trans' hs (by simp)⟩
  have HFIN := Lib.hid hfin
  clear hfin
  go_wp2_with (first | (refine wpList_row_on (by rfl) 46 _ rfl eb rfl 46 _ _ _ hE9 Try.underlying46 rfl (HIE.out _) ?_) | (refine wpList_store_row rfl 46 _ _ rfl w.heap.size (BEC ⟨v0, v1, v2, v3, v4, v5⟩) rfl rfl 46 (BEC BE.zero) hZ9 (HIE.out _) (HSZ.out _ _) (HON.out _) ?_))
  refine bodyPost_ret (res_row rfl _ _ w.heap.size 46 (BEC ⟨v0, v1, v2, v3, v4, v5⟩) _ _ rfl (setRow_heap _ _ _ _ _ _ hZ9) Try.underlying46 rfl (HIE.out _)) rfl ?_
  obtain ⟨f1, f2⟩ := HFIN.out _ rfl
  exact ⟨by rw [HE.out], f1, f2⟩
end Go.Proofs.Ytjnneoejnpephaa
namespace Go.Rv
open Go.RowKit
theorem Below.drew1 (w : World) : Below w.heap.size w w.drew := (Below.refl _ _).drew
end Go.Rv
namespace Go.Proofs.Ytjnneoejnpephaa
open Go.RowKit Go.Rv Frm
set_option linter.unusedVariables false
attribute [local go_sem] Oper.semAt_some
theorem built_snap (a b c : Int) : Try.prog.built 28 [(0, .int .i64 a), (1, .int .i64 b), (2, .int .i64 c)] = some #[.int .i64 a, .int .i64 b, .int .i64 c, .pointer none] := by kernel_rfl
theorem built_geo3 (a b c : Int) : Try.prog.built 23 [(0, .int .i64 a), (1, .int .i64 b), (2, .int .i64 c)] = some (GC ⟨a, b, c, 0, 0, 0⟩) := by kernel_rfl
set_option maxRecDepth 100000 in
set_option maxHeartbeats 8000000 in
theorem sbegin_core (w : World) (f : Fr) (hb : Body f.body) (er : Int) (M : Nat → Option Addr → World → Prop) (hMs : ∀ B pa S W W', M B pa W → Only S W W' → (∀ x ∈ S, x < B) → M B pa W') (hMm : ∀ B B' pa W, M B pa W → B' ≤ B → M B' pa W)
    (hN : ∀ W, Calls Try.prog 44 #[.agg (GC (Sn.headG f.body))] W fun x w' => ∃ pa, x = .returned (.tuple #[.pointer pa, .int .i64 er]) ∧ M W.heap.size pa w' ∧ Below W.heap.size W w') :
    Calls Try.prog 56 #[.agg (FC f)] w fun e w' => ∃ pa, e = .returned (.tuple #[.agg #[.int .i64 f.seq, .int .i64 f.epoch, .int .i64 (Sn.headN f.body), .pointer pa], .int .i64 er]) ∧ M w.heap.size pa w' ∧ Below w.heap.size w w' := by
  obtain ⟨BY, hBY⟩ : ∃ l, l = f.body := ⟨_, rfl⟩
  obtain ⟨q1, hq1⟩ : ∃ q, q = BY.drop 6 := ⟨_, rfl⟩
  obtain ⟨q2, hq2⟩ : ∃ q, q = q1.drop 1 := ⟨_, rfl⟩
  obtain ⟨q3, hq3⟩ : ∃ q, q = q2.drop 1 := ⟨_, rfl⟩
  obtain ⟨q4, hq4⟩ : ∃ q, q = q3.drop 1 := ⟨_, rfl⟩
  obtain ⟨q5, hq5⟩ : ∃ q, q = q4.drop 2 := ⟨_, rfl⟩
  obtain ⟨q6, hq6⟩ : ∃ q, q = q5.drop 1 := ⟨_, rfl⟩
  obtain ⟨q7, hq7⟩ : ∃ q, q = q6.drop 1 := ⟨_, rfl⟩
  have l0 : BY.length = 44 := by rw [hBY]; exact hb.1
  have l1 : q1.length = 38 := by rw [hq1, List.length_drop]; omega
  have l2 : q2.length = 37 := by rw [hq2, List.length_drop]; omega
  have l3 : q3.length = 36 := by rw [hq3, List.length_drop]; omega
  have l4 : q4.length = 35 := by rw [hq4, List.length_drop]; omega
  have l5 : q5.length = 33 := by rw [hq5, List.length_drop]; omega
  have l6 : q6.length = 32 := by rw [hq6, List.length_drop]; omega
  have he : Sn.headG f.body = ⟨Sn.n1 q1 0 1, Sn.n1 q2 0 1, Sn.n1 q3 0 1, Sn.n1 q4 0 2, Sn.n1 q5 0 1, Sn.n1 q6 0 1⟩ := by
    rw [hq6, hq5, hq4, hq3, hq2, hq1, hBY]
    simp only [n1_drop]
    rfl
  have hen : Sn.headN f.body = Sn.n1 BY 0 6 := by rw [hBY]; rfl
  obtain ⟨v0, hv0⟩ : ∃ v, v = Sn.n1 BY 0 6 := ⟨_, rfl⟩
  obtain ⟨v1, hv1⟩ : ∃ v, v = Sn.n1 q1 0 1 := ⟨_, rfl⟩
  obtain ⟨v2, hv2⟩ : ∃ v, v = Sn.n1 q2 0 1 := ⟨_, rfl⟩
  obtain ⟨v3, hv3⟩ : ∃ v, v = Sn.n1 q3 0 1 := ⟨_, rfl⟩
  obtain ⟨v4, hv4⟩ : ∃ v, v = Sn.n1 q4 0 2 := ⟨_, rfl⟩
  obtain ⟨v5, hv5⟩ : ∃ v, v = Sn.n1 q5 0 1 := ⟨_, rfl⟩
  obtain ⟨v6, hv6⟩ : ∃ v, v = Sn.n1 q6 0 1 := ⟨_, rfl⟩
  rw [← hv1, ← hv2, ← hv3, ← hv4, ← hv5, ← hv6] at he
  rw [← hv0] at hen
  have H0 := Lib.hid (fun B g W hR => rd_on (B := B) g BY q1 6 v0 6 W hR rfl (by omega) (by omega) (by omega) hq1 hv0)
  have H1 := Lib.hid (fun B g W hR => rd_on (B := B) g q1 q2 1 v1 1 W hR rfl (by omega) (by omega) (by omega) hq2 hv1)
  have H2 := Lib.hid (fun B g W hR => rd_on (B := B) g q2 q3 1 v2 1 W hR rfl (by omega) (by omega) (by omega) hq3 hv2)
  have H3 := Lib.hid (fun B g W hR => rd_on (B := B) g q3 q4 1 v3 1 W hR rfl (by omega) (by omega) (by omega) hq4 hv3)
  have H4 := Lib.hid (fun B g W hR => rd_on (B := B) g q4 q5 2 v4 2 W hR rfl (by omega) (by omega) (by omega) hq5 hv4)
  have H5 := Lib.hid (fun B g W hR => rd_on (B := B) g q5 q6 1 v5 1 W hR rfl (by omega) (by omega) (by omega) hq6 hv5)
  have H6 := Lib.hid (fun B g W hR => rd_on (B := B) g q6 q7 1 v6 1 W hR rfl (by omega) (by omega) (by omega) hq7 hv6)
  rw [he] at hN
  rw [hen]
  have HNEW := Lib.hid hN
  have HMS := Lib.hid hMs
  have HMM := Lib.hid hMm
  have HRN : Hid (∀ (W : World) (b : Nat), W.heap[b]? = some (.cells (FC f) 42 (0, 0)) → Calls Try.prog 77 #[.slice (some ⟨b, 5, none⟩) 44 44] W (NewRdPost BY W)) := Lib.hid (fun W b hr => by
    have hx := frame_body hr hb.2
    rw [← hBY] at hx
    have := rd_new (some ⟨b, 5, none⟩) BY 44 W hx (fun e => by cases e) (by omega)
    rwa [l0] at this)
  have HFC : Hid (∀ (W : World) (b : Nat), W.heap[b]? = some (.cells (FC f) 42 (0, 0)) → W.cell? ⟨b, 3, none⟩ = some (.int .i64 f.epoch) ∧ W.cell? ⟨b, 4, none⟩ = some (.int .i64 f.seq)) := Lib.hid (fun W b h => (frame_cells h).2.2.2)
  have HBS := Lib.hid (built_snap f.seq f.epoch v0)
  have HBG := Lib.hid (built_geo3 v1 v2 v3)
  obtain ⟨SX, hSX⟩ : ∃ SX : Option Addr → Array Value, SX = fun pa => #[.int .i64 f.seq, .int .i64 f.epoch, .int .i64 v0, .pointer pa] := ⟨_, rfl⟩
  have HSX := Lib.hid hSX
  rw [show (#[.int .i64 f.seq, .int .i64 f.epoch, .int .i64 v0, .pointer none] : Array Value) = SX none by rw [hSX]] at HBS
  have HSXI : Hid (∀ pa, (Try.prog.info? 28).map (·.size) = some (SX pa).size) := Lib.hid (fun pa => by rw [hSX]; exact (zero_of_info Try.infoSnap).2)
  have HSX1 : Hid (∀ pa, (SX pa).all (·.oneCell') = true) := Lib.hid (fun pa => by rw [hSX]; simp [Value.oneCell'])
  have HSXC : Hid (∀ (W : World) (b : Nat) pa, W.heap[b]? = some (.cells (SX pa) 28 (0, 0)) → W.cell? ⟨b, 3, none⟩ = some (.pointer pa)) := Lib.hid (fun W b pa h => (cell_of_row _ _ _ _ _ _ h).trans (by rw [hSX]; rfl))
  have HSXS : Hid (∀ pa, (SX none).setIfInBounds 3 (.pointer pa) = SX pa) := Lib.hid (fun pa => by rw [hSX]; rfl)
  obtain ⟨SZ, hSZ⟩ : ∃ SZ : Array Value, #[.int .i64 0, .int .i64 0, .int .i64 0, .pointer none] = SZ := ⟨_, rfl⟩
  have hzs := (zero_of_info Try.infoSnap).1
  rw [hSZ] at hzs
  have HSZX : Hid (∀ pa, SZ.size = (SX pa).size) := Lib.hid (fun pa => by rw [← hSZ, hSX]; rfl)
  have hzg := (zero_of_info Try.infoGeoZ).1
  have HGI := Lib.hid (fun g => gsize (g := g))
  have HG1 := Lib.hid (fun g => GC_one g)
  have HGZ : Hid (∀ g g' : Geo.G, (GC g).size = (GC g').size) := Lib.hid (fun g g' => rfl)
  clear hq1 hq2 hq3 hq4 hq5 hq6 hq7 l0 l1 l2 l3 l4 l5 l6 he hv0 hv1 hv2 hv3 hv4 hv5 hv6 hBY hN hMs hMm hb hSX hSZ hen
  obtain ⟨GX, hGX⟩ : ∃ GX : Int → Int → Int → Array Value, GX = fun a b c => GC ⟨v1, v2, v3, a, b, c⟩ := ⟨_, rfl⟩
  have HGX := Lib.hid hGX
  clear hGX
  obtain ⟨FX, hFX⟩ : ∃ FX, FC f = FX := ⟨_, rfl⟩
  rw [hFX] at HRN HFC ⊢
  clear hFX
  rw [show (fun e w' => ∃ pa, e = Ending.returned (.tuple #[.agg #[.int .i64 f.seq, .int .i64 f.epoch, .int .i64 v0, .pointer pa], .int .i64 er]) ∧ M w.heap.size pa w' ∧ Below w.heap.size w w') = (fun e w' => ∃ pa, e = Ending.returned (.tuple #[.agg (SX pa), .int .i64 er]) ∧ M w.heap.size pa w' ∧ Below w.heap.size w w') by rw [HSX.out]]
  have hB0 : Below w.heap.size w ((w.alloc (.cells FX 42)).alloc (.cells SZ 28)) := ((Below.refl _ _).alloc (Nat.le_refl _) _).alloc (by simp) _
  obtain ⟨W0, hW0⟩ : ∃ W0, (w.alloc (.cells FX 42)).alloc (.cells SZ 28) = W0 := ⟨_, rfl⟩
  have hF0 : W0.heap[w.heap.size]? = some (.cells FX 42 (0, 0)) := by rw [← hW0]; exact heap_alloc2_old w _ _
  have hZ0 : W0.heap[w.heap.size + 1]? = some (.cells SZ 28 (0, 0)) := by rw [← hW0]; exact heap_alloc2_new w _ _
  rw [hW0] at hB0
  have HW0 := Lib.hid hW0
  have z0 : w.heap.size + 1 < W0.heap.size := (Array.getElem?_eq_some_iff.1 hZ0).1
  clear hW0
  go_enter Try.func56, Try.ntmps56
  go_upto_region 1 with (fail)
  rw [HW0.out]
  go_wp2_with fail
  refine (HRN.out _ _ hF0).mono ?_
  rintro e1 w1 ⟨rg, rfl, hrg, hR1, hB1⟩
  have z1 := hB1.size
  have zrg := hR1.lt
  have HR1 := Lib.hid hR1
  have HF1 := Lib.hid ((hB1.block w.heap.size (by omega)).trans hF0)
  have HZ1 := Lib.hid ((hB1.block (w.heap.size + 1) z0).trans hZ0)
  have HB1 := Lib.hid (hB0.trans (hB1.mono hB0.size))
  clear hF0 hZ0 hB0 hR1 hB1
  go_upto_region 2 with (fail)
  refine wp_region_stage6 (S := [rg]) 8 [FactS.eq (.pointer (some ⟨w.heap.size, 4, none⟩)), FactS.eq (.int .i64 f.seq), FactS.eq (.pointer (some ⟨w.heap.size, 3, none⟩)), FactS.eq (.int .i64 f.epoch), FactS.eq (.pointer (some ⟨rg, 0, none⟩)), FactS.eq (.int .i64 v0), FactS.eq (.agg (SX none)), FactS.rowOf w1.heap.size SZ 28 (by simp; omega)] [5] [0, 0, 0, 0, 0, 1, 1, 0] (fun s W => ((s = 0 → RdAt W W0.heap.size rg BY false) ∧ (s = 1 → RdAt W W0.heap.size rg q1 false)) ∧ Only [rg] w1 W) ?raA (by kernel_rfl) (by kernel_rfl) (by kernel_rfl) ?rahA ?rah0 ?rahb ?raho ?rahend
  case rahA =>
    intro vv
    simp only [putRules, Nat.reduceAdd]
    rfl
  case rah0 =>
    exact ⟨⟨fun _ => HR1.out.below (Below.drew1 _), fun h => (by cases h)⟩, (Only.refl _ _).drew⟩
  case rahb =>
    intro s W W' hI hB
    exact ⟨⟨fun e => (hI.1.1 e).below hB, fun e => (hI.1.2 e).below hB⟩, hI.2.trans (Only.of_below hB)⟩
  case raho =>
    refine ⟨?_, ?_, ?_, ?_, ?_, ?_, ?_, ?_, trivial⟩
    · intro vv W K s hlo hI hd HK
      simp only [confRules, conf6Rules] at HK
      clear hd
      go_wp2
      refine HK.out _ _ (Below.refl _ _) ?_
      rfl
    · intro vv W K s hlo hI hd HK
      simp only [confRules, conf6Rules] at hd HK
      have h0 := hd
      clear hd
      simp only [h0] at HK ⊢
      clear h0
      obtain ⟨c3, c4⟩ := HFC.out _ _ (hI.2.get HF1.out (by simp; omega))
      clear c3
      go_wp2
      refine HK.out _ _ (Below.refl _ _) ?_
      rfl
    · intro vv W K s hlo hI hd HK
      simp only [confRules, conf6Rules] at HK
      clear hd
      go_wp2
      refine HK.out _ _ (Below.refl _ _) ?_
      rfl
    · intro vv W K s hlo hI hd HK
      simp only [confRules, conf6Rules] at hd HK
      have h2 := hd
      clear hd
      simp only [h2] at HK ⊢
      clear h2
      obtain ⟨c3, c4⟩ := HFC.out _ _ (hI.2.get HF1.out (by simp; omega))
      clear c4
      go_wp2
      refine HK.out _ _ (Below.refl _ _) ?_
      rfl
    · intro vv W K s hlo hI hd HK
      simp only [confRules, conf6Rules] at HK
      clear hd
      go_wp2
      refine HK.out _ _ (Below.refl _ _) ?_
      rfl
    · intro vv W K hI hd HK
      simp only [confRules, conf6Rules] at hd HK
      have h4 := hd
      clear hd
      simp only [h4] at HK ⊢
      clear h4
      have hT := hI.1.1 rfl
      go_wp2_with (refine (H0.out _ _ _ hT).mono ?_; rintro e w9 ⟨rfl, hR9, hO9⟩)
      refine HK.out _ _ ⟨(by simp; exact hR9), hI.2.trans hO9⟩ hO9 ?_
      rfl
    · intro vv W K s hlo hI hd HK
      simp only [confRules, conf6Rules] at hd HK
      obtain ⟨h1, h3, h5⟩ := hd
      simp only [h1, h3, h5] at HK ⊢
      clear h1 h3 h5
      go_wp2_with (refine wpList_build_on (by rfl) 28 _ rfl #[(0, .int .i64 f.seq), (1, .int .i64 f.epoch), (2, .int .i64 v0)] (by simp [Act.eval]) (SX none) HBS.out ?_)
      refine HK.out _ _ (Below.refl _ _) ?_
      rfl
    · intro vv W K s hlo hI hd HK
      simp only [confRules, conf6Rules] at HK
      clear hd
      go_wp2
      refine HK.out _ _ ((Below.refl _ _).alloc (Nat.le_refl _) _) ?_
      exact ⟨_, rfl, hI.2.size, heap_alloc_new _ _⟩
  case rahend =>
    intro vv W hI hf
    have e6 := hf 6 (by decide)
    simp only [conf6Rules] at e6
    have e7 := hf 7 (by decide)
    simp only [conf6Rules] at e7
    obtain ⟨g7, e7, l7, r7⟩ := e7
    simp only [e6, e7, dropRules]
    clear hf e6 e7
    have hO := hI.2
    have hRW := hI.1.2 rfl
    have hgs : rg < g7 := by omega
    have zs := hO.size
    have zg7 : g7 < W.heap.size := (Array.getElem?_eq_some_iff.1 r7).1
    obtain ⟨W2, hW2⟩ : ∃ W2, W.setRow g7 (SX none) = W2 := ⟨_, rfl⟩
    have hO2 : Only [g7] W W2 := by rw [← hW2]; exact only_setRow W g7 _
    have HS2 : Hid (W2.heap[g7]? = some (.cells (SX none) 28 (0, 0))) := Lib.hid (by rw [← hW2]; exact setRow_heap W g7 SZ (SX none) _ _ r7)
    have HR2 := Lib.hid (hRW.only hO2 (by simp; omega) (by simp; omega))
    have hO12 := hO.trans' hO2 (T := [g7]) (by simp; omega)
    have HO2 := Lib.hid hO12
    have HW2 := Lib.hid hW2
    have R7 := Lib.hid r7
    have z2 := hO2.size
    clear hI hRW hW2 hO2 r7 hO hO12
    go_upto_region 3 with (refine wpList_store_row rfl 28 _ _ rfl g7 (SX none) rfl rfl 28 SZ R7.out (HSXI.out _) (HSZX.out _) (HSX1.out _) ?_)
    rw [HW2.out]
    go_wp2_with fail
    refine (H1.out _ _ _ HR2.out).mono ?_
    rintro e3 w3 ⟨rfl, hR3, hO3⟩
    have z3 := hO3.size
    have HR3 := Lib.hid hR3
    have HS3 := Lib.hid (hO3.get HS2.out (by simp; omega))
    have HO3 := Lib.hid (HO2.out.trans hO3)
    clear hR3 hO3
    go_wp2_with fail
    refine (H2.out _ _ _ HR3.out).mono ?_
    rintro e4 w4 ⟨rfl, hR4, hO4⟩
    have z4 := hO4.size
    have HR4 := Lib.hid hR4
    have HS4 := Lib.hid (hO4.get HS3.out (by simp; omega))
    have HO4 := Lib.hid (HO3.out.trans hO4)
    clear hR4 hO4
    go_wp2_with fail
    refine (H3.out _ _ _ HR4.out).mono ?_
    rintro e5 w5 ⟨rfl, hR5, hO5⟩
    have z5 := hO5.size
    have HR5 := Lib.hid hR5
    have HS5 := Lib.hid (hO5.get HS4.out (by simp; omega))
    have HO5 := Lib.hid (HO4.out.trans hO5)
    clear hR5 hO5
    obtain ⟨W6, hW6⟩ : ∃ W6, w5.alloc (.cells (GC ⟨v1, v2, v3, 0, 0, 0⟩) 23) = W6 := ⟨_, rfl⟩
    obtain ⟨gb, hgb⟩ : ∃ gb, w5.heap.size = gb := ⟨_, rfl⟩
    have hb6 : Below w5.heap.size w5 W6 := by rw [← hW6]; exact (Below.refl _ _).alloc (Nat.le_refl _) _
    have HG6 : Hid (W6.heap[gb]? = some (.cells (GC ⟨v1, v2, v3, 0, 0, 0⟩) 23 (0, 0))) := Lib.hid (by rw [← hW6, ← hgb]; exact heap_alloc_new w5 _)
    have HR6 := Lib.hid (HR5.out.below hb6)
    have HS6 := Lib.hid ((hb6.block g7 (by omega)).trans HS5.out)
    have HO6 := Lib.hid (HO5.out.trans (Only.of_below (S := [rg]) hb6))
    have HW6 := Lib.hid hW6
    have HGB := Lib.hid hgb
    have zgb : g7 < gb := by omega
    have z6 : gb < W6.heap.size := (Array.getElem?_eq_some_iff.1 HG6.out).1
    clear hb6 hW6 hgb
    go_upto_region 4 with (first | (refine wpList_build_on (by rfl) 23 _ rfl #[(0, .int .i64 v1), (1, .int .i64 v2), (2, .int .i64 v3)] (by simp [Act.eval, Act.put]) (GC ⟨v1, v2, v3, 0, 0, 0⟩) HBG.out ?_) | (refine wpList_store_row rfl 23 _ _ rfl w5.heap.size (GC ⟨v1, v2, v3, 0, 0, 0⟩) rfl rfl 23 (GC ⟨0, 0, 0, 0, 0, 0⟩) (heap_alloc_new w5 _) (HGI.out _) (HGZ.out _ _) (HG1.out _) ?_; rw [World.setRow_alloc_new]))
    rw [HW6.out, HGB.out]
    go_wp2_with fail
    refine (H4.out _ _ _ HR6.out).mono ?_
    rintro e7 w7 ⟨rfl, hR7, hO7⟩
    have z7 := hO7.size
    have HR7 := Lib.hid hR7
    have HS7 := Lib.hid (hO7.get HS6.out (by simp; omega))
    have HO7 := Lib.hid (HO6.out.trans hO7)
    have HG7 := Lib.hid (hO7.get HG6.out (by simp; omega))
    clear hR7 hO7
    go_wp2_with fail
    refine (H5.out _ _ _ HR7.out).mono ?_
    rintro e8 w8 ⟨rfl, hR8, hO8⟩
    have z8 := hO8.size
    have HR8 := Lib.hid hR8
    have HS8 := Lib.hid (hO8.get HS7.out (by simp; omega))
    have HO8 := Lib.hid (HO7.out.trans hO8)
    have HG8 := Lib.hid (hO8.get HG7.out (by simp; omega))
    clear hR8 hO8
    go_wp2_with fail
    refine (H6.out _ _ _ HR8.out).mono ?_
    rintro e9 w9 ⟨rfl, hR9, hO9⟩
    have z9 := hO9.size
    have HR9 := Lib.hid hR9
    have HS9 := Lib.hid (hO9.get HS8.out (by simp; omega))
    have HO9 := Lib.hid (HO8.out.trans hO9)
    have HG9 := Lib.hid (hO9.get HG8.out (by simp; omega))
    clear hR9 hO9
    have hG9 := HG9.out
    obtain ⟨c0, c1, c2, c3, c4, c5⟩ := geo_cells hG9
    have f3 := frozen_of_row _ gb 3 _ _ hG9
    have f4 := frozen_of_row _ gb 4 _ _ hG9
    have f5 := frozen_of_row _ gb 5 _ _ hG9
    have s3 := heap_setCell_same _ gb 3 _ _ (.int .i64 v4) hG9
    have s4 := heap_setCell_same _ gb 4 _ _ (.int .i64 v5) s3
    have s5 := heap_setCell_same _ gb 5 _ _ (.int .i64 v6) s4
    obtain ⟨W10, hW10⟩ : ∃ W10, ((w9.setCell ⟨gb, 3, none⟩ (.int .i64 v4)).setCell ⟨gb, 4, none⟩ (.int .i64 v5)).setCell ⟨gb, 5, none⟩ (.int .i64 v6) = W10 := ⟨_, rfl⟩
    have hO10 : Only [gb] w9 W10 := by rw [← hW10]; exact (((Only.refl _ _).setCell (.inl (by simp)) _).setCell (.inl (by simp)) _).setCell (.inl (by simp)) _
    have hG10 : W10.heap[gb]? = some (.cells (GC ⟨v1, v2, v3, v4, v5, v6⟩) 23 (0, 0)) := by rw [← hW10]; exact s5
    have HS10 := Lib.hid (hO10.get HS9.out (by simp; omega))
    have HO10 := Lib.hid (HO9.out.trans' hO10 (by simp; omega))
    have HW10 := Lib.hid hW10
    have z10 := hO10.size
    clear s3 s4 s5 hG9 hW10 hO10
    go_upto_region 5 with (fail)
    rw [HW10.out]
    clear c0 c1 c2 c3 c4 c5 f3 f4 f5
    go_wp2_with (refine wpList_row_on (by rfl) 23 _ rfl gb rfl 23 _ _ _ hG10 Try.underlying23 rfl (HGI.out _) ?_)
    refine (HNEW.out _).mono ?_
    rintro e11 w11 ⟨pa, rfl, hM11, hB11⟩
    have z11 := hB11.size
    have hS11 := (hB11.block g7 (by omega)).trans HS10.out
    have c3 := HSXC.out _ _ _ hS11
    have f3 := frozen_of_row _ g7 3 _ _ hS11
    have s3 := heap_setCell_same _ g7 3 _ _ (.pointer pa) hS11
    rw [HSXS.out] at s3
    obtain ⟨W12, hW12⟩ : ∃ W12, w11.setCell ⟨g7, 3, none⟩ (.pointer pa) = W12 := ⟨_, rfl⟩
    rw [hW12] at s3
    have hO12 : Only [g7] w11 W12 := by rw [← hW12]; exact (Only.refl _ _).setCell (.inl (by simp)) _
    have hM12 := HMS.out _ _ _ _ _ hM11 hO12 (by simp; omega)
    have hOw12 := (HO10.out.trans (Only.of_below (S := [rg]) hB11)).trans' hO12 (T := [g7]) (by simp; omega)
    have hZ12 := hOw12.get HZ1.out (by simp; omega)
    have HZ12 := Lib.hid hZ12
    have HW12 := Lib.hid hW12
    have HM12 := Lib.hid hM12
    have HO12 := Lib.hid hOw12
    have z12 := hO12.size
    clear hM11 hB11 hS11 hM12 hOw12 hW12 hO12 hG10
    go_upto_region 7 with (fail)
    rw [HW12.out]
    clear c3 f3
    have hfin : ∀ W', W' = W12.setRow (w.heap.size + 1) (SX pa) → M w.heap.size pa W' ∧ Below w.heap.size w W' := by
      rintro W' rfl
      have hs : Only [w.heap.size + 1] W12 (W12.setRow (w.heap.size + 1) (SX pa)) := only_setRow _ _ _
      have hx := HO12.out.below (B := w.heap.size) (by simp; omega) HB1.out.size
      exact ⟨HMM.out _ _ _ _ (HMS.out _ _ _ _ _ HM12.out hs (by simp; omega)) (by omega), (HB1.out.trans hx).trans (hs.below (by simp) (by have := HB1.out.size; omega))⟩
    have HFIN := Lib.hid hfin
    clear hfin
    go_wp2_with (first | (refine wpList_row_on (by rfl) 28 _ rfl g7 rfl 28 _ _ _ s3 Try.underlying28 rfl (HSXI.out _) ?_) | (refine wpList_store_row rfl 28 _ _ rfl (w.heap.size + 1) (SX pa) rfl rfl 28 SZ hZ12 (HSXI.out _) (HSZX.out _) (HSX1.out _) ?_))
    refine bodyPost_ret (res_row_tmp rfl _ _ (w.heap.size + 1) 28 (SX pa) _ _ rfl (setRow_heap _ _ _ _ _ _ HZ12.out) Try.underlying28 rfl (HSXI.out _)) rfl ?_
    obtain ⟨m1, m2⟩ := HFIN.out _ rfl
    exact ⟨pa, rfl, m1, m2⟩
/-- the first frame, of a geometry that may be -/
theorem sbegin_yes (w : World) (f : Fr) (hb : Body f.body) (hg : Geo.right (Sn.headG f.body) = true) :
    Calls Try.prog 56 #[.agg (FC f)] w fun e w' => ∃ p le ll, e = .returned (.tuple #[.agg (SnC f.seq f.epoch (Sn.headN f.body) p), .int .i64 0]) ∧ (w.heap.size ≤ p ∧ w.heap.size ≤ le ∧ w.heap.size ≤ ll) ∧ BmIs w' p le ll (Sn.headG f.body).b.toNat (nz (Sn.headG f.body)) (Sn.headG f.body) (List.replicate (Sn.headG f.body).b.toNat BE.zero) (liveL (nz (Sn.headG f.body)) (List.replicate (Sn.headG f.body).b.toNat BE.zero)) ∧ Below w.heap.size w w' := by
  refine (sbegin_core w f hb 0 (fun B pa W => ∃ p le ll, pa = some ⟨p, 0, none⟩ ∧ (B ≤ p ∧ B ≤ le ∧ B ≤ ll) ∧ BmIs W p le ll (Sn.headG f.body).b.toNat (nz (Sn.headG f.body)) (Sn.headG f.body) (List.replicate (Sn.headG f.body).b.toNat BE.zero) (liveL (nz (Sn.headG f.body)) (List.replicate (Sn.headG f.body).b.toNat BE.zero))) ?_ ?_ ?_).mono ?_
  · rintro B pa S W W' ⟨p, le, ll, rfl, ⟨h1, h2, h3⟩, hm⟩ hO hS
    exact ⟨p, le, ll, rfl, ⟨h1, h2, h3⟩, hm.only hO (fun h => by have := hS _ h; omega) (fun h => by have := hS _ h; omega) (fun h => by have := hS _ h; omega)⟩
  · rintro B B' pa W ⟨p, le, ll, rfl, ⟨h1, h2, h3⟩, hm⟩ hB
    exact ⟨p, le, ll, rfl, ⟨by omega, by omega, by omega⟩, hm⟩
  · intro W
    refine (bnew_any _ hg W).mono ?_
    rintro e w' ⟨p, le, ll, rfl, hm, h1, h2, h3, hB⟩
    exact ⟨_, rfl, ⟨p, le, ll, rfl, ⟨h1, h2, h3⟩, hm⟩, hB⟩
  · rintro e w' ⟨pa, rfl, ⟨p, le, ll, rfl, h, hm⟩, hB⟩
    exact ⟨p, le, ll, rfl, h, hm, hB⟩
/-- the first frame, of none -/
theorem sbegin_no (w : World) (f : Fr) (hb : Body f.body) (hg : Geo.right (Sn.headG f.body) = false) :
    Calls Try.prog 56 #[.agg (FC f)] w fun e w' => e = .returned (.tuple #[.agg #[.int .i64 f.seq, .int .i64 f.epoch, .int .i64 (Sn.headN f.body), .pointer none], .int .i64 20]) ∧ Below w.heap.size w w' := by
  refine (sbegin_core w f hb 20 (fun B pa W => pa = none) ?_ ?_ ?_).mono ?_
  · rintro B pa S W W' rfl _ _
    rfl
  · rintro B B' pa W rfl _
    rfl
  · intro W
    refine (bnew_no _ hg W).mono ?_
    rintro e w' ⟨rfl, hB⟩
    exact ⟨none, rfl, rfl, hB⟩
  · rintro e w' ⟨pa, rfl, rfl, hB⟩
    exact ⟨rfl, hB⟩
end Go.Proofs.Ytjnneoejnpephaa
namespace Sn
open Go.Proofs.Ytjnneoejnpephaa Frm
/-- what is left of filling, from the k-th entry on -/
def fillFrom (g : Geo.G) (i : Nat) (body : List Nat) : Nat → List BE → Option (List BE)
  | 0, es => fillE g es i body
  | 1, es => setAt g es (2 * i + 1) (ent body 17)
  | _ + 2, es => some es
theorem fillFrom_step (g : Geo.G) (i : Nat) (body : List Nat) (es : List BE) : ∀ k, k < 2 → fillFrom g i body k es = (setAt g es (2 * i + k) (ent body (1 + 16 * k))).bind (fillFrom g i body (k + 1))
  | 0, _ => rfl
  | 1, _ => by
    show setAt g es (2 * i + 1) (ent body 17) = (setAt g es (2 * i + 1) (ent body 17)).bind fun es => some es
    cases setAt g es (2 * i + 1) (ent body 17) <;> rfl
theorem fillFrom_out (g : Geo.G) (i : Nat) (body : List Nat) (es : List BE) : ∀ k, es.length ≤ 2 * i + k → fillFrom g i body k es = some es
  | 0, h => by
    show (setAt g es (2 * i) (ent body 1)).bind _ = _
    unfold setAt
    rw [if_pos (by omega)]
    show (if es.length ≤ 2 * i + 1 then some es else _) = _
    rw [if_pos (by omega)]
  | 1, h => by
    show setAt g es (2 * i + 1) (ent body 17) = _
    unfold setAt
    rw [if_pos (by omega)]
  | _ + 2, _ => rfl
end Sn
namespace Go.Proofs.Ytjnneoejnpephaa
open Go.RowKit Go.Rv Frm
set_option linter.unusedVariables false
attribute [local go_sem] Oper.semAt_some
theorem gfield_b (g : Geo.G) (w : World) : (Instr.field 23 (.agg (GC g)) 3).run Try.prog w = .ok (.int .i64 g.b) w := by kernel_rfl
/-- what fill tells -/
def FillPost (w : World) (p le ll ce cl : Nat) (g : Geo.G) (o : Option (List BE)) (e : Ending) (w' : World) : Prop :=
  Only [le, ll] w w' ∧ ((∃ es, o = some es ∧ e = .returned (.int .i64 0) ∧ BmIs w' p le ll ce cl g es (liveL (nz g) es)) ∨ (o = none ∧ e = .returned (.int .i64 10)))
set_option maxRecDepth 100000 in
set_option maxHeartbeats 8000000 in
theorem sfill_any (w : World) (p le ll ce cl : Nat) (g : Geo.G) (es0 : List BE) (hg : Geo.right g = true) (hM0 : MapOk g es0) (h : BmIs w p le ll ce cl g es0 (liveL (nz g) es0)) (gen epoch next : Int) (f : Fr) (hb : Body f.body) (i : Nat) (hi : f.off = (i : Int) + 1) (hi2 : i ≤ 200) :
    Calls Try.prog 57 #[.agg (SnC gen epoch next p), .agg (FC f)] w (FillPost w p le ll ce cl g (Sn.fillE g es0 i f.body)) := by
  obtain ⟨X, hX⟩ : ∃ X, f.off = X := ⟨_, rfl⟩
  rw [hX] at hi
  obtain ⟨BY, hBY⟩ : ∃ l, l = f.body := ⟨_, rfl⟩
  have l0 : BY.length = 44 := by rw [hBY]; exact hb.1
  have hlt0 := h.lt
  have hsm := ((Geo.right_iff g).1 hg).1
  have hX1 : 1 ≤ X := by omega
  have hX2 : X ≤ 201 := by omega
  have HXI : Hid (∀ k : Nat, (2 * (X - 1) + (k : Int)) = ((2 * i + k : Nat) : Int)) := Lib.hid (fun k => by omega)
  have HRN : Hid (∀ (W : World) (b : Nat), W.heap[b]? = some (.cells (FC f) 42 (0, 0)) → Calls Try.prog 77 #[.slice (some ⟨b, 6, none⟩) 43 43] W (NewRdPost (BY.drop 1) W)) := Lib.hid (fun W b hr => by
    have hx := (frame_body hr hb.2).drop 1
    rw [← hBY] at hx
    have := rd_new (some ⟨b, 6, none⟩) (BY.drop 1) 43 W hx (fun e => by cases e) (by rw [List.length_drop]; omega)
    rwa [List.length_drop, l0] at this)
  have HFC : Hid (∀ (W : World) (b : Nat), W.heap[b]? = some (.cells (FC f) 42 (0, 0)) → W.cell? ⟨b, 2, none⟩ = some (.int .i64 X)) := Lib.hid (fun W b h => by rw [← hX]; exact (frame_cells h).2.2.1)
  have HTK : Hid (∀ (B rg k : Nat) (W : World), k < 2 → RdAt W B rg (BY.drop (1 + 16 * k)) false → Calls Try.prog 79 #[.pointer (some ⟨rg, 0, none⟩)] W fun e w' => e = .returned (.agg (BEC (Sn.ent BY (1 + 16 * k)))) ∧ RdAt w' B rg (BY.drop (1 + 16 * (k + 1))) false ∧ Only [rg] W w') := Lib.hid (fun B rg k W hk hR => by
    have := stake_any (B := B) rg (BY.drop (1 + 16 * k)) W hR (by rw [List.length_drop]; omega)
    rw [ent_drop, List.drop_drop] at this
    exact this)
  have HE64 : Hid (∀ o, E64 (Sn.ent BY o)) := Lib.hid (fun o => Sn.ent_64 (by rw [hBY]; exact hb.2) o)
  have HGE := Lib.hid (fun (W : World) (es : List BE) hW => bgeom_any W p le ll ce cl g es (liveL (nz g) es) hW)
  have HST := Lib.hid (fun (W : World) (es : List BE) hM hW (k : Int) e hn => bset_any W p le ll ce cl g es hg hM hW k e hn)
  have HSC := Lib.hid (fun (W : World) (b : Nat) hh => sn_cells (w := W) (b := b) (gen := gen) (epoch := epoch) (next := next) (p := p) (t := 28) hh)
  have hgb : ∀ es : List BE, MapOk g es → g.b = (es.length : Nat) := fun es hM => hM.len.symm
  have HGB := Lib.hid hgb
  have hIE := fun e => esize e
  have HIE := Lib.hid hIE
  have HON := Lib.hid (fun e => BEC_one e)
  have HSZ : Hid (∀ e e' : BE, (BEC e').size = (BEC e).size) := Lib.hid (fun e e' => by rw [BEC_size, BEC_size])
  have hze := (zero_of_info Try.infoEnt).1
  have HMO := Lib.hid hM0
  have HFS := Lib.hid (fun es k (hk : k < 2) => Sn.fillFrom_step g i BY es k hk)
  have HFO := Lib.hid (fun es k hk => Sn.fillFrom_out g i BY es k hk)
  have hres : Sn.fillE g es0 i f.body = Sn.fillFrom g i BY 0 es0 := by rw [hBY]; rfl
  rw [hres]
  obtain ⟨RS, hRS⟩ : ∃ RS, Sn.fillFrom g i BY 0 es0 = RS := ⟨_, rfl⟩
  rw [hRS]
  have HRS := Lib.hid hRS
  have HH := Lib.hid h
  have HGF : Hid (∀ es : List BE, MapOk g es → ∀ w : World, (Instr.field 23 (.agg (GC g)) 3).run Try.prog w = .ok (.int .i64 (es.length : Nat)) w) := Lib.hid (fun es hM w => by rw [gfield_b, hgb es hM])
  clear h hM0 hi hX hBY l0 hb hgb hIE hres hRS hg hsm
  obtain ⟨CF, hCF⟩ : ∃ CF, FC f = CF := ⟨_, rfl⟩
  obtain ⟨C, hC⟩ : ∃ C, SnC gen epoch next p = C := ⟨_, rfl⟩
  rw [hCF] at HRN HFC ⊢
  rw [hC] at HSC ⊢
  clear hCF hC
  have hB0 : Below w.heap.size w ((w.alloc (.cells C 28)).alloc (.cells CF 42)) := ((Below.refl _ _).alloc (Nat.le_refl _) _).alloc (by simp) _
  obtain ⟨W0, hW0⟩ : ∃ W0, (w.alloc (.cells C 28)).alloc (.cells CF 42) = W0 := ⟨_, rfl⟩
  have hS0 : W0.heap[w.heap.size]? = some (.cells C 28 (0, 0)) := by rw [← hW0]; exact heap_alloc2_old w _ _
  have hF0 : W0.heap[w.heap.size + 1]? = some (.cells CF 42 (0, 0)) := by rw [← hW0]; exact heap_alloc2_new w _ _
  rw [hW0] at hB0
  have HW0 := Lib.hid hW0
  have z0 : w.heap.size + 1 < W0.heap.size := (Array.getElem?_eq_some_iff.1 hF0).1
  clear hW0
  go_enter Try.func57, Try.ntmps57
  go_upto_region 1 with (fail)
  rw [HW0.out]
  go_wp2_with fail
  refine (HRN.out _ _ hF0).mono ?_
  rintro e1 w1 ⟨rg, rfl, hrg, hR1, hB1⟩
  have z1 := hB1.size
  have zrg := hR1.lt
  have HR1 := Lib.hid hR1
  have HF1 := Lib.hid ((hB1.block (w.heap.size + 1) z0).trans hF0)
  have HS1 := Lib.hid ((hB1.block w.heap.size (by omega)).trans hS0)
  have HB1 := Lib.hid (hB0.trans (hB1.mono hB0.size))
  have HM1 := Lib.hid (HH.out.below HB1.out)
  obtain ⟨B0, hB0'⟩ : ∃ B0, W0.heap.size = B0 := ⟨_, rfl⟩
  rw [hB0'] at HR1 hrg z0 z1
  clear hF0 hS0 hB0 hR1 hB1 hB0'
  go_wp2
  go_loopw [13] (fun u wr => ∃ (k : Nat) (es : List BE), k ≤ 2 ∧ u = .int .i64 k ∧ Sn.fillFrom g i BY k es = RS ∧ MapOk g es ∧ RdAt wr B0 rg (BY.drop (1 + 16 * k)) false ∧ BmIs wr p le ll ce cl g es (liveL (nz g) es) ∧ wr.heap[w.heap.size]? = some (.cells C 28 (0, 0)) ∧ wr.heap[w.heap.size + 1]? = some (.cells CF 42 (0, 0)) ∧ Only [le, ll] w wr ∧ rg < wr.heap.size) (fun u _ => 2 - (intOf u).toNat)
  case atStart => exact ⟨0, es0, by omega, rfl, HRS.out, HMO.out, HR1.out, HM1.out, HS1.out, HF1.out, Only.of_below HB1.out, zrg⟩
  case round =>
    obtain ⟨k, es, hk, rfl, hfr, hM, hR, hbm, hS, hF, hO, zr⟩ := hrel
    have HFR := Lib.hid hfr
    have HM := Lib.hid hM
    have HR := Lib.hid hR
    have HBM := Lib.hid hbm
    have HS := Lib.hid hS
    have HF := Lib.hid hF
    have HO := Lib.hid hO
    clear hfr hM hR hbm hS hF hO
    by_cases hlt : k < 2
    · have HT1 : Hid (∀ W, RdAt W B0 rg (BY.drop (1 + 16 * k)) false → Calls Try.prog 79 #[.pointer (some ⟨rg, 0, none⟩)] W fun e w' => e = .returned (.agg (BEC (Sn.ent BY (1 + 16 * k)))) ∧ RdAt w' B0 rg (BY.drop (1 + 16 * (k + 1))) false ∧ Only [rg] W w') := Lib.hid (fun W hW => HTK.out B0 rg k W hlt hW)
      have HEN := Lib.hid (HE64.out (1 + 16 * k))
      have HST1 := Lib.hid (HFS.out es k hlt)
      obtain ⟨EE, hEE⟩ : ∃ EE, Sn.ent BY (1 + 16 * k) = EE := ⟨_, rfl⟩
      obtain ⟨Q1, hQ1⟩ : ∃ Q1, BY.drop (1 + 16 * k) = Q1 := ⟨_, rfl⟩
      obtain ⟨Q2, hQ2⟩ : ∃ Q2, BY.drop (1 + 16 * (k + 1)) = Q2 := ⟨_, rfl⟩
      rw [hEE, hQ1, hQ2] at HT1
      rw [hEE] at HEN HST1
      rw [hQ1] at HR
      have HQ2 := Lib.hid hQ2
      clear hEE hQ1 hQ2
      have t0 : decide ((k : Int) < 2) = true := decide_eq_true (by omega)
      go_upto_region 5 with (fail)
      clear t0
      refine wp_region_stage7 10 [.pointer (some ⟨rg, 0, none⟩), .agg (BEC EE), .pointer (some ⟨w.heap.size + 1, 2, none⟩), .int .i64 X, .int .i64 (X - 1), .int .i64 (2 * (X - 1)), .int .i64 (k : Nat), .int .i64 (2 * (X - 1) + (k : Nat)), undef, undef] [1] [0, 1, 0, 0, 0, 0, 0, 0, 0, 1] (fun s W => ((s = 0 → RdAt W B0 rg Q1 false) ∧ (s = 1 → RdAt W B0 rg Q2 false)) ∧ Only [rg] wr W) [rg] wr.heap.size 8 9 (BEC BE.zero) (BEC EE) 46 (by simp; omega) ?raA (by kernel_rfl) (by kernel_rfl) (by kernel_rfl) (by kernel_rfl) ?rahA ?rah0 ?rahb ?rahs ?raho ?rahend
      case rahA =>
        intro vv
        simp only [putRules, Nat.reduceAdd]
        rfl
      case rah0 =>
        exact ⟨⟨fun _ => HR.out.below (Below.drew1 _), fun h => (by cases h)⟩, (Only.refl _ _).drew⟩
      case rahb =>
        intro s W W' hI hB
        exact ⟨⟨fun e => (hI.1.1 e).below hB, fun e => (hI.1.2 e).below hB⟩, hI.2.trans (Only.of_below hB)⟩
      case rahs =>
        intro s W g hI hg
        have hs := only_setRow W g (BEC EE)
        exact ⟨⟨fun e => (hI.1.1 e).only hs (by simp; omega) (by simp; omega), fun e => (hI.1.2 e).only hs (by simp; omega) (by simp; omega)⟩, hI.2.trans' hs (by simp; omega)⟩
      case raho =>
        refine ⟨?_, ?_, ?_, ?_, ?_, ?_, ?_, ?_, ?_, ?_, trivial⟩
        · intro vv W K s hlo hI hd HK
          simp only [conf7Rules] at HK
          clear hd
          go_wp2
          refine HK.out _ _ (Below.refl _ _) ?_
          rfl
        · intro vv W K hI hd HK
          simp only [confRules, conf7Rules, cond7] at hd HK
          have h0 := hd
          clear hd
          simp only [h0] at HK ⊢
          clear h0
          have hT := hI.1.1 rfl
          go_wp2_with (refine (HT1.out _ hT).mono ?_; rintro e w9 ⟨rfl, hR9, hO9⟩)
          refine HK.out _ _ ⟨(by simp; exact hR9), hI.2.trans hO9⟩ hO9 ?_
          rfl
        · intro vv W K s hlo hI hd HK
          simp only [conf7Rules] at HK
          clear hd
          go_wp2
          refine HK.out _ _ (Below.refl _ _) ?_
          rfl
        · intro vv W K s hlo hI hd HK
          simp only [confRules, conf7Rules, cond7] at hd HK
          have h2 := hd
          clear hd
          simp only [h2] at HK ⊢
          clear h2
          have c2 := HFC.out _ _ (hI.2.get HF.out (by simp; omega))
          go_wp2
          refine HK.out _ _ (Below.refl _ _) ?_
          rfl
        · intro vv W K s hlo hI hd HK
          simp only [confRules, conf7Rules, cond7] at hd HK
          have h3 := hd
          clear hd
          simp only [h3] at HK ⊢
          clear h3
          go_wp2
          refine HK.out _ _ (Below.refl _ _) ?_
          rfl
        · intro vv W K s hlo hI hd HK
          simp only [confRules, conf7Rules, cond7] at hd HK
          have h4 := hd
          clear hd
          simp only [h4] at HK ⊢
          clear h4
          go_wp2
          refine HK.out _ _ (Below.refl _ _) ?_
          rfl
        · intro vv W K s hlo hI hd HK
          simp only [conf7Rules] at HK
          clear hd
          go_wp2
          refine HK.out _ _ (Below.refl _ _) ?_
          rfl
        · intro vv W K s hlo hI hd HK
          simp only [confRules, conf7Rules, cond7] at hd HK
          obtain ⟨h5, h6⟩ := hd
          simp only [h5, h6] at HK ⊢
          clear h5 h6
          go_wp2
          refine HK.out _ _ (Below.refl _ _) ?_
          rfl
        · intro vv W K s hI hd HK
          simp only [] at HK
          clear hd
          go_wp2
          have hz := hI.2.size
          exact HK.out _ _ hz ((Below.refl _ _).alloc (Nat.le_refl _) _) (heap_alloc_new _ _)
        · intro vv W K s g hlo hI hg hr hp hd HK
          simp only [confRules, conf7Rules, cond7] at hd HK
          obtain ⟨h1, _, h0, _⟩ := hd
          simp only [hp, h0, h1] at HK ⊢
          clear h0 h1
          go_wp2_with (refine wpList_store_row rfl 46 _ _ rfl g (BEC EE) rfl rfl 46 (BEC BE.zero) hr (HIE.out _) (HSZ.out _ _) (HON.out _) ?_)
          refine HK.out _ _ rfl ?_
          rfl
      case rahend =>
        intro vv W g8 hI hf e8 l8 r8
        have e7 := hf 7 (by decide) (by decide)
        simp only [conf7Rules] at e7
        simp only [e7, e8, dropRules]
        clear hf e8 e7
        have hO5 := hI.2
        have hR5 := hI.1.2 rfl
        have zW := hO5.size
        have zg8 : g8 < W.heap.size := (Array.getElem?_eq_some_iff.1 r8).1
        have hE6 := r8
        have hOs : Only [rg] wr W := hO5
        have HR6 := Lib.hid hR5
        have HBM6 := Lib.hid (HBM.out.only hOs (by simp; omega) (by simp; omega) (by simp; omega))
        have HS6 := Lib.hid (hOs.get HS.out (by simp; omega))
        have HF6 := Lib.hid (hOs.get HF.out (by simp; omega))
        have hzO := HO.out.size
        have HO6 := Lib.hid (HO.out.trans' hOs (by simp; omega))
        have HE6 := Lib.hid hE6
        have zz6 := hOs.size
        obtain ⟨bX, hbX⟩ : ∃ bX : Int, 2 * (X - 1) + (k : Int) = bX := ⟨_, rfl⟩
        have hbN : bX = ((2 * i + k : Nat) : Int) := by rw [← hbX]; exact HXI.out k
        have HBX := Lib.hid hbX
        have HBN := Lib.hid hbN
        clear hbX hbN
        clear hI hO5 hR5 hOs r8
        go_upto_region 6 with (fail)
        obtain ⟨-, -, -, c3⟩ := HSC.out _ _ HS6.out
        go_wp2_with fail
        refine (HGE.out _ _ HBM6.out).mono ?_
        rintro e7 w7 ⟨rfl, hB7⟩
        have z7 := hB7.size
        have HR7 := Lib.hid (HR6.out.below hB7)
        have HBM7 := Lib.hid (HBM6.out.below hB7)
        have HS7 := Lib.hid ((hB7.block w.heap.size (by omega)).trans HS6.out)
        have HF7 := Lib.hid ((hB7.block (w.heap.size + 1) (by omega)).trans HF6.out)
        have hE7 := (hB7.block g8 (by omega)).trans HE6.out
        have HO7 := Lib.hid (HO6.out.trans (Only.of_below (S := [le, ll]) hB7))
        clear hB7 c3 hE6
        have hfd := HGF.out es HM.out
        rw [HBX.out]
        have hbn1 : bX ≤ ((2 * i + k : Nat) : Int) := by rw [HBN.out]; exact Int.le_refl _
        have hbn2 : ((2 * i + k : Nat) : Int) ≤ bX := by rw [HBN.out]; exact Int.le_refl _
        by_cases hin : bX < (es.length : Int)
        · have t1 : decide ((es.length : Int) ≤ bX) = false := decide_eq_false (by omega)
          have hnn : 0 ≤ bX := by omega
          have hnotlen : ¬ es.length ≤ 2 * i + k := by omega
          obtain ⟨-, -, -, c3⟩ := HSC.out _ _ HS7.out
          have HSET := Lib.hid (HST.out w7 es HM.out HBM7.out bX EE HEN.out)
          have hse : setErr g es bX EE = if beRight g EE = true then 0 else 10 := by unfold setErr; rw [if_neg (by omega)]
          have hss : setEs g es bX EE = if beRight g EE = true then es.set (2 * i + k) EE else es := by unfold setEs; rw [if_neg (by omega)]; rw [show bX.toNat = 2 * i + k by omega]
          have hsa : Sn.setAt g es (2 * i + k) EE = if beRight g EE = true then some (es.set (2 * i + k) EE) else none := by unfold Sn.setAt; rw [if_neg hnotlen]
          rw [hse, hss] at HSET
          rw [hsa] at HST1
          clear hse hss hsa hin hnotlen
          by_cases hbr : beRight g EE = true
          · rw [if_pos hbr] at HSET HST1
            rw [if_pos hbr] at HSET
            have HMN := Lib.hid (HM.out.set hbr HEN.out (2 * i + k))
            have HFN : Hid (Sn.fillFrom g i BY (k + 1) (es.set (2 * i + k) EE) = RS) := Lib.hid (by rw [← HFR.out, HST1.out]; rfl)
            obtain ⟨esN, hesN⟩ : ∃ esN, es.set (2 * i + k) EE = esN := ⟨_, rfl⟩
            rw [hesN] at HSET HMN HFN
            clear hbr hesN hnn hbn1 hbn2
            go_wp2_with (refine wpList_row_on (by rfl) 46 _ rfl g8 rfl 46 _ _ _ hE7 Try.underlying46 rfl (HIE.out _) ?_)
            refine HSET.out.mono ?_
            rintro e8 w8 ⟨rfl, hbm8, hO8⟩
            have HBM8 := Lib.hid hbm8
            have HR8 := Lib.hid (HR7.out.only hO8 (by simp; omega) (by simp; omega))
            have HS8 := Lib.hid (hO8.get HS7.out (by simp; omega))
            have HF8 := Lib.hid (hO8.get HF7.out (by simp; omega))
            have HO8 := Lib.hid (HO7.out.trans hO8)
            have z8 := hO8.size
            clear hbm8 hO8 c3 t1
            go_wp2
            go_roundw
            case rel => exact ⟨k + 1, esN, by omega, by go_num, HFN.out, HMN.out, by rw [HQ2.out]; exact HR8.out, HBM8.out, HS8.out, HF8.out, HO8.out, by omega⟩
            case measure => simp [intOf]; omega
          · rw [if_neg hbr] at HSET HST1
            rw [if_neg hbr] at HSET
            have HFN : Hid (RS = none) := Lib.hid (by rw [← HFR.out, HST1.out]; rfl)
            clear hbr hnn hbn1 hbn2
            go_wp2_with (refine wpList_row_on (by rfl) 46 _ rfl g8 rfl 46 _ _ _ hE7 Try.underlying46 rfl (HIE.out _) ?_)
            refine HSET.out.mono ?_
            rintro e8 w8 ⟨rfl, -, hO8⟩
            have HO8 := Lib.hid (HO7.out.trans hO8)
            clear hO8 c3 t1
            go_wp2
            go_ret
            exact ⟨HO8.out, .inr ⟨HFN.out, rfl⟩⟩
        · have t1 : decide ((es.length : Int) ≤ bX) = true := decide_eq_true (by omega)
          have HFN : Hid (RS = some es) := Lib.hid (by rw [← HFR.out]; exact HFO.out es k (by omega))
          clear hin hbn1 hbn2
          go_wp2
          go_ret
          exact ⟨HO7.out, .inl ⟨es, HFN.out, rfl, HBM7.out⟩⟩
    · obtain rfl : k = 2 := by omega
      have HFN : Hid (RS = some es) := Lib.hid HFR.out.symm
      go_wp2
      go_ret
      exact ⟨HO.out, .inl ⟨es, HFN.out, rfl, HBM.out⟩⟩
end Go.Proofs.Ytjnneoejnpephaa
namespace Sn
open Go.Proofs.Ytjnneoejnpephaa Frm
def S.er (s : S) (zone : Int) : Int := if s.ok zone = true then 0 else 10
def S.fr (s : S) (zone : Int) : List Fr := if s.ok zone = true then s.frames zone else []
theorem wf64 {x : Int} (h : -9223372036854775808 ≤ x ∧ x ≤ 9223372036854775807) : (Go.Lit.int .i64 x).wf = true := by
  simp [Go.Lit.wf, Go.IntKind.min, Go.IntKind.max, Go.IntKind.signed, Go.IntKind.bits]
  omega
theorem pad_body {l : List Nat} (h : l.length ≤ 44) (hl : ∀ c ∈ l, c < 256) : Body (pad44 l) := ⟨pad44_length h, fun c hc => by
  unfold pad44 at hc
  rcases List.mem_append.1 hc with hc | hc
  · exact hl c hc
  · rw [(List.mem_replicate.1 hc).2]; omega⟩
theorem headB_lt (next : Int) (g : Geo.G) : ∀ c ∈ headB next g, c < 256 := by
  intro c hc
  simp only [headB, List.mem_append] at hc
  rcases hc with (((((hc | hc) | hc) | hc) | hc) | hc) | hc <;> exact Cod.leN_lt _ _ c hc
theorem entB_lt (e : BE) : ∀ c ∈ entB e, c < 256 := by
  intro c hc
  simp only [entB, List.mem_append] at hc
  rcases hc with ((((hc | hc) | hc) | hc) | hc) | hc <;> exact Cod.leN_lt _ _ c hc
theorem partB_lt (es : List BE) (i : Nat) : ∀ c ∈ partB es i, c < 256 := by
  intro c hc
  simp only [partB, partK, List.mem_append, List.mem_flatMap] at hc
  rcases hc with hc | ⟨t, _, hc⟩
  · exact Cod.leN_lt _ _ c hc
  · exact entB_lt _ c hc
/-- a snapshot's frames are right -/
theorem frames_right {s : S} {zone : Int} (hg : Geo.right s.g = true) (hk : s.ok zone = true) : ∀ f ∈ s.frames zone, Body f.body ∧ Num64 f ∧ rightF f = true := by
  obtain ⟨gen, epoch, next, g, es⟩ := s
  have hs := ((Geo.right_iff _).1 hg).1
  have hn := nParts_64 hg
  simp only [S.ok, S.right, Bool.and_eq_true] at hk
  obtain ⟨⟨a1, a2⟩, ⟨b1, b2⟩, n1, n2⟩ := nums_iff.1 (right_iff.1 hk.1).1
  have hz := hk.2
  simp only [holdsG, Bool.and_eq_true, Geo.inB_iff] at hz
  obtain ⟨-, ⟨z1, z2⟩, -⟩ := hz
  have hd := Geo.dz_bd hs
  have key : ∀ (k : Int) (o : Nat) (b : List Nat), 1 ≤ k ∧ k ≤ 5 → o ≤ 64 → Body b → Body (⟨k, zone, o, epoch, gen, b⟩ : Fr).body ∧ Num64 ⟨k, zone, o, epoch, gen, b⟩ ∧ rightF ⟨k, zone, o, epoch, gen, b⟩ = true := by
    intro k o b hk ho hb
    refine ⟨hb, ⟨wf64 ?_, wf64 ?_, wf64 ?_, wf64 ?_, wf64 ?_⟩, ?_⟩
    · show _ ≤ k ∧ k ≤ _; omega
    · show _ ≤ zone ∧ zone ≤ _; simp only at z1 z2 hd; omega
    · show _ ≤ (o : Int) ∧ (o : Int) ≤ _; omega
    · show _ ≤ epoch ∧ epoch ≤ _; omega
    · show _ ≤ gen ∧ gen ≤ _; omega
    · simp only [rightF, decide_eq_true_eq]
      simp only at z1 z2 hd
      omega
  intro f hf
  simp only [S.frames, Sn.frames, List.mem_cons, List.mem_map, List.mem_range] at hf
  rcases hf with rfl | ⟨i, hi, rfl⟩
  · exact key 4 0 _ (by omega) (by omega) (pad_body (by rw [headB_length]; omega) (headB_lt _ _))
  · exact key 5 (i + 1) _ (by omega) (by simp only at hn; omega) (pad_body (by rw [partB_length]; omega) (partB_lt _ _))
end Sn
namespace Go.Rv
open Go.RowKit
theorem RowOf.range {α : Type} {w : World} {n : Nat} {X : α → Array Value} {Q : α → Prop} {b o : Nat} {xs : List α} (h : RowOf w n X Q (some ⟨b, o, none⟩) xs) {k : Nat} {x : α} (hk : xs[k]? = some x) (hs : (X x).size = n) : w.rangeAt b (o + k * n) (X x).toList := by
  obtain ⟨b', o', e, -, hc, -⟩ := h.at hk
  cases e
  intro j v hv
  have hj : j < n := by have := (List.getElem?_eq_some_iff.1 hv).1; rw [Array.length_toList, hs] at this; exact this
  rw [hc j hj, ← Array.getElem?_toList]
  exact hv
end Go.Rv
namespace Go.Proofs.Ytjnneoejnpephaa
open Go.RowKit Go.Rv Frm
set_option linter.unusedVariables false
attribute [local go_sem] Oper.semAt_some
/-- a snapshot's map in memory -/
structure SnIs (w : World) (p le ll ce cl : Nat) (s : Sn.S) : Prop where
  bm : BmIs w p le ll ce cl s.g s.es (liveL (nz s.g) s.es)
  hg : Geo.right s.g = true
  ok : MapOk s.g s.es
theorem SnIs.below {w w' : World} {p le ll ce cl : Nat} {s : Sn.S} (h : SnIs w p le ll ce cl s) (hB : Below w.heap.size w w') : SnIs w' p le ll ce cl s := ⟨h.bm.below hB, h.hg, h.ok⟩
def SC (s : Sn.S) (p : Nat) : Array Value := SnC s.gen s.epoch s.next p
/-- what Frames tells -/
def FramesPost (w : World) (s : Sn.S) (zone : Int) (e : Ending) (w' : World) : Prop := ∃ v, e = .returned (.tuple #[v, .int .i64 (s.er zone)]) ∧ OwnM w' 42 49 FC (fun f => f.body.length = 44) w.heap.size v (s.fr zone) ∧ Below w.heap.size w w'
theorem sframes_any (w : World) (p le ll ce cl : Nat) (s : Sn.S) (h : SnIs w p le ll ce cl s) (zone : Int) :
    Calls Try.prog 17 #[.agg (SC s p), .int .i64 zone] w (FramesPost w s zone) := by
  have hsm := ((Geo.right_iff _).1 h.hg).1
  have hes : s.es.length ≤ 100000 := by have h1 := h.ok.len; have := hsm.2.2.2.1.2; omega
  unfold FramesPost Sn.S.er Sn.S.fr
  by_cases hk : s.ok zone = true
  · simp only [hk, if_true]
    have hk' := hk
    simp only [Sn.S.ok, Sn.S.right, Bool.and_eq_true] at hk'
    exact sframes_yes w p le ll ce cl s.g s.es _ h.bm h.ok h.hg s.gen s.epoch s.next zone hk'.1 hk'.2
  · simp only [hk]
    refine (sframes_no w p le ll ce cl s.g s.es _ h.bm hes s.gen s.epoch s.next zone _ rfl ?_).mono ?_
    · simp only [Sn.S.ok, Sn.S.right, Bool.and_eq_true] at hk
      cases hr : Sn.right s.gen s.epoch s.next s.es
      · exact .inl rfl
      · cases hh : holdsG s.g zone 0
        · exact .inr ⟨rfl, rfl⟩
        · exact absurd ⟨hr, hh⟩ hk
    · rintro e w' ⟨rfl, hB⟩
      exact ⟨_, rfl, OwnM.nil _ _ _ _ _ _, hB⟩
theorem FC_len {f : Fr} (h : f.body.length = 44) : (FC f).toList.length = 49 := by rw [Array.length_toList, FC_size, h]
theorem arr_self (a : Array Value) : a.toList.toArray = a := by simp
set_option maxRecDepth 100000 in
set_option maxHeartbeats 8000000 in
theorem ssame_core (CA CB : Array Value) (la lb : List Fr) (ea eb : Int) (w : World) (hIA : (Try.prog.info? 28).map (·.size) = some CA.size) (hIB : (Try.prog.info? 28).map (·.size) = some CB.size)
    (hA : ∀ W, Below w.heap.size w W → Calls Try.prog 17 #[.agg CA, .int .i64 0] W fun e w' => ∃ v, e = .returned (.tuple #[v, .int .i64 ea]) ∧ OwnM w' 42 49 FC (fun f => f.body.length = 44) W.heap.size v la ∧ Below W.heap.size W w')
    (hB : ∀ W, Below w.heap.size w W → Calls Try.prog 17 #[.agg CB, .int .i64 0] W fun e w' => ∃ v, e = .returned (.tuple #[v, .int .i64 eb]) ∧ OwnM w' 42 49 FC (fun f => f.body.length = 44) W.heap.size v lb ∧ Below W.heap.size W w')
    (hla : ∀ f ∈ la, Body f.body ∧ Num64 f) (hlb : ∀ f ∈ lb, Body f.body ∧ Num64 f) (hl1 : la.length ≤ 1000) (hl2 : lb.length ≤ 1000) (r : Bool)
    (hc : (((ea : Int) != eb) = true ∧ r = false) ∨ (((ea : Int) != eb) = false ∧ (((la.length : Int) != (lb.length : Int)) = true ∧ r = false ∨ (la.length = lb.length ∧ (r = true ↔ la = lb))))) :
    Calls Try.prog 26 #[.agg CA, .agg CB] w fun e w' => e = .returned (.bool r) ∧ Below w.heap.size w w' := by
  have HIA := Lib.hid hIA
  have HIB := Lib.hid hIB
  have HA := Lib.hid hA
  have HB := Lib.hid hB
  have HLA := Lib.hid hla
  have HLB := Lib.hid hlb
  have HC := Lib.hid hc
  clear hIA hIB hA hB hla hlb hc
  have hB0 : Below w.heap.size w ((w.alloc (.cells CA 28)).alloc (.cells CB 28)) := ((Below.refl _ _).alloc (Nat.le_refl _) _).alloc (by simp) _
  obtain ⟨W0, hW0⟩ : ∃ W0, (w.alloc (.cells CA 28)).alloc (.cells CB 28) = W0 := ⟨_, rfl⟩
  have hS0 : W0.heap[w.heap.size]? = some (.cells CA 28 (0, 0)) := by rw [← hW0]; exact heap_alloc2_old w _ _
  have hT0 : W0.heap[w.heap.size + 1]? = some (.cells CB 28 (0, 0)) := by rw [← hW0]; exact heap_alloc2_new w _ _
  rw [hW0] at hB0
  have HW0 := Lib.hid hW0
  have HB0 := Lib.hid hB0
  have HT0 := Lib.hid hT0
  have z0 : w.heap.size + 1 < W0.heap.size := (Array.getElem?_eq_some_iff.1 hT0).1
  clear hW0 hT0 hB0
  go_enter Try.func26, Try.ntmps26
  go_upto_region 1 with (fail)
  rw [HW0.out]
  go_wp2_with (refine wpList_row_on (by rfl) 28 _ rfl w.heap.size rfl 28 _ _ _ hS0 Try.underlying28 rfl HIA.out ?_)
  refine (HA.out _ HB0.out).mono ?_
  rintro e1 w1 ⟨va, rfl, hoa, hB1⟩
  obtain ⟨aa, ca, rfl, hra, -, hca1, hca2, hxa⟩ := hoa.shape kinF
  have z1 := hB1.size
  have hT1 := (hB1.block (w.heap.size + 1) z0).trans HT0.out
  have HB1 := Lib.hid (HB0.out.trans (hB1.mono HB0.out.size))
  have HRA := Lib.hid hra
  have HXA := Lib.hid hxa
  clear hS0 hoa hra hB1 hxa
  go_wp2_with (refine wpList_row_on (by rfl) 28 _ rfl (w.heap.size + 1) rfl 28 _ _ _ hT1 Try.underlying28 rfl HIB.out ?_)
  refine (HB.out _ HB1.out).mono ?_
  rintro e2 w2 ⟨vb, rfl, hob, hB2⟩
  obtain ⟨ab, cb, rfl, hrb, -, hcb1, hcb2, hxb⟩ := hob.shape kinF
  have HRB := Lib.hid hrb
  have HRA2 := Lib.hid (HRA.out.below hB2)
  have HB2 := Lib.hid (HB1.out.trans (hB2.mono HB1.out.size))
  clear hob hrb hB2 hT1 hxb
  have hc := HC.out
  rcases hc with ⟨t1, rfl⟩ | ⟨t1, ⟨t2, rfl⟩ | ⟨hlen, hr⟩⟩
  · go_wp2
    go_ret
    exact ⟨rfl, HB2.out⟩
  · go_wp2
    go_ret
    exact ⟨rfl, HB2.out⟩
  · have HLEN := Lib.hid hlen
    have HR := Lib.hid hr
    have t2 : ((la.length : Int) != (lb.length : Int)) = false := by rw [hlen]; simp
    obtain ⟨n, hn⟩ : ∃ n, la.length = n := ⟨_, rfl⟩
    have hn2 : lb.length = n := by rw [← hlen, hn]
    have HN := Lib.hid hn
    have HN2 := Lib.hid hn2
    rw [hn, hn2] at t2
    rw [hn] at hl1 hca1
    rw [hn2] at hcb1
    rw [hn, hn2]
    clear hlen hr hn hn2 hl2
    go_wp2
    clear t1 t2
    go_loopw [32] (fun u wr => ∃ k : Nat, k ≤ n ∧ u = .int .i64 k ∧ la.take k = lb.take k ∧ Below w2.heap.size w2 wr) (fun u _ => n - (intOf u).toNat)
    case atStart => exact ⟨0, Nat.zero_le _, rfl, rfl, Below.refl _ _⟩
    case round =>
      obtain ⟨k, hk, rfl, htk, hBr⟩ := hrel
      have HTK := Lib.hid htk
      have HBR := Lib.hid hBr
      clear htk hBr
      by_cases hlt : k < n
      · obtain ⟨x, hx⟩ : ∃ x, la[k]? = some x := ⟨_, List.getElem?_eq_getElem (by rw [HN.out]; exact hlt)⟩
        obtain ⟨y, hy⟩ : ∃ y, lb[k]? = some y := ⟨_, List.getElem?_eq_getElem (by rw [HN2.out]; exact hlt)⟩
        have hbx := HLA.out x (List.mem_of_getElem? hx)
        have hby := HLB.out y (List.mem_of_getElem? hy)
        obtain ⟨ba, oa, rfl, -, -, -⟩ := HRA2.out.at hx
        obtain ⟨bb, ob, rfl, -, -, -⟩ := HRB.out.at hy
        have hra := HRA2.out.below HBR.out
        have hrb := HRB.out.below HBR.out
        have HGA : Hid (∀ W, Below wr.heap.size wr W → W.rangeAt ba (oa + k * 49) (FC x).toList) := Lib.hid (fun W hW => (hra.below hW).range hx (by rw [FC_size, hbx.1.1]))
        have HGB : Hid (∀ W, Below wr.heap.size wr W → W.rangeAt bb (ob + k * 49) (FC y).toList) := Lib.hid (fun W hW => (hrb.below hW).range hy (by rw [FC_size, hby.1.1]))
        have HIX : Hid ((Try.prog.info? 42).map (·.size) = some (FC x).toList.length) := Lib.hid (by rw [FC_len hbx.1.1]; exact (zero_of_info Try.infoFrame).2)
        have HIY : Hid ((Try.prog.info? 42).map (·.size) = some (FC y).toList.length) := Lib.hid (by rw [FC_len hby.1.1]; exact (zero_of_info Try.infoFrame).2)
        have heq : ∃ q : Bool, (q = true ↔ x = y) := ⟨decide (x = y), by simp⟩
        obtain ⟨q, hq⟩ := heq
        have HEQ := Lib.hid (fun W => eq_frame x y hbx.1 hby.1 hbx.2 hby.2 q hq W)
        have HNT : Hid (q = true → la.take (k + 1) = lb.take (k + 1)) := Lib.hid (fun h => by
          rw [List.take_add_one, List.take_add_one, HTK.out, hx, hy, hq.1 h])
        have HNF : Hid (q = false → r = false) := Lib.hid (fun h => by
          cases hr : r
          · rfl
          · have h1 := HR.out.1 hr
            rw [h1, hy] at hx
            have h2 := hq.2 (by cases hx; rfl)
            rw [h] at h2
            cases h2)
        obtain ⟨XC, hXC⟩ : ∃ XC, (FC x).toList = XC := ⟨_, rfl⟩
        obtain ⟨YC, hYC⟩ : ∃ YC, (FC y).toList = YC := ⟨_, rfl⟩
        have hXA : FC x = XC.toArray := by rw [← hXC]
        have hYA : FC y = YC.toArray := by rw [← hYC]
        rw [hXC] at HGA HIX
        rw [hYC] at HGB HIY
        rw [hXA, hYA] at HEQ
        clear hx hy hbx hby hra hrb hq hXC hYC hXA hYA
        have t0 : decide ((k : Int) < (n : Int)) = true := decide_eq_true (by omega)
        go_upto_region 8 with (fail)
        clear t0
        refine wp_region_conf2 8 [Fact.eq (.slice (some ⟨ba, oa, none⟩) n ca), Fact.eq (.int .i64 (k : Nat)), Fact.eq (.pointer (some ⟨ba, oa + k * 49, none⟩)), Fact.eq (.agg XC.toArray), Fact.eq (.slice (some ⟨bb, ob, none⟩) n cb), Fact.eq (.int .i64 (k : Nat)), Fact.eq (.pointer (some ⟨bb, ob + k * 49, none⟩)), Fact.eq (.agg YC.toArray)] ?raA (by kernel_rfl) (by kernel_rfl) ?rahA ?raho ?rahend
        case rahA =>
          intro vv
          simp only [putRules, Nat.reduceAdd]
          rfl
        case raho =>
          refine ⟨?_, ?_, ?_, ?_, ?_, ?_, ?_, ?_, trivial⟩
          · intro vv W K hB hd HK
            simp only [confRules] at HK
            clear hd
            go_wp2
            refine HK.out _ _ (Below.refl _ _) ?_
            rfl
          · intro vv W K hB hd HK
            simp only [confRules] at HK
            clear hd
            go_wp2
            refine HK.out _ _ (Below.refl _ _) ?_
            rfl
          · intro vv W K hB hd HK
            simp only [confRules] at hd HK
            obtain ⟨h0, h1⟩ := hd
            simp only [h0, h1] at HK ⊢
            clear h0 h1
            go_wp2
            refine HK.out _ _ (Below.refl _ _) ?_
            rfl
          · intro vv W K hB hd HK
            simp only [confRules] at hd HK
            have h2 := hd
            clear hd
            simp only [h2] at HK ⊢
            clear h2
            have hT := HGA.out _ hB
            go_wp2_with (refine wpList_load_mid rfl 42 _ rfl ba (oa + k * 49) rfl XC _ hT Try.underlying42 rfl HIX.out ?_)
            refine HK.out _ _ (Below.refl _ _) ?_
            rfl
          · intro vv W K hB hd HK
            simp only [confRules] at HK
            clear hd
            go_wp2
            refine HK.out _ _ (Below.refl _ _) ?_
            rfl
          · intro vv W K hB hd HK
            simp only [confRules] at HK
            clear hd
            go_wp2
            refine HK.out _ _ (Below.refl _ _) ?_
            rfl
          · intro vv W K hB hd HK
            simp only [confRules] at hd HK
            obtain ⟨h4, h5⟩ := hd
            simp only [h4, h5] at HK ⊢
            clear h4 h5
            go_wp2
            refine HK.out _ _ (Below.refl _ _) ?_
            rfl
          · intro vv W K hB hd HK
            simp only [confRules] at hd HK
            have h6 := hd
            clear hd
            simp only [h6] at HK ⊢
            clear h6
            have hT := HGB.out _ hB
            go_wp2_with (refine wpList_load_mid rfl 42 _ rfl bb (ob + k * 49) rfl YC _ hT Try.underlying42 rfl HIY.out ?_)
            refine HK.out _ _ (Below.refl _ _) ?_
            rfl
        case rahend =>
          intro vv W hB hf
          have e3 := hf 3 (by decide)
          have e7 := hf 7 (by decide)
          simp only [endRules] at e3 e7
          simp only [e3, e7, dropRules]
          clear hf e3 e7
          have HBW := Lib.hid (HBR.out.trans (hB.mono HBR.out.size))
          clear hB
          cases q
          · have hrf := HNF.out rfl
            subst hrf
            go_wp2_with (refine wpList_neq_on (by rfl) 42 42 _ _ rfl XC.toArray YC.toArray rfl rfl (by kernel_rfl) false HEQ.out ?_)
            go_ret
            exact ⟨rfl, HB2.out.trans (HBW.out.mono HB2.out.size)⟩
          · have HT := Lib.hid (HNT.out rfl)
            go_wp2_with (refine wpList_neq_on (by rfl) 42 42 _ _ rfl XC.toArray YC.toArray rfl rfl (by kernel_rfl) true HEQ.out ?_)
            go_roundw
            case rel => exact ⟨k + 1, by omega, by go_num, HT.out, HBW.out⟩
            case measure => simp [intOf]; omega
      · obtain rfl : k = n := by omega
        have hre : r = true := HR.out.2 (by
          have := HTK.out
          rwa [List.take_of_length_le (by rw [HN.out]; omega), List.take_of_length_le (by rw [HN2.out]; omega)] at this)
        subst hre
        go_wp2
        go_ret
        exact ⟨rfl, HB2.out.trans (HBR.out.mono HB2.out.size)⟩
/-- are two snapshots the same? -/
theorem ssame_any (w : World) (p le ll ce cl p' le' ll' ce' cl' : Nat) (s s' : Sn.S) (h : SnIs w p le ll ce cl s) (h' : SnIs w p' le' ll' ce' cl' s') :
    Calls Try.prog 26 #[.agg (SC s p), .agg (SC s' p')] w fun e w' => e = .returned (.bool (decide (s.er 0 = s'.er 0 ∧ s.fr 0 = s'.fr 0))) ∧ Below w.heap.size w w' := by
  have hfr : ∀ (t : Sn.S), Geo.right t.g = true → (∀ f ∈ t.fr 0, Body f.body ∧ Num64 f) ∧ (t.fr 0).length ≤ 1000 := by
    intro t ht
    unfold Sn.S.fr
    split
    · rename_i hk
      exact ⟨fun f hf => ⟨(Sn.frames_right ht hk f hf).1, (Sn.frames_right ht hk f hf).2.1⟩, by rw [Sn.S.frames_length _ ((Geo.right_iff _).1 ht).1]; have := Sn.nParts_64 ht; omega⟩
    · exact ⟨by simp, by simp⟩
  obtain ⟨a1, a2⟩ := hfr s h.hg
  obtain ⟨b1, b2⟩ := hfr s' h'.hg
  refine ssame_core (SC s p) (SC s' p') (s.fr 0) (s'.fr 0) (s.er 0) (s'.er 0) w (snsize _ _ _ _) (snsize _ _ _ _) (fun W hW => sframes_any W p le ll ce cl s (h.below hW) 0) (fun W hW => sframes_any W p' le' ll' ce' cl' s' (h'.below hW) 0) a1 b1 a2 b2 _ ?_
  by_cases he : s.er 0 = s'.er 0
  · right
    refine ⟨by simp [he], ?_⟩
    by_cases hl : (s.fr 0).length = (s'.fr 0).length
    · right
      exact ⟨hl, by simp [he]⟩
    · left
      refine ⟨by simp; omega, decide_eq_false fun h => hl (by rw [h.2])⟩
  · left
    exact ⟨by simp [he], decide_eq_false fun h => he h.1⟩
end Go.Proofs.Ytjnneoejnpephaa
namespace Sn
open Go.Proofs.Ytjnneoejnpephaa Frm
theorem read_no1 {f : Fr} {r : List Fr} (h : Geo.right (headG f.body) = false) : readS (f :: r) = none := by rw [readS_cons, if_neg (by rw [h]; simp)]
theorem read_no2 {f : Fr} {r : List Fr} (h : ¬ nParts (headG f.body) ≤ r.length + 1) : readS (f :: r) = none := by rw [readS_cons, if_neg (fun x => h x.2)]
theorem read_no3 {f : Fr} {r : List Fr} (h : fillAll (headG f.body) (r.take (nParts (headG f.body) - 1)) 0 (List.replicate (headG f.body).b.toNat BE.zero) = none) : readS (f :: r) = none := by
  rw [readS_cons]
  split
  · rw [h]; rfl
  · rfl
theorem read_no4 {f : Fr} {r : List Fr} {es : List BE} (h : fillAll (headG f.body) (r.take (nParts (headG f.body) - 1)) 0 (List.replicate (headG f.body).b.toNat BE.zero) = some es) (h2 : ¬ ((mk f es).ok f.zone = true ∧ (mk f es).frames f.zone = (f :: r).take (nParts (headG f.body)))) : readS (f :: r) = none := by
  rw [readS_cons]
  split
  · rw [h]
    simp only [Option.bind_some]
    rw [if_neg h2]
  · rfl
theorem read_yes {f : Fr} {r : List Fr} {es : List BE} (h1 : Geo.right (headG f.body) = true) (h3 : nParts (headG f.body) ≤ r.length + 1) (h : fillAll (headG f.body) (r.take (nParts (headG f.body) - 1)) 0 (List.replicate (headG f.body).b.toNat BE.zero) = some es) (h2 : (mk f es).ok f.zone = true ∧ (mk f es).frames f.zone = (f :: r).take (nParts (headG f.body))) : readS (f :: r) = some (mk f es) := by
  rw [readS_cons, if_pos ⟨h1, h3⟩, h]
  simp only [Option.bind_some]
  rw [if_pos h2]
end Sn
namespace Go.Proofs.Ytjnneoejnpephaa
open Go.RowKit Go.Rv Frm
set_option linter.unusedVariables false
attribute [local go_sem] Oper.semAt_some
def FrQ (f : Fr) : Prop := Body f.body ∧ Num64 f
def SZ : Array Value := #[.int .i64 0, .int .i64 0, .int .i64 0, .pointer none]
/-- a pair's first part is a row of frames -/
def VFact (B : Nat) (er : Int) (xs : List Fr) : Fact := ⟨fun u W => ∃ v, u = .tuple #[v, .int .i64 er] ∧ OwnM W 42 49 FC (fun f => f.body.length = 44) B v xs, fun u w w' ⟨v, e, h⟩ hB => ⟨v, e, h.below hB⟩⟩
def VFact2 (B : Nat) (xs : List Fr) : Fact := ⟨fun u W => ∃ v, u = v ∧ OwnM W 42 49 FC (fun f => f.body.length = 44) B v xs, fun u w w' ⟨v, e, h⟩ hB => ⟨v, e, h.below hB⟩⟩
theorem vRules : (∀ B er xs u w, (VFact B er xs).p u w = ∃ v, u = .tuple #[v, .int .i64 er] ∧ OwnM w 42 49 FC (fun f => f.body.length = 44) B v xs) ∧ (∀ B xs u w, (VFact2 B xs).p u w = ∃ v, u = v ∧ OwnM w 42 49 FC (fun f => f.body.length = 44) B v xs) := ⟨fun _ _ _ _ _ => rfl, fun _ _ _ _ => rfl⟩
/-- what Read tells -/
def ReadPost (w : World) (l : List Fr) (e : Ending) (w' : World) : Prop :=
  Below w.heap.size w w' ∧ ((∃ s p le ll ce cl, Sn.readS l = some s ∧ e = .returned (.tuple #[.agg (SC s p), .int .i64 0]) ∧ SnIs w' p le ll ce cl s ∧ w.heap.size ≤ p ∧ w.heap.size ≤ le ∧ w.heap.size ≤ ll) ∨ (Sn.readS l = none ∧ e = .returned (.tuple #[.agg SZ, .int .i64 10])))
theorem put_none (a : Act) (u : Value) : a.put none u = a := rfl
theorem Try.infoSnz : (Try.prog.info? 28).map (fun i => (i.zero, i.size)) = some (some (.agg SZ), 4) := Try.infoSnap
theorem built_snz : Try.prog.built 28 [] = some SZ := by kernel_rfl
set_option maxRecDepth 100000 in
theorem sread_nil (w : World) (a : Option Addr) (cap : Nat) : Calls Try.prog 27 #[.slice a 0 cap] w (ReadPost w []) := by
  have hzs := (zero_of_info Try.infoSnz).1
  have hsi : (Try.prog.info? 28).map (·.size) = some SZ.size := (zero_of_info Try.infoSnz).2
  have HSI := Lib.hid hsi
  have HS1 : Hid (SZ.all (·.oneCell') = true) := Lib.hid (by simp [SZ, Value.oneCell'])
  have HBZ := Lib.hid built_snz
  have hB0 : Below w.heap.size w (w.alloc (.cells SZ 28)) := (Below.refl _ _).alloc (Nat.le_refl _) _
  clear hsi
  obtain ⟨Z, hZ⟩ : ∃ Z, SZ = Z := ⟨_, rfl⟩
  have HPZ : Hid (∀ e w', Below w.heap.size w w' → e = .returned (.tuple #[.agg Z, .int .i64 10]) → ReadPost w [] e w') := Lib.hid (fun e w' hB he => ⟨hB, .inr ⟨rfl, by rw [hZ]; exact he⟩⟩)
  rw [hZ] at hzs HSI HS1 HBZ hB0
  clear hZ
  obtain ⟨W0, hW0⟩ : ∃ W0, w.alloc (.cells Z 28) = W0 := ⟨_, rfl⟩
  have hZ0 : W0.heap[w.heap.size]? = some (.cells Z 28 (0, 0)) := by rw [← hW0]; exact heap_alloc_new w _
  rw [hW0] at hB0
  have HB0 := Lib.hid hB0
  have HW0 := Lib.hid hW0
  clear hW0 hB0
  go_enter Try.func27, Try.ntmps27
  go_upto_region 1 with (fail)
  rw [HW0.out]
  go_upto_region 2 with (fail)
  go_wp2_with (first | (refine wpList_build_on (by rfl) 28 _ rfl #[] (by simp) Z HBZ.out ?_) | (refine wpList_store_row rfl 28 _ _ rfl w.heap.size Z rfl rfl 28 Z hZ0 HSI.out rfl HS1.out ?_))
  refine bodyPost_ret (res_row_tmp rfl _ _ w.heap.size 28 Z _ _ rfl (setRow_heap _ _ _ _ _ _ hZ0) Try.underlying28 rfl HSI.out) rfl ?_
  exact HPZ.out _ _ (below_setRow HB0.out (Nat.le_refl _) _) rfl
set_option maxRecDepth 100000 in
set_option maxHeartbeats 16000000 in
theorem sread_cons (w : World) (a : Option Addr) (f0 : Fr) (r : List Fr) (cap : Nat) (hI : RowOf w 49 FC FrQ a (f0 :: r)) (hl : r.length + 1 ≤ 100000) (hcap : r.length + 1 ≤ cap) (hcm : cap ≤ 9223372036854775807) :
    Calls Try.prog 27 #[.slice a (r.length + 1 : Nat) cap] w (ReadPost w (f0 :: r)) := by
  obtain ⟨b, o, rfl, hbl, -, hf0⟩ := hI.at (k := 0) (x := f0) rfl
  obtain ⟨n, hn⟩ : ∃ n, n = r.length + 1 := ⟨_, rfl⟩
  have HNR := Lib.hid hn
  rw [← hn] at hl hcap ⊢
  have hn1 : 1 ≤ n := by omega
  clear hn
  have HI := Lib.hid hI
  have HQ : Hid (∀ x ∈ f0 :: r, FrQ x) := Lib.hid hI.all
  have HRG : Hid (∀ (W : World) (k : Nat) (x : Fr), Below w.heap.size w W → (f0 :: r)[k]? = some x → W.rangeAt b (o + k * 49) (FC x).toList) := Lib.hid (fun W k x hW hk => (hI.below hW).range hk (by rw [FC_size, (hI.all x (List.mem_of_getElem? hk)).1.1]))
  have HIX : Hid (∀ x ∈ f0 :: r, (Try.prog.info? 42).map (·.size) = some (FC x).toList.length) := Lib.hid (fun x hx => by rw [FC_len (hI.all x hx).1.1]; exact (zero_of_info Try.infoFrame).2)
  have HIR : Hid (∀ x ∈ f0 :: r, (Try.prog.info? 42).map (·.size) = some (FC x).size) := Lib.hid (fun x hx => size_frq (hI.all x hx).1.1)
  have HFZ : Hid (∀ x ∈ f0 :: r, (FC Fr.zero).size = (FC x).size) := Lib.hid (fun x hx => by rw [FC_size, FC_size, (hI.all x hx).1.1]; rfl)
  have HF1 := Lib.hid (fun (f : Fr) => FC_one f)
  have hzf := (zero_of_info Try.infoFrame).1
  have hzs := (zero_of_info Try.infoSnz).1
  have hsi : (Try.prog.info? 28).map (·.size) = some SZ.size := (zero_of_info Try.infoSnz).2
  have HSI := Lib.hid hsi
  have HS1 : Hid (SZ.all (·.oneCell') = true) := Lib.hid (by simp [SZ, Value.oneCell'])
  have HBZ := Lib.hid built_snz
  have hB0 : Below w.heap.size w (w.alloc (.cells SZ 28)) := (Below.refl _ _).alloc (Nat.le_refl _) _
  obtain ⟨Z, hZ⟩ : ∃ Z, SZ = Z := ⟨_, rfl⟩
  have HZX : Hid (∀ (x y z : Int) (pa : Option Addr), Z.size = (#[.int .i64 x, .int .i64 y, .int .i64 z, .pointer pa] : Array Value).size) := Lib.hid (fun x y z pa => by rw [← hZ]; rfl)
  have HPZ : Hid (∀ e w', Sn.readS (f0 :: r) = none → Below w.heap.size w w' → e = .returned (.tuple #[.agg Z, .int .i64 10]) → ReadPost w (f0 :: r) e w') := Lib.hid (fun e w' hN hB he => ⟨hB, .inr ⟨hN, by rw [hZ]; exact he⟩⟩)
  rw [hZ] at hzs HSI HS1 HBZ hB0
  clear hZ hI hsi
  obtain ⟨W0, hW0⟩ : ∃ W0, w.alloc (.cells Z 28) = W0 := ⟨_, rfl⟩
  have hZ0 : W0.heap[w.heap.size]? = some (.cells Z 28 (0, 0)) := by rw [← hW0]; exact heap_alloc_new w _
  rw [hW0] at hB0
  have HB0 := Lib.hid hB0
  have HZ0 := Lib.hid hZ0
  have HW0 := Lib.hid hW0
  have z0 : w.heap.size < W0.heap.size := (Array.getElem?_eq_some_iff.1 hZ0).1
  clear hW0 hB0 hZ0
  have t1 : ((n : Int) == 0) = false := by simp; omega
  have hr0 := HRG.out W0 0 f0 HB0.out rfl
  have hi0 := HIX.out f0 (by simp)
  rw [Nat.zero_mul, Nat.add_zero] at hr0
  obtain ⟨X0, hX0⟩ : ∃ X0, (FC f0).toList = X0 := ⟨_, rfl⟩
  have hXA : FC f0 = X0.toArray := by rw [← hX0]
  rw [hX0] at hr0 hi0
  have HR0 := Lib.hid hr0
  have HI0 := Lib.hid hi0
  have HBY := Lib.hid (fun W (hg : Geo.right (Sn.headG f0.body) = true) => sbegin_yes W f0 hf0.1 hg)
  have HBN := Lib.hid (fun W (hg : Geo.right (Sn.headG f0.body) = false) => sbegin_no W f0 hf0.1 hg)
  rw [hXA] at HBY HBN
  have HXA := Lib.hid hXA
  obtain ⟨g, hg⟩ : ∃ g, Sn.headG f0.body = g := ⟨_, rfl⟩
  rw [hg] at HBY HBN
  have HG := Lib.hid hg
  have HQ0 := Lib.hid hf0
  clear hr0 hi0 hX0 hXA hg hf0
  go_enter Try.func27, Try.ntmps27
  go_upto_region 1 with (fail)
  rw [HW0.out]
  go_upto_region 3 with (fail)
  clear t1
  cases hgr : Geo.right g
  · have HB := Lib.hid (HBN.out W0 hgr)
    have HNO : Hid (Sn.readS (f0 :: r) = none) := Lib.hid (Sn.read_no1 (by rw [HG.out]; exact hgr))
    clear hgr
    go_wp2_with (refine wpList_load_mid rfl 42 _ rfl b o rfl X0 _ HR0.out Try.underlying42 rfl HI0.out ?_)
    refine HB.out.mono ?_
    obtain ⟨X1, hX1⟩ : ∃ X1 : Array Value, #[.int .i64 f0.seq, .int .i64 f0.epoch, .int .i64 (Sn.headN f0.body), .pointer none] = X1 := ⟨_, rfl⟩
    have HI1 : Hid ((Try.prog.info? 28).map (·.size) = some X1.size) := Lib.hid (by rw [← hX1]; exact (zero_of_info Try.infoSnap).2)
    have HZ1 : Hid (Z.size = X1.size) := Lib.hid (by rw [← hX1]; exact HZX.out _ _ _ _)
    have H11 : Hid (X1.all (·.oneCell') = true) := Lib.hid (by rw [← hX1]; simp [Value.oneCell'])
    rw [hX1]
    clear hX1
    rintro e1 w1 ⟨rfl, hB1⟩
    obtain ⟨W2, hW2⟩ : ∃ W2, w1.alloc (.cells X1 28) = W2 := ⟨_, rfl⟩
    have hb2 : Below w1.heap.size w1 W2 := by rw [← hW2]; exact (Below.refl _ _).alloc (Nat.le_refl _) _
    have z1 := hB1.size
    have hZ2 := (hb2.block w.heap.size (by omega)).trans ((hB1.block w.heap.size z0).trans HZ0.out)
    have HB2 := Lib.hid ((HB0.out.trans (hB1.mono HB0.out.size)).trans (hb2.mono (by omega)))
    have HW2 := Lib.hid hW2
    clear hB1 hb2 hW2
    go_upto_region 4 with (refine wpList_store_row rfl 28 _ _ rfl w1.heap.size X1 rfl rfl 28 Z (heap_alloc_new w1 _) HI1.out HZ1.out H11.out ?_; rw [World.setRow_alloc_new])
    rw [HW2.out]
    go_upto_region 5 with (fail)
    go_wp2_with (first | (refine wpList_build_on (by rfl) 28 _ rfl #[] (by simp) Z HBZ.out ?_) | (refine wpList_store_row rfl 28 _ _ rfl w.heap.size Z rfl rfl 28 Z hZ2 HSI.out rfl HS1.out ?_))
    refine bodyPost_ret (res_row_tmp rfl _ _ w.heap.size 28 Z _ _ rfl (setRow_heap _ _ _ _ _ _ hZ2) Try.underlying28 rfl HSI.out) rfl ?_
    exact HPZ.out _ _ HNO.out (below_setRow HB2.out (Nat.le_refl _) _) rfl
  · have HB := Lib.hid (HBY.out W0 hgr)
    have hsm := ((Geo.right_iff g).1 hgr).1
    obtain ⟨m, hm⟩ : ∃ m, Sn.nParts g = m := ⟨_, rfl⟩
    have hm2 : 2 ≤ m ∧ m ≤ 64 := by rw [← hm]; exact ⟨(Sn.nParts_two hsm).1, Sn.nParts_64 hgr⟩
    have HPA : Hid (∀ W, Calls Try.prog 21 #[.agg (GC g)] W fun e w' => e = .returned (.int .i64 (m : Nat)) ∧ Below W.heap.size W w') := Lib.hid (fun W => by have := gparts_any g W hsm; rwa [← Sn.nParts_cast hsm, hm] at this)
    have HM := Lib.hid hm
    have HGR := Lib.hid hgr
    have HMN := Lib.hid (mapOk_new g hgr)
    obtain ⟨gen, hgen⟩ : ∃ x, f0.seq = x := ⟨_, rfl⟩
    obtain ⟨epoch, hepoch⟩ : ∃ x, f0.epoch = x := ⟨_, rfl⟩
    obtain ⟨next, hnext⟩ : ∃ x, Sn.headN f0.body = x := ⟨_, rfl⟩
    rw [hgen, hepoch, hnext] at HB
    have HGN := Lib.hid hgen
    have HEP := Lib.hid hepoch
    have HNX := Lib.hid hnext
    clear hgr hsm hm hgen hepoch hnext
    go_wp2_with (refine wpList_load_mid rfl 42 _ rfl b o rfl X0 _ HR0.out Try.underlying42 rfl HI0.out ?_)
    refine HB.out.mono ?_
    rintro e1 w1 ⟨p, le, ll, rfl, ⟨q1, q2, q3⟩, hbm1, hB1⟩
    obtain ⟨X1, hX1⟩ : ∃ X1 : Array Value, SnC gen epoch next p = X1 := ⟨_, rfl⟩
    have HI1 : Hid ((Try.prog.info? 28).map (·.size) = some X1.size) := Lib.hid (by rw [← hX1]; exact snsize _ _ _ _)
    have HZ1 : Hid (Z.size = X1.size) := Lib.hid (by rw [← hX1]; exact HZX.out _ _ _ _)
    have H11 : Hid (X1.all (·.oneCell') = true) := Lib.hid (by rw [← hX1]; simp [SnC, Value.oneCell'])
    have HSC : Hid (∀ (W : World) (b : Nat), W.heap[b]? = some (.cells X1 28 (0, 0)) → W.cell? ⟨b, 3, none⟩ = some (.pointer (some ⟨p, 0, none⟩))) := Lib.hid (fun W b h => by rw [← hX1] at h; exact (sn_cells h).2.2.2)
    have HX1 := Lib.hid hX1
    rw [hX1]
    clear hX1
    obtain ⟨W2, hW2⟩ : ∃ W2, w1.alloc (.cells X1 28) = W2 := ⟨_, rfl⟩
    have hb2 : Below w1.heap.size w1 W2 := by rw [← hW2]; exact (Below.refl _ _).alloc (Nat.le_refl _) _
    have hS2 : W2.heap[w1.heap.size]? = some (.cells X1 28 (0, 0)) := by rw [← hW2]; exact heap_alloc_new w1 _
    have z1 := hB1.size
    have z2 : w1.heap.size < W2.heap.size := (Array.getElem?_eq_some_iff.1 hS2).1
    have hlt1 := hbm1.lt
    have HZ2 := Lib.hid ((hb2.block w.heap.size (by omega)).trans ((hB1.block w.heap.size z0).trans HZ0.out))
    have HB2 := Lib.hid ((HB0.out.trans (hB1.mono HB0.out.size)).trans (hb2.mono (by omega)))
    have HBM2 := Lib.hid (hbm1.below hb2)
    have HS2 := Lib.hid hS2
    have HW2 := Lib.hid hW2
    clear hB1 hb2 hW2 hbm1
    go_upto_region 4 with (refine wpList_store_row rfl 28 _ _ rfl w1.heap.size X1 rfl rfl 28 Z (heap_alloc_new w1 _) HI1.out HZ1.out H11.out ?_; rw [World.setRow_alloc_new])
    rw [HW2.out]
    have HGM := Lib.hid (fun (W : World) (ce cl : Nat) (es : List BE) (lv : List Int) (h : BmIs W p le ll ce cl g es lv) => bgeom_any W p le ll _ _ g es lv h)
    have c3 := HSC.out _ _ hS2
    go_wp2_with fail
    refine (HGM.out _ _ _ _ _ HBM2.out).mono ?_
    rintro e3 w3 ⟨rfl, hB3⟩
    go_wp2_with fail
    refine (HPA.out _).mono ?_
    rintro e4 w4 ⟨rfl, hB4⟩
    have hB24 := hB3.trans (hB4.mono hB3.size)
    have z4 := hB24.size
    have hZ4 := (hB24.block w.heap.size (by omega)).trans HZ2.out
    have HZ4 := Lib.hid hZ4
    have HS4 := Lib.hid ((hB24.block w1.heap.size z2).trans HS2.out)
    have HB4 := Lib.hid (HB2.out.trans (hB24.mono HB2.out.size))
    have HBM4 := Lib.hid (HBM2.out.below hB24)
    clear hB3 hB4 hB24 c3 hS2
    by_cases hle : m ≤ n
    · have HLE := Lib.hid hle
      have c3 := HSC.out _ _ HS4.out
      go_upto_region 6 with (fail)
      go_wp2_with fail
      refine (HGM.out _ _ _ _ _ HBM4.out).mono ?_
      rintro e5 w5 ⟨rfl, hB5⟩
      go_wp2_with fail
      refine (HPA.out _).mono ?_
      rintro e6 w6 ⟨rfl, hB6⟩
      have hB46 := hB5.trans (hB6.mono hB5.size)
      have z6 := hB46.size
      have HZ6 := Lib.hid ((hB46.block w.heap.size (by omega)).trans HZ4.out)
      have HS6 := Lib.hid ((hB46.block w1.heap.size (by omega)).trans HS4.out)
      have HB6 := Lib.hid (HB4.out.trans (hB46.mono HB4.out.size))
      have HBM6 := Lib.hid (HBM4.out.below hB46)
      clear hB5 hB6 hB46 c3 hZ4
      go_wp2
      obtain ⟨q, hq⟩ : ∃ q, m - 1 = q := ⟨_, rfl⟩
      rw [hq]
      have hqm : q + 1 = m := by omega
      have HQM := Lib.hid hqm
      have hq64 : q ≤ 63 := by omega
      have hrq : q ≤ r.length := by have := HNR.out; omega
      have HRQ := Lib.hid hrq
      obtain ⟨RS, hRS⟩ : ∃ RS, Sn.fillAll g (r.take q) 0 (List.replicate g.b.toNat BE.zero) = RS := ⟨_, rfl⟩
      have HRS := Lib.hid hRS
      have HFILL : Hid (∀ (W : World) (es : List BE) (x : Fr) (k : Nat), MapOk g es → BmIs W p le ll g.b.toNat (nz g) g es (liveL (nz g) es) → Body x.body → x.off = (k : Int) + 1 → k ≤ 200 → Calls Try.prog 57 #[.agg X1, .agg (FC x)] W (FillPost W p le ll g.b.toNat (nz g) g (Sn.fillE g es k x.body))) := Lib.hid (fun W es x k h1 h2 h3 h4 h5 => by rw [← HX1.out]; exact sfill_any W p le ll _ _ g es HGR.out h1 h2 gen epoch next x h3 k h4 h5)
      have HFR : Hid (∀ (W : World) (es : List BE), MapOk g es → BmIs W p le ll g.b.toNat (nz g) g es (liveL (nz g) es) → Calls Try.prog 17 #[.agg X1, .int .i64 f0.zone] W (FramesPost W ⟨gen, epoch, next, g, es⟩ f0.zone)) := Lib.hid (fun W es h1 h2 => by rw [← HX1.out]; exact sframes_any W p le ll _ _ ⟨gen, epoch, next, g, es⟩ ⟨h2, HGR.out, h1⟩ f0.zone)
      have HMK : Hid (∀ es, Sn.mk f0 es = ⟨gen, epoch, next, g, es⟩) := Lib.hid (fun es => by unfold Sn.mk; rw [HGN.out, HEP.out, HNX.out, HG.out])
      have HN3 : Hid (RS = none → Sn.readS (f0 :: r) = none) := Lib.hid (fun h => Sn.read_no3 (by rw [HG.out, HM.out, hq, hRS]; exact h))
      have HN4 : Hid (∀ es, RS = some es → ¬ ((⟨gen, epoch, next, g, es⟩ : Sn.S).ok f0.zone = true ∧ (⟨gen, epoch, next, g, es⟩ : Sn.S).frames f0.zone = (f0 :: r).take m) → Sn.readS (f0 :: r) = none) := Lib.hid (fun es h h2 => Sn.read_no4 (es := es) (by rw [HG.out, HM.out, hq, hRS]; exact h) (by rw [HMK.out, HG.out, HM.out]; exact h2))
      have HYE : Hid (∀ es, RS = some es → ((⟨gen, epoch, next, g, es⟩ : Sn.S).ok f0.zone = true ∧ (⟨gen, epoch, next, g, es⟩ : Sn.S).frames f0.zone = (f0 :: r).take m) → Sn.readS (f0 :: r) = some ⟨gen, epoch, next, g, es⟩) := Lib.hid (fun es h h2 => by
        rw [← HMK.out]
        exact Sn.read_yes (by rw [HG.out]; exact HGR.out) (by rw [HG.out, HM.out, ← HNR.out]; exact HLE.out) (by rw [HG.out, HM.out, hq, hRS]; exact h) (by rw [HMK.out, HG.out, HM.out]; exact h2))
      have z61 : w1.heap.size < w6.heap.size := (Array.getElem?_eq_some_iff.1 HS6.out).1
      clear hq hqm hle hrq hRS hcm
      go_loopw [43] (fun u wr => ∃ (k : Nat) (es : List BE), k ≤ q ∧ u = .int .i64 k ∧ Sn.fillAll g ((r.take q).drop k) k es = RS ∧ MapOk g es ∧ BmIs wr p le ll g.b.toNat (nz g) g es (liveL (nz g) es) ∧ wr.heap[w.heap.size]? = some (.cells Z 28 (0, 0)) ∧ wr.heap[w1.heap.size]? = some (.cells X1 28 (0, 0)) ∧ Below w.heap.size w wr) (fun u _ => q - (intOf u).toNat)
      case atStart => exact ⟨0, _, Nat.zero_le _, rfl, HRS.out, HMN.out, HBM6.out, HZ6.out, HS6.out, HB6.out⟩
      case round =>
        obtain ⟨k, es, hk, rfl, hfa, hMO, hbm, hZ, hS, hB⟩ := hrel
        have zr : w1.heap.size < wr.heap.size := (Array.getElem?_eq_some_iff.1 hS).1
        have HFA := Lib.hid hfa
        have HMO := Lib.hid hMO
        have HBM := Lib.hid hbm
        have HZ := Lib.hid hZ
        have HS := Lib.hid hS
        have HBB := Lib.hid hB
        clear hfa hMO hbm hZ hS hB
        by_cases hlt : k < q
        · obtain ⟨x, hx⟩ : ∃ x, r[k]? = some x := ⟨_, List.getElem?_eq_getElem (by have := HRQ.out; omega)⟩
          have hx1 : (f0 :: r)[k + 1]? = some x := by simpa using hx
          have hmem : x ∈ f0 :: r := List.mem_of_getElem? hx1
          have hrg := HRG.out wr (k + 1) x HBB.out hx1
          rw [show o + (k + 1) * 49 = o + 49 + k * 49 by omega] at hrg
          have hdr : (r.take q).drop k = x :: (r.take q).drop (k + 1) := by
            have h1 : (r.take q)[k]? = some x := by rw [List.getElem?_take, if_pos hlt]; exact hx
            obtain ⟨h2, h3⟩ := List.getElem?_eq_some_iff.1 h1
            rw [List.drop_eq_getElem_cons h2, h3]
          have hst : (if x.off = (k : Int) + 1 then (Sn.fillE g es k x.body).bind (Sn.fillAll g ((r.take q).drop (k + 1)) (k + 1)) else none) = RS := by
            have := HFA.out
            rw [hdr] at this
            exact this
          have HST := Lib.hid hst
          have HBX := Lib.hid (HQ.out x hmem).1
          have HIL := Lib.hid (HIX.out x hmem)
          have HIC := Lib.hid (HIR.out x hmem)
          have HZC := Lib.hid (HFZ.out x hmem)
          have HFL : Hid (∀ W, BmIs W p le ll g.b.toNat (nz g) g es (liveL (nz g) es) → x.off = (k : Int) + 1 → Calls Try.prog 57 #[.agg X1, .agg (FC x)] W (FillPost W p le ll g.b.toNat (nz g) g (Sn.fillE g es k x.body))) := Lib.hid (fun W h1 h2 => HFILL.out W es x k HMO.out h1 HBX.out h2 (by omega))
          have HFO := Lib.hid (fun (es' : List BE) (h : Sn.fillE g es k x.body = some es') => Sn.fillE_ok HMO.out HBX.out.2 h)
          obtain ⟨XL, hXL⟩ : ∃ XL, (FC x).toList = XL := ⟨_, rfl⟩
          have hXC : FC x = XL.toArray := by rw [← hXL]
          have H1C : Hid (XL.toArray.all (·.oneCell') = true) := Lib.hid (by rw [← hXC]; exact HF1.out x)
          have HXO : Hid (∀ (W : World) (b : Nat), W.heap[b]? = some (.cells XL.toArray 42 (0, 0)) → W.cell? ⟨b, 2, none⟩ = some (.int .i64 x.off)) := Lib.hid (fun W b h => by rw [← hXC] at h; exact (frame_cells h).2.2.1)
          rw [hXL] at hrg HIL
          rw [hXC] at HIC HZC HFL
          have HGX := Lib.hid hrg
          clear hx hx1 hmem hrg hdr hst hXL hXC
          obtain ⟨W7, hW7⟩ : ∃ W7, wr.alloc (.cells XL.toArray 42) = W7 := ⟨_, rfl⟩
          have hb7 : Below wr.heap.size wr W7 := by rw [← hW7]; exact (Below.refl _ _).alloc (Nat.le_refl _) _
          have hF7 : W7.heap[wr.heap.size]? = some (.cells XL.toArray 42 (0, 0)) := by rw [← hW7]; exact heap_alloc_new wr _
          have hZ7 := (hb7.block w.heap.size (by omega)).trans HZ.out
          have HZ7 := Lib.hid hZ7
          have hS7 := (hb7.block w1.heap.size (by omega)).trans HS.out
          have HS7 := Lib.hid hS7
          have HBM7 := Lib.hid (HBM.out.below hb7)
          have HB7 := Lib.hid (HBB.out.trans (hb7.mono HBB.out.size))
          have c2 := HXO.out _ _ hF7
          have HW7 := Lib.hid hW7
          have zB7 := hb7.size
          clear hb7 hW7
          go_upto_region 10 with (first | (refine wpList_load_mid rfl 42 _ rfl b (o + 49 + k * 49) rfl XL _ HGX.out Try.underlying42 rfl HIL.out ?_) | (refine wpList_store_row rfl 42 _ _ rfl wr.heap.size XL.toArray rfl rfl 42 (FC Fr.zero) (heap_alloc_new wr _) HIC.out HZC.out H1C.out ?_; rw [World.setRow_alloc_new]))
          rw [HW7.out]
          by_cases hoff : x.off = (k : Int) + 1
          · have t5 : (x.off != (k : Int) + 1) = false := by simp [hoff]
            have HOFF := Lib.hid hoff
            have HS5 : Hid ((Sn.fillE g es k x.body).bind (Sn.fillAll g ((r.take q).drop (k + 1)) (k + 1)) = RS) := Lib.hid (by have := HST.out; rwa [if_pos hoff] at this)
            have HFC := Lib.hid (HFL.out W7 HBM7.out hoff)
            clear hoff
            go_wp2_with (first | (refine wpList_row_on (by rfl) 28 _ rfl w1.heap.size rfl 28 _ _ _ hS7 Try.underlying28 rfl HI1.out ?_) | (refine wpList_row_on (by rfl) 42 _ rfl wr.heap.size rfl 42 _ _ _ hF7 Try.underlying42 rfl HIC.out ?_))
            refine HFC.out.mono ?_
            rintro e8 w8 ⟨hO8, ⟨es', hes, rfl, hbm8⟩ | ⟨hes, rfl⟩⟩
            · have HBM8 := Lib.hid hbm8
              have HMO8 := Lib.hid (HFO.out es' hes)
              have HFA8 : Hid (Sn.fillAll g ((r.take q).drop (k + 1)) (k + 1) es' = RS) := Lib.hid (by rw [← HS5.out, hes]; rfl)
              have HZ8 := Lib.hid (hO8.get HZ7.out (by simp; omega))
              have HS8 := Lib.hid (hO8.get HS7.out (by simp; omega))
              have HB8 := Lib.hid (HB7.out.trans (hO8.below (B := w.heap.size) (by simp; omega) HB7.out.size))
              clear hbm8 hes hO8 c2 t5
              go_wp2
              go_roundw
              case rel => exact ⟨k + 1, es', by omega, by go_num, HFA8.out, HMO8.out, HBM8.out, HZ8.out, HS8.out, HB8.out⟩
              case measure => simp [intOf]; omega
            · have HNO := Lib.hid (HN3.out (by rw [← HS5.out, hes]; rfl))
              have hZ8 := hO8.get HZ7.out (by simp; omega)
              have HB8 := Lib.hid (HB7.out.trans (hO8.below (B := w.heap.size) (by simp; omega) HB7.out.size))
              clear hes hO8 c2 t5
              go_upto_region 11 with (fail)
              go_wp2_with (first | (refine wpList_build_on (by rfl) 28 _ rfl #[] (by simp) Z HBZ.out ?_) | (refine wpList_store_row rfl 28 _ _ rfl w.heap.size Z rfl rfl 28 Z hZ8 HSI.out rfl HS1.out ?_))
              refine bodyPost_ret (res_row_tmp rfl _ _ w.heap.size 28 Z _ _ rfl (setRow_heap _ _ _ _ _ _ hZ8) Try.underlying28 rfl HSI.out) rfl ?_
              exact HPZ.out _ _ HNO.out (below_setRow HB8.out (Nat.le_refl _) _) rfl
          · have t5 : (x.off != (k : Int) + 1) = true := by simp [hoff]
            have HNO := Lib.hid (HN3.out (by have := HST.out; rw [if_neg hoff] at this; exact this.symm))
            clear hoff
            go_upto_region 11 with (fail)
            clear c2 t5
            go_wp2_with (first | (refine wpList_build_on (by rfl) 28 _ rfl #[] (by simp) Z HBZ.out ?_) | (refine wpList_store_row rfl 28 _ _ rfl w.heap.size Z rfl rfl 28 Z hZ7 HSI.out rfl HS1.out ?_))
            refine bodyPost_ret (res_row_tmp rfl _ _ w.heap.size 28 Z _ _ rfl (setRow_heap _ _ _ _ _ _ hZ7) Try.underlying28 rfl HSI.out) rfl ?_
            exact HPZ.out _ _ HNO.out (below_setRow HB7.out (Nat.le_refl _) _) rfl
        · obtain rfl : k = q := by omega
          have hRSs : RS = some es := by
            have := HFA.out
            rw [List.drop_of_length_le (by rw [List.length_take]; omega)] at this
            exact this.symm
          have HRSS := Lib.hid hRSs
          have HFRM := Lib.hid (fun W h => HFR.out W es HMO.out h)
          have HN4' := Lib.hid (HN4.out es hRSs)
          have HYE' := Lib.hid (HYE.out es hRSs)
          clear hRSs
          obtain ⟨s, hs⟩ : ∃ s : Sn.S, (⟨gen, epoch, next, g, es⟩ : Sn.S) = s := ⟨_, rfl⟩
          rw [hs] at HFRM HN4' HYE'
          have HSS := Lib.hid hs
          clear hs
          have hzl := HRG.out
          have HRZ : Hid (∀ W, Below w.heap.size w W → W.cell? ⟨b, o + 1, none⟩ = some (.int .i64 f0.zone)) := Lib.hid (fun W hW => by
            have h1 := hzl W 0 f0 hW rfl 1 (.int .i64 f0.zone)
            rw [Nat.zero_mul, Nat.add_zero] at h1
            refine h1 ?_
            rw [Array.getElem?_toList]
            exact (FC_num f0).2.1)
          clear hzl
          obtain ⟨zone, hzone⟩ : ∃ z, f0.zone = z := ⟨_, rfl⟩
          rw [hzone] at HFRM HN4' HYE' HRZ
          clear hzone
          go_upto_region 13 with (fail)
          rename_i Qj Kj aj Kn an
          clear aj
          clear Kj
          clear Qj
          refine wp_region_conf2 10 [Fact.eq (.agg X1), Fact.eq (.slice (some ⟨b, o, none⟩) n cap), Fact.eq (.pointer (some ⟨b, o, none⟩)), Fact.eq (.pointer (some ⟨b, o + 1, none⟩)), Fact.eq (.int .i64 zone), VFact wr.heap.size (s.er zone) (s.fr zone), VFact wr.heap.size (s.er zone) (s.fr zone), VFact2 wr.heap.size (s.fr zone), Fact.eq (.int .i64 (s.er zone)), VFact2 wr.heap.size (s.fr zone)] ?rbA (by kernel_rfl) (by kernel_rfl) ?rbhA ?rbho ?rbhend
          case rbhA =>
            intro vv
            simp only [putRules, Nat.reduceAdd]
            rfl
          case rbho =>
            refine ⟨?_, ?_, ?_, ?_, ?_, ?_, ?_, ?_, ?_, ?_, trivial⟩
            · intro vv W K hB hd HK
              simp only [confRules] at HK
              clear hd
              have hT := (hB.block w1.heap.size zr).trans HS.out
              go_wp2_with (refine wpList_row_on (by rfl) 28 _ rfl w1.heap.size rfl 28 _ _ _ hT Try.underlying28 rfl HI1.out ?_)
              refine HK.out _ _ (Below.refl _ _) ?_
              rfl
            · intro vv W K hB hd HK
              simp only [confRules] at HK
              clear hd
              go_wp2
              refine HK.out _ _ (Below.refl _ _) ?_
              rfl
            · intro vv W K hB hd HK
              simp only [confRules] at hd HK
              have h1 := hd
              clear hd
              simp only [h1] at HK ⊢
              clear h1
              go_wp2
              refine HK.out _ _ (Below.refl _ _) ?_
              rfl
            · intro vv W K hB hd HK
              simp only [confRules] at hd HK
              have h2 := hd
              clear hd
              simp only [h2] at HK ⊢
              clear h2
              go_wp2
              refine HK.out _ _ (Below.refl _ _) ?_
              rfl
            · intro vv W K hB hd HK
              simp only [confRules] at hd HK
              have h3 := hd
              clear hd
              simp only [h3] at HK ⊢
              clear h3
              have c1 := HRZ.out _ (HBB.out.trans (hB.mono HBB.out.size))
              go_wp2
              refine HK.out _ _ (Below.refl _ _) ?_
              rfl
            · intro vv W K hB hd HK
              simp only [confRules, vRules] at hd HK
              obtain ⟨h0, h4⟩ := hd
              simp only [h0, h4] at HK ⊢
              clear h0 h4
              have hT := HBM.out.below hB
              go_wp2_with (refine (HFRM.out _ hT).mono ?_; rintro e w9 ⟨v9, rfl, ho9, hB9⟩)
              refine HK.out _ _ hB9 ?_
              exact ⟨v9, rfl, ho9.mono hB.size⟩
            · intro vv W K hB hd HK
              simp only [confRules, vRules] at hd HK
              obtain ⟨v5, h5, p5⟩ := hd
              simp only [h5] at HK ⊢
              clear h5
              go_wp2
              refine HK.out _ _ (Below.refl _ _) ?_
              exact ⟨v5, rfl, p5⟩
            · intro vv W K hB hd HK
              simp only [confRules, vRules] at hd HK
              obtain ⟨v6, h6, p6⟩ := hd
              simp only [h6] at HK ⊢
              clear h6
              go_wp2
              refine HK.out _ _ (Below.refl _ _) ?_
              exact ⟨v6, rfl, p6⟩
            · intro vv W K hB hd HK
              simp only [confRules, vRules, cond7] at hd HK
              obtain ⟨v6, h6, p6⟩ := hd
              simp only [h6] at HK ⊢
              clear h6
              go_wp2
              refine HK.out _ _ (Below.refl _ _) ?_
              rfl
            · intro vv W K hB hd HK
              simp only [confRules, vRules, cond7] at hd HK
              obtain ⟨⟨v7, h7, p7⟩, ⟨v5, h5, p5⟩, h0, h1, h2, h3, h4, _, ⟨v6, h6, p6⟩, _⟩ := hd
              simp only [h7, h5, h0, h1, h2, h3, h4, h6] at HK ⊢
              clear h7 h5 h0 h1 h2 h3 h4 h6
              go_wp2
              refine HK.out _ _ (Below.refl _ _) ?_
              exact ⟨v7, rfl, p7⟩
          case rbhend =>
            intro vv W hB hf
            have e8 := hf 8 (by decide)
            have e9 := hf 9 (by decide)
            simp only [endRules, vRules] at e8 e9
            obtain ⟨v9, e9, p9⟩ := e9
            simp only [e8, e9, dropRules]
            clear hf e8 e9
            have HV := Lib.hid p9
            have HZW := Lib.hid ((hB.block w.heap.size (by omega)).trans HZ.out)
            have HSW := Lib.hid ((hB.block w1.heap.size zr).trans HS.out)
            have HBMW := Lib.hid (HBM.out.below hB)
            have HBW := Lib.hid (HBB.out.trans (hB.mono HBB.out.size))
            have zW := hB.size
            clear hB p9
            cases hok : s.ok zone
            · have her : s.er zone = 10 := by unfold Sn.S.er; rw [hok]; rfl
              have HNO := Lib.hid (HN4'.out (fun h => by rw [hok] at h; cases h.1))
              have hZW := HZW.out
              rw [her]
              clear her hok
              go_upto_region 15 with (fail)
              go_wp2_with (first | (refine wpList_build_on (by rfl) 28 _ rfl #[] (by simp) Z HBZ.out ?_) | (refine wpList_store_row rfl 28 _ _ rfl w.heap.size Z rfl rfl 28 Z hZW HSI.out rfl HS1.out ?_))
              refine bodyPost_ret (res_row_tmp rfl _ _ w.heap.size 28 Z _ _ rfl (setRow_heap _ _ _ _ _ _ hZW) Try.underlying28 rfl HSI.out) rfl ?_
              exact HPZ.out _ _ HNO.out (below_setRow HBW.out (Nat.le_refl _) _) rfl
            · have her : s.er zone = 0 := by unfold Sn.S.er; rw [hok]; rfl
              have hfr : s.fr zone = s.frames zone := by unfold Sn.S.fr; rw [hok]; rfl
              have hsg : s.g = g := by rw [← HSS.out]
              have hgs : Geo.right s.g = true := by rw [hsg]; exact HGR.out
              have hfl : (s.frames zone).length = m := by rw [Sn.S.frames_length _ ((Geo.right_iff _).1 hgs).1, hsg]; exact HM.out
              have hfq := Sn.frames_right hgs hok
              rw [her]
              rw [hfr] at HV
              have HFQ := Lib.hid hfq
              have HFLN := Lib.hid hfl
              have HOK := Lib.hid hok
              obtain ⟨av, cv, rfl, hrv, -, hcv1, hcv2, hxv⟩ := HV.out.shape kinF
              obtain ⟨own, hown⟩ : ∃ own, s.frames zone = own := ⟨_, rfl⟩
              rw [hown] at hrv hcv1 HFQ HFLN HN4' HYE'
              rw [hown, HFLN.out]
              have HRV := Lib.hid hrv
              have hmn := HLE.out
              clear her hfr hsg hgs hfl hfq hok hrv hxv hown hcv1 HV
              go_wp2
              go_loopw [75] (fun u wr => ∃ j : Nat, j ≤ m ∧ u = .int .i64 j ∧ own.take j = (f0 :: r).take j ∧ Below W.heap.size W wr) (fun u _ => m - (intOf u).toNat)
              case atStart => exact ⟨0, Nat.zero_le _, rfl, rfl, Below.refl _ _⟩
              case round =>
                obtain ⟨j, hj, rfl, htk, hBr⟩ := hrel
                have zr' := hBr.size
                have hZr := (hBr.block w.heap.size (by omega)).trans HZW.out
                have HZr := Lib.hid hZr
                have hSr := (hBr.block w1.heap.size (by omega)).trans HSW.out
                have HTK := Lib.hid htk
                have HBR := Lib.hid hBr
                have HBwr := Lib.hid (HBW.out.trans (hBr.mono HBW.out.size))
                clear htk hBr
                by_cases hjt : j < m
                · obtain ⟨x, hx⟩ : ∃ x, own[j]? = some x := ⟨_, List.getElem?_eq_getElem (by rw [HFLN.out]; exact hjt)⟩
                  obtain ⟨y, hy⟩ : ∃ y, (f0 :: r)[j]? = some y := ⟨_, List.getElem?_eq_getElem (by have := HNR.out; rw [List.length_cons]; omega)⟩
                  have hqx := HFQ.out x (List.mem_of_getElem? hx)
                  have hqy := HQ.out y (List.mem_of_getElem? hy)
                  obtain ⟨ba, oa, rfl, -, -, -⟩ := HRV.out.at hx
                  have hrx := (HRV.out.below HBR.out).range hx (by rw [FC_size, hqx.1.1])
                  have hix : (Try.prog.info? 42).map (·.size) = some (FC x).toList.length := by rw [FC_len hqx.1.1]; exact (zero_of_info Try.infoFrame).2
                  have HIC : Hid ((Try.prog.info? 42).map (·.size) = some (FC x).size) := Lib.hid (size_frq hqx.1.1)
                  have HZC : Hid ((FC Fr.zero).size = (FC x).size) := Lib.hid (by rw [FC_size, FC_size, hqx.1.1]; rfl)
                  have H1C := Lib.hid (HF1.out x)
                  have HGY : Hid (∀ W', Below wr.heap.size wr W' → W'.rangeAt b (o + j * 49) (FC y).toList) := Lib.hid (fun W' hW => HRG.out W' j y (HBwr.out.trans (hW.mono HBwr.out.size)) hy)
                  have HIY := Lib.hid (HIX.out y (List.mem_of_getElem? hy))
                  obtain ⟨qb, hqb⟩ : ∃ qb : Bool, (qb = true ↔ x = y) := ⟨decide (x = y), by simp⟩
                  have HEQ := Lib.hid (fun W => eq_frame x y hqx.1 hqy.1 hqx.2.1 hqy.2 qb hqb W)
                  have HNT : Hid (qb = true → own.take (j + 1) = (f0 :: r).take (j + 1)) := Lib.hid (fun h => by rw [List.take_add_one, List.take_add_one, HTK.out, hx, hy, hqb.1 h])
                  have HNF : Hid (qb = false → Sn.readS (f0 :: r) = none) := Lib.hid (fun h => HN4'.out (fun h2 => by
                    have h3 : ((f0 :: r).take m)[j]? = some y := by rw [List.getElem?_take, if_pos hjt]; exact hy
                    rw [← h2.2, hx] at h3
                    have h4 := hqb.2 (by cases h3; rfl)
                    rw [h] at h4
                    cases h4))
                  obtain ⟨XL, hXL⟩ : ∃ XL, (FC x).toList = XL := ⟨_, rfl⟩
                  have hXC : FC x = XL.toArray := by rw [← hXL]
                  obtain ⟨YL, hYL⟩ : ∃ YL, (FC y).toList = YL := ⟨_, rfl⟩
                  have hYC : FC y = YL.toArray := by rw [← hYL]
                  rw [hXL] at hrx hix
                  rw [hXC] at HIC HZC H1C HEQ
                  rw [hYC] at HEQ
                  rw [hYL] at HGY HIY
                  have HGX := Lib.hid hrx
                  have HIL := Lib.hid hix
                  clear hx hy hqx hqy hrx hix hqb hXL hXC hYL hYC
                  obtain ⟨W7, hW7⟩ : ∃ W7, wr.alloc (.cells XL.toArray 42) = W7 := ⟨_, rfl⟩
                  have hb7 : Below wr.heap.size wr W7 := by rw [← hW7]; exact (Below.refl _ _).alloc (Nat.le_refl _) _
                  have hF7 : W7.heap[wr.heap.size]? = some (.cells XL.toArray 42 (0, 0)) := by rw [← hW7]; exact heap_alloc_new wr _
                  have zF7 : wr.heap.size < W7.heap.size := (Array.getElem?_eq_some_iff.1 hF7).1
                  have HF7 := Lib.hid hF7
                  have HB7 := Lib.hid hb7
                  have HW7 := Lib.hid hW7
                  have t0 : decide ((j : Int) < (m : Int)) = true := decide_eq_true (by omega)
                  clear hb7 hW7 hF7
                  go_upto_region 19 with (first | (refine wpList_load_mid rfl 42 _ rfl ba (oa + j * 49) rfl XL _ HGX.out Try.underlying42 rfl HIL.out ?_) | (refine wpList_store_row rfl 42 _ _ rfl wr.heap.size XL.toArray rfl rfl 42 (FC Fr.zero) (heap_alloc_new wr _) HIC.out HZC.out H1C.out ?_; rw [World.setRow_alloc_new]))
                  rw [HW7.out, put_none]
                  clear t0
                  refine wp_region_conf2 5 [Fact.eq (.agg XL.toArray), Fact.eq (.slice (some ⟨b, o, none⟩) n cap), Fact.eq (.int .i64 (j : Nat)), Fact.eq (.pointer (some ⟨b, o + j * 49, none⟩)), Fact.eq (.agg YL.toArray)] ?rcA (by kernel_rfl) (by kernel_rfl) ?rchA ?rcho ?rchend
                  case rchA =>
                    intro vv
                    simp only [putRules, Nat.reduceAdd]
                    rfl
                  case rcho =>
                    refine ⟨?_, ?_, ?_, ?_, ?_, trivial⟩
                    · intro vv W K hB hd HK
                      simp only [confRules] at HK
                      clear hd
                      have hT := (hB.block wr.heap.size zF7).trans HF7.out
                      go_wp2_with (refine wpList_row_on (by rfl) 42 _ rfl wr.heap.size rfl 42 _ _ _ hT Try.underlying42 rfl HIC.out ?_)
                      refine HK.out _ _ (Below.refl _ _) ?_
                      rfl
                    · intro vv W K hB hd HK
                      simp only [confRules] at HK
                      clear hd
                      go_wp2
                      refine HK.out _ _ (Below.refl _ _) ?_
                      rfl
                    · intro vv W K hB hd HK
                      simp only [confRules] at HK
                      clear hd
                      go_wp2
                      refine HK.out _ _ (Below.refl _ _) ?_
                      rfl
                    · intro vv W K hB hd HK
                      simp only [confRules] at hd HK
                      obtain ⟨h1, h2⟩ := hd
                      simp only [h1, h2] at HK ⊢
                      clear h1 h2
                      go_wp2
                      refine HK.out _ _ (Below.refl _ _) ?_
                      rfl
                    · intro vv W K hB hd HK
                      simp only [confRules] at hd HK
                      have h3 := hd
                      clear hd
                      simp only [h3] at HK ⊢
                      clear h3
                      have hT := HGY.out _ (HB7.out.trans (hB.mono HB7.out.size))
                      go_wp2_with (refine wpList_load_mid rfl 42 _ rfl b (o + j * 49) rfl YL _ hT Try.underlying42 rfl HIY.out ?_)
                      refine HK.out _ _ (Below.refl _ _) ?_
                      rfl
                  case rchend =>
                    intro vv W hB hf
                    have e0 := hf 0 (by decide)
                    have e4 := hf 4 (by decide)
                    simp only [endRules] at e0 e4
                    simp only [e0, e4, dropRules]
                    clear hf e0 e4
                    have HB8 := Lib.hid (HB7.out.trans (hB.mono HB7.out.size))
                    have hZ8 := (HB8.out.block w.heap.size (by omega)).trans HZr.out
                    have HBw8 := Lib.hid (HBwr.out.trans (HB8.out.mono HBwr.out.size))
                    clear hB
                    cases qb
                    · have HNO := Lib.hid (HNF.out rfl)
                      go_upto_region 20 with (refine wpList_neq_on (by rfl) 42 42 _ _ rfl XL.toArray YL.toArray rfl rfl (by kernel_rfl) false HEQ.out ?_)
                      go_wp2_with (first | (refine wpList_build_on (by rfl) 28 _ rfl #[] (by simp) Z HBZ.out ?_) | (refine wpList_store_row rfl 28 _ _ rfl w.heap.size Z rfl rfl 28 Z hZ8 HSI.out rfl HS1.out ?_))
                      refine bodyPost_ret (res_row_tmp rfl _ _ w.heap.size 28 Z _ _ rfl (setRow_heap _ _ _ _ _ _ hZ8) Try.underlying28 rfl HSI.out) rfl ?_
                      exact HPZ.out _ _ HNO.out (below_setRow HBw8.out (Nat.le_refl _) _) rfl
                    · have HT := Lib.hid (HNT.out rfl)
                      clear hZ8
                      go_wp2_with (refine wpList_neq_on (by rfl) 42 42 _ _ rfl XL.toArray YL.toArray rfl rfl (by kernel_rfl) true HEQ.out ?_)
                      go_roundw
                      case rel => exact ⟨j + 1, by omega, by go_num, HT.out, HBR.out.trans (HB8.out.mono HBR.out.size)⟩
                      case measure => simp [intOf]; omega
                · obtain rfl : j = m := by omega
                  have HYS := Lib.hid (HYE'.out ⟨HOK.out, by
                    have := HTK.out
                    rwa [List.take_of_length_le (by rw [HFLN.out]; omega)] at this⟩)
                  have HBMF := Lib.hid (HBMW.out.below HBR.out)
                  have HSNI : Hid (∀ W', W' = wr.setRow w.heap.size X1 → SnIs W' p le ll g.b.toNat (nz g) s) := Lib.hid (by
                    rintro W' rfl
                    rw [← HSS.out]
                    exact ⟨HBMF.out.only (only_setRow wr w.heap.size X1) (by simp; omega) (by simp; omega) (by simp; omega), HGR.out, HMO.out⟩)
                  have HXS : Hid (X1 = SC s p) := Lib.hid (by rw [← HX1.out, ← HSS.out]; rfl)
                  clear hSr
                  have hSr := (HBR.out.block w1.heap.size (by omega)).trans HSW.out
                  go_wp2_with (first | (refine wpList_row_on (by rfl) 28 _ rfl w1.heap.size rfl 28 _ _ _ hSr Try.underlying28 rfl HI1.out ?_) | (refine wpList_store_row rfl 28 _ _ rfl w.heap.size X1 rfl rfl 28 Z hZr HI1.out HZ1.out H11.out ?_))
                  refine bodyPost_ret (res_row_tmp rfl _ _ w.heap.size 28 X1 _ _ rfl (setRow_heap _ _ _ _ _ _ hZr) Try.underlying28 rfl HI1.out) rfl ?_
                  exact ⟨below_setRow HBwr.out (Nat.le_refl _) _, .inl ⟨s, p, le, ll, _, _, HYS.out, by rw [HXS.out]; rfl, HSNI.out _ rfl, by omega, by omega, by omega⟩⟩
    · have HNO : Hid (Sn.readS (f0 :: r) = none) := Lib.hid (Sn.read_no2 (by rw [HG.out, HM.out, ← HNR.out]; exact hle))
      go_upto_region 5 with (fail)
      go_wp2_with (first | (refine wpList_build_on (by rfl) 28 _ rfl #[] (by simp) Z HBZ.out ?_) | (refine wpList_store_row rfl 28 _ _ rfl w.heap.size Z rfl rfl 28 Z hZ4 HSI.out rfl HS1.out ?_))
      refine bodyPost_ret (res_row_tmp rfl _ _ w.heap.size 28 Z _ _ rfl (setRow_heap _ _ _ _ _ _ hZ4) Try.underlying28 rfl HSI.out) rfl ?_
      exact HPZ.out _ _ HNO.out (below_setRow HB4.out (Nat.le_refl _) _) rfl
end Go.Proofs.Ytjnneoejnpephaa
namespace Go.Proofs.Ytjnneoejnpephaa
open Go.RowKit Go.Rv Frm
set_option linter.unusedVariables false
def gn : Geo.G := ⟨3, 8, 8, 1, 0, 4⟩
def sn : Sn.S := ⟨1, 1, 1, gn, [BE.zero]⟩
theorem gn_right : Geo.right gn = true := by decide
theorem sn_er : sn.er 0 = 0 := by decide +kernel
theorem sn_fr : sn.fr 0 = [Sn.headF 1 1 1 gn 0, Sn.partF 1 1 [BE.zero] 0 1] := by decide +kernel
set_option maxRecDepth 100000 in
set_option maxHeartbeats 2000000 in
theorem sn_anchor (w : World) : Calls Try.prog 15 #[] w fun e w' => e = .returned (.bool true) ∧ Below w.heap.size w w' := by
  have HN := Lib.hid (fun W => bnew_any gn gn_right W)
  go_enter Try.func15, Try.ntmps15
  go_wp2_with fail
  refine (HN.out _).mono ?_
  rintro e w1 ⟨p, le, ll, rfl, hb1, g1, g2, g3, hB1⟩
  have hM := mapOk_new gn gn_right
  rw [show gn.b.toNat = 1 from rfl] at hb1 hM
  have hF := sframes_any w1 p le ll _ _ sn ⟨hb1, gn_right, hM⟩ 0
  unfold FramesPost at hF
  rw [sn_er, sn_fr] at hF
  have HF := Lib.hid hF
  clear hb1 hM hF HN
  go_wp2_with fail
  refine HF.out.mono ?_
  rintro e w2 ⟨v, rfl, hown, hB2⟩
  obtain ⟨a, cap, rfl, hr, -, -, -, -⟩ := hown.shape kinF
  obtain ⟨b, o, rfl, -, hc0, -⟩ := hr.at (k := 0) rfl
  obtain ⟨b', o', e', -, hc1, -⟩ := hr.at (k := 1) rfl
  cases e'
  have c0 : w2.cell? ⟨b, o, none⟩ = some (.int .i64 4) := (by simpa using hc0 0 (by omega) : w2.cell? ⟨b, o, none⟩ = _).trans (FC_num _).1
  have c1 : w2.cell? ⟨b, o + 49, none⟩ = some (.int .i64 5) := (by simpa using hc1 0 (by omega) : w2.cell? ⟨b, o + 49, none⟩ = _).trans (FC_num _).1
  have hBB := hB1.trans (hB2.mono hB1.size)
  clear hown hr hc0 hc1 hB1 hB2 HF
  go_wp2
  go_ret
  exact ⟨rfl, hBB⟩
end Go.Proofs.Ytjnneoejnpephaa
namespace Go.Proofs.Ytjnneoejnpephaa
open Go.RowKit Go.Rv Frm
set_option maxRecDepth 100000 in
theorem frame_of_cells {w : World} {cs : List Value} (hl : cs.length = 49) (h : Fits Try.prog w 5 42 cs) : ∃ f : Fr, cs = (FC f).toList ∧ FrQ f := by
  obtain ⟨-, hx⟩ := fits_struct (d := 4) Try.underlying42 h
  have k1 : Try.prog.cellsOf 3 = 1 := by kernel_rfl
  have k44 : Try.prog.cellsOf 40 = 44 := by kernel_rfl
  simp only [List.forall_mem_cons, k1, k44] at hx
  obtain ⟨f0, f1, f2, f3, f4, f5, -⟩ := hx
  obtain ⟨n0, c0, w0⟩ := fits_int Try.underlying3 f0
  obtain ⟨n1, c1, w1⟩ := fits_int Try.underlying3 f1
  obtain ⟨n2, c2, w2⟩ := fits_int Try.underlying3 f2
  obtain ⟨n3, c3, w3⟩ := fits_int Try.underlying3 f3
  obtain ⟨n4, c4, w4⟩ := fits_int Try.underlying3 f4
  obtain ⟨l, hn, hb, c5⟩ := arr_of_fits (d := 2) Try.underlying40 Try.underlying5 (by kernel_rfl) k44 f5
  have he := six_parts _ _ _ _ _ _ _ hl c0 c1 c2 c3 c4 c5
  refine ⟨⟨n0, n1, n2, n3, n4, l⟩, ?_, ⟨hn, hb⟩, w0, w1, w2, w3, w4⟩
  rw [show (FC ⟨n0, n1, n2, n3, n4, l⟩).toList = .int .i64 n0 :: .int .i64 n1 :: .int .i64 n2 :: .int .i64 n3 :: .int .i64 n4 :: (byteCells l).toList from by simp [FC]]
  exact he
set_option maxRecDepth 100000 in
theorem frames_of_fits {w : World} {a : Option Addr} {len cap : Nat} (h : Fits Try.prog w 6 35 [.slice a len cap]) : ∃ xs : List Fr, xs.length = len ∧ RowOf w 49 FC FrQ a xs ∧ len ≤ cap ∧ cap ≤ 9223372036854775807 ∧ (a = none → cap = 0) :=
  rowOf_of_fits 49 FC FrQ Try.underlying35 (by kernel_rfl) (by omega) (fun _ hl hc => frame_of_cells hl hc) h
end Go.Proofs.Ytjnneoejnpephaa
