/- Proved here: the contract of the entry of a body (Of). -/
import Derived.Test.YtfcadbeamojdpaaEnMath
import Derived.Test.YtfcadbeamojdpaaEnFrame
import Derived.Test.YtfcadbeamojdpaaTurn
import Derived.Test.YtfcadbeamojdpaaAsk
namespace Go.Proofs.Ytfcadbeamojdpaa
open Go.RowKit Go.Rv Frm
set_option linter.unusedVariables false
attribute [local go_sem ↓] Go.wp_at_zero Go.wp_at_succ
/-- an entry and an error -/
def EntPost (r : En.E × Int) (w : World) (e : Ending) (w' : World) : Prop := e = .returned (.tuple #[.agg (EC r.1), .int .i64 r.2]) ∧ Below w.heap.size w w'
theorem built_ent0 : Try.prog.built 55 [] = some (EC En.E.zero) := by kernel_rfl
theorem built_ent6 (k f c b m t : Int) : Try.prog.built 55 [(0, .int .i64 k), (1, .int .i64 f), (2, .int .i64 c), (3, .int .i64 b), (4, .int .i64 m), (5, .int .i64 t)] = some (EC ⟨k, f, c, b, m, t, List.replicate 32 0⟩) := by kernel_rfl
theorem splice_EC (e : En.E) (b : List Nat) (he : e.bytes.length = 32) (hb : b.length = 32) : splice (EC e).toList 6 (b.map bv) = (EC { e with bytes := b }).toList := by
  unfold splice EC byteCells bv
  simp [hb]
  omega
theorem parse_ebody {kind : Int} {b : List Nat} (hl : b.length = 44) (hb : ∀ c ∈ b, c < 256) : EBody (En.parse kind b) := En.parse_bytes hl hb
set_option maxRecDepth 100000 in
set_option maxHeartbeats 2000000 in
theorem eof_any (kind : Int) (b : List Nat) (w : World) (hl : b.length = 44) (hb : ∀ c ∈ b, c < 256) :
    Calls Try.prog 34 #[.int .i64 kind, .agg (byteCells b)] w (EntPost (En.ofE kind b) w) := by
  have hz := (zero_of_info Try.infoEntry).1
  have hzb := (zero_of_info Try.infoBody).1
  have hone := EC_one En.E.zero
  have HIZ := Lib.hid (size_ent (e := En.E.zero) (by simp [En.E.zero]))
  have HI := Lib.hid (size_body hl)
  have h44 : (byteCells (List.replicate 44 0)).size = (byteCells b).size := by rw [size_byteCells, size_byteCells, hl]; simp
  have HBZ := Lib.hid built_ent0
  have hF0 := heap_alloc2_old w (.cells (byteCells b) 22) (.cells (EC En.E.zero) 55)
  have hR0 := heap_alloc2_new w (.cells (byteCells b) 22) (.cells (EC En.E.zero) 55)
  have hB0 : Below w.heap.size w ((w.alloc (.cells (byteCells b) 22)).alloc (.cells (EC En.E.zero) 55)) := ((Below.refl _ w).alloc (Nat.le_refl _) _).alloc (by simp) _
  have hsb := byteCells_row hF0 hb
  have z0 : ((w.alloc (.cells (byteCells b) 22)).alloc (.cells (EC En.E.zero) 55)).heap.size = w.heap.size + 1 + 1 := by simp
  have HN := Lib.hid (fun (W : World) (hb : Bytes W (some ⟨w.heap.size, 0, none⟩) b) => by have := rd_new (some ⟨w.heap.size, 0, none⟩) b 44 W hb (fun e => by cases e) (by omega); rwa [hl] at this)
  have HBDY := Lib.hid (fun W => ebody_any (En.parse kind b) W (parse_ebody hl hb))
  have HPB := Lib.hid (En.body_parse (kind := kind) hl hb)
  have HPE := Lib.hid (parse_ebody (kind := kind) hl hb)
  have HLB := Lib.hid hl
  have H8 := Lib.hid hb
  have HEQ : Hid (∀ W, (Op.equalIn 10000 22 (.agg (byteCells b)) (.agg (byteCells b))).run Try.prog W = .ok true W) := Lib.hid (fun W => eq_body b b hl hl hb hb true (by simp) W)
  have H1B := Lib.hid (one_byteCells b)
  have h1Z := Lib.hid (one_byteCells (List.replicate 44 0))
  obtain ⟨Z, hZ⟩ : ∃ Z, EC En.E.zero = Z := ⟨_, rfl⟩
  obtain ⟨C, hC⟩ : ∃ C, byteCells b = C := ⟨_, rfl⟩
  obtain ⟨Z4, hZ4⟩ : ∃ Z4, byteCells (List.replicate 44 0) = Z4 := ⟨_, rfl⟩
  rw [hZ] at hz hone HIZ HBZ hF0 hR0 hB0 hsb z0
  rw [hC] at hF0 hR0 hB0 hsb HI h44 HEQ H1B z0 ⊢
  rw [hZ4] at hzb h44 h1Z
  have HZ := Lib.hid hZ
  have HC := Lib.hid hC
  have HZ4 := Lib.hid hZ4
  have H44 := Lib.hid h44
  clear hZ hC hZ4 h44 hl hb
  go_enter Try.func34, Try.ntmps34
  go_wp2_with fail
  refine (HN.out _ hsb).mono ?_
  rintro x w1 ⟨g, rfl, hg, hR1, hB1⟩
  rw [z0] at hg hR1
  have hF1 := (hB1.block w.heap.size (by omega)).trans hF0
  have hS1 := (hB1.block (w.heap.size + 1) (by omega)).trans hR0
  have hBw1 := hB0.trans (hB1.mono (by omega))
  have hgl := hR1.lt
  have HF1 := Lib.hid hF1
  have HS1 := Lib.hid hS1
  have HBW1 := Lib.hid hBw1
  clear HN hF0 hR0 hB0 hsb hB1 hF1 hS1 hBw1 z0
  obtain ⟨x1, hx1⟩ : ∃ x, x = Cod.rd (b.take 6) := ⟨_, rfl⟩
  obtain ⟨x2, hx2⟩ : ∃ x, x = Cod.rd ((b.drop 6).take 1) := ⟨_, rfl⟩
  obtain ⟨x3, hx3⟩ : ∃ x, x = Cod.rd ((b.drop 7).take 1) := ⟨_, rfl⟩
  obtain ⟨x4, hx4⟩ : ∃ x, x = Cod.rd ((b.drop 8).take 2) := ⟨_, rfl⟩
  obtain ⟨x5, hx5⟩ : ∃ x, x = Cod.rd ((b.drop 10).take 2) := ⟨_, rfl⟩
  have hbl := HLB.out
  obtain ⟨B, hBB⟩ : ∃ B, w.heap.size + 1 + 1 = B := ⟨_, rfl⟩
  rw [hBB] at hR1 hg
  have hzB : w.heap.size + 1 < B := by omega
  clear hBB
  have K1 := Lib.hid (fun W (hR : RdAt W B g b false) => rd_to g b (b.drop 6) x1 6 6 W hR rfl (by omega) (by omega) (by omega) hx1 rfl)
  have K2 := Lib.hid (fun W (hR : RdAt W B g (b.drop 6) false) => rd_to g (b.drop 6) (b.drop 7) x2 1 1 W hR rfl (by omega) (by omega) (by rw [List.length_drop]; omega) hx2 (by rw [List.drop_drop]))
  have K3 := Lib.hid (fun W (hR : RdAt W B g (b.drop 7) false) => rd_to g (b.drop 7) (b.drop 8) x3 1 1 W hR rfl (by omega) (by omega) (by rw [List.length_drop]; omega) hx3 (by rw [List.drop_drop]))
  have K4 := Lib.hid (fun W (hR : RdAt W B g (b.drop 8) false) => rd_to g (b.drop 8) (b.drop 10) x4 2 2 W hR rfl (by omega) (by omega) (by rw [List.length_drop]; omega) hx4 (by rw [List.drop_drop]))
  have K5 := Lib.hid (fun W (hR : RdAt W B g (b.drop 10) false) => rd_to g (b.drop 10) (b.drop 12) x5 2 2 W hR rfl (by omega) (by omega) (by rw [List.length_drop]; omega) hx5 (by rw [List.drop_drop]))
  have K6 := Lib.hid (fun W (hR : RdAt W B g (b.drop 12) false) => rd_bytes_yes g (b.drop 12) 32 W hR (by rw [List.length_drop]; omega))
  have HX : Hid (En.parse kind b = ⟨kind, (x1 : Nat), (x2 : Nat), (x3 : Nat), (x4 : Nat), (x5 : Nat), (b.drop 12).take 32⟩) := Lib.hid (by rw [hx1, hx2, hx3, hx4, hx5]; rfl)
  clear hx1 hx2 hx3 hx4 hx5 hbl
  go_wp2_with fail
  refine (K1.out _ hR1).mono ?_
  rintro e1 w2 ⟨rfl, hR2, hO2⟩
  go_wp2_with fail
  refine (K2.out _ hR2).mono ?_
  rintro e1 w3 ⟨rfl, hR3, hO3⟩
  go_wp2_with fail
  refine (K3.out _ hR3).mono ?_
  rintro e1 w4 ⟨rfl, hR4, hO4⟩
  go_wp2_with fail
  refine (K4.out _ hR4).mono ?_
  rintro e1 w5 ⟨rfl, hR5, hO5⟩
  go_wp2_with fail
  refine (K5.out _ hR5).mono ?_
  rintro e1 w6 ⟨rfl, hR6, hO6⟩
  have hO16 := (((hO2.trans hO3).trans hO4).trans hO5).trans hO6
  have z6 := hO16.size
  have hF6 := hO16.get HF1.out (by simp; omega)
  have hS6 := hO16.get HS1.out (by simp; omega)
  have hBw6 := HBW1.out.trans (hO16.below (B := w.heap.size) (by simp; omega) HBW1.out.size)
  have HF6 := Lib.hid hF6
  have HS6 := Lib.hid hS6
  have HBW6 := Lib.hid hBw6
  obtain ⟨e0, he0⟩ : ∃ e0 : En.E, e0 = ⟨kind, (x1 : Nat), (x2 : Nat), (x3 : Nat), (x4 : Nat), (x5 : Nat), List.replicate 32 0⟩ := ⟨_, rfl⟩
  have HBU : Hid (Try.prog.built 55 [(0, .int .i64 kind), (1, .int .i64 (x1 : Nat)), (2, .int .i64 (x2 : Nat)), (3, .int .i64 (x3 : Nat)), (4, .int .i64 (x4 : Nat)), (5, .int .i64 (x5 : Nat))] = some (EC e0)) := Lib.hid (by rw [he0]; exact built_ent6 _ _ _ _ _ _)
  have hone0 := EC_one e0
  have HIE0 := Lib.hid (size_ent (e := e0) (by rw [he0]; simp))
  have HSZ0 : Hid (Z.size = (EC e0).size) := Lib.hid (by rw [← HZ.out, EC_size, EC_size, he0]; rfl)
  have HE0 := Lib.hid he0
  clear he0 hF6 hS6 hBw6 hO16 hO2 hO3 hO4 hO5 hO6 hR1 hR2 hR3 hR4 hR5 K1 K2 K3 K4 K5
  obtain ⟨W7, hW7⟩ : ∃ W7, w6.alloc (.cells (EC e0) 55) = W7 := ⟨_, rfl⟩
  have hb7 : Below w6.heap.size w6 W7 := by rw [← hW7]; exact (Below.refl _ _).alloc (Nat.le_refl _) _
  have hG7 : W7.heap[w6.heap.size]? = some (.cells (EC e0) 55 (0, 0)) := by rw [← hW7]; exact heap_alloc_new w6 _
  have HW7 := Lib.hid hW7
  have hR7 := hR6.below hb7
  have z7 : w6.heap.size < W7.heap.size := by rw [← hW7]; simp
  have HF7 := Lib.hid ((hb7.block w.heap.size (by omega)).trans HF6.out)
  have HS7 := Lib.hid ((hb7.block (w.heap.size + 1) (by omega)).trans HS6.out)
  have HBW7 := Lib.hid (HBW6.out.trans (hb7.mono HBW6.out.size))
  clear hW7 hb7
  go_upto_region 3 with (first | (refine wpList_build_asked (by rfl) 55 _ rfl #[(0, .int .i64 kind), (1, .int .i64 (x1 : Nat)), (2, .int .i64 (x2 : Nat)), (3, .int .i64 (x3 : Nat)), (4, .int .i64 (x4 : Nat)), (5, .int .i64 (x5 : Nat))] (by simp [Act.eval, Act.put]) (EC e0) HBU.out ?_) | (refine wpList_store_row rfl 55 _ _ rfl w6.heap.size (EC e0) rfl rfl 55 Z (heap_alloc_new w6 _) HIE0.out HSZ0.out hone0 ?_; rw [World.setRow_alloc_new]))
  rw [HW7.out]
  have hcur : (EC e0).toList.length = 38 := by rw [Array.length_toList, EC_size, HE0.out]; simp
  have hbl2 : ((b.drop 12).take 32).length = 32 := by have := HLB.out; simp; omega
  obtain ⟨cur, hcu⟩ : ∃ cur, cur = (EC e0).toList := ⟨_, rfl⟩
  have hGA : W7.heap[w6.heap.size]? = some (.cells cur.toArray 55 (0, 0)) := by rw [hcu, Array.toArray_toList]; exact hG7
  rw [← hcu] at hcur
  obtain ⟨cs, hcs⟩ : ∃ cs, cs = ((b.drop 12).take 32).map bv := ⟨_, rfl⟩
  have hcsl : cs.length = 32 := by rw [hcs, List.length_map, hbl2]
  have hsp : splice cur 6 cs = (EC { e0 with bytes := (b.drop 12).take 32 }).toList := by rw [hcu, hcs]; exact splice_EC e0 _ (by rw [HE0.out]; simp) hbl2
  have h1c : ∀ v ∈ cs, v.oneCell' = true := by
    intro v hv
    rw [hcs] at hv
    simp only [List.mem_map] at hv
    obtain ⟨y, _, rfl⟩ := hv
    rfl
  have HSP := Lib.hid hsp
  have HCS := Lib.hid hcs
  have H1C := Lib.hid h1c
  have HFIT := Lib.hid (show 6 + cs.length ≤ cur.length by rw [hcsl, hcur]; omega)
  have HN32 := Lib.hid (show cs.length = Nat.min 32 32 by rw [hcsl]; rfl)
  have HGA := Lib.hid hGA
  have hszb : (Try.prog.info? 5).map (·.size) = some 1 := by kernel_rfl
  have HSZB := Lib.hid hszb
  clear hsp hcs h1c hcsl hcur hcu hGA hbl2 hszb hG7 hR6
  go_region_held3 (fun _ => True) (trivial) (first | (go_at_call 45; refine (K6.out _ (hR7.below (Below.refl _ _).drew)).mono ?_; rintro e10 w10 ⟨ax, rfl, hbx, hnx, hxx, hR10, hO10⟩; have hG10 := (hO10.block w6.heap.size (by simpa using z7) (by simp; omega)).trans HGA.out; have hF10 := (hO10.block w.heap.size (by simp; omega) (by simp; omega)).trans HF7.out; have hS10 := (hO10.block (w.heap.size + 1) (by simp; omega) (by simp; omega)).trans HS7.out; have hBw10 := HBW7.out.drew.trans (hO10.below (by simp; omega) HBW7.out.size); have hsrc : ∃ ad, ax = some ad ∧ ∀ (j : Nat) (v : Value), cs[j]? = some v → w10.cell? (ad.add j) = some v := (by rw [HCS.out]; have h := src_cells hbx 32 (by have := HLB.out; simp; omega); rw [List.take_take] at h; simpa using h); have HSRC := Lib.hid hsrc; clear hsrc) | (refine step_copy_splice rfl (.tmp 25) (.tmp 27) 47 47 rfl 5 Try.underlying47 HSZB.out (some ⟨w6.heap.size, 6, none⟩) ax 32 32 32 32 (by rfl) (by rfl) w6.heap.size 6 cur 55 hG10 cs HN32.out (fun _ => ⟨rfl, HSRC.out⟩) HFIT.out H1C.out w6.heap.size _ (Below.refl _ _) (Nat.le_refl _) ?_; intro w11 HG11 hB11))
  obtain ⟨e2, he2⟩ : ∃ e2 : En.E, e2 = En.parse kind b := ⟨_, rfl⟩
  have hG11 : w11.heap[w6.heap.size]? = some (.cells (EC e2) 55 (0, 0)) := by
    have h := HG11.out
    rw [HSP.out, Array.toArray_toList, HE0.out] at h
    rw [he2, HX.out]
    exact h
  have hl2 : e2.bytes.length = 32 := by rw [he2]; exact HPE.out.1
  have HI2 := Lib.hid (size_ent hl2)
  have hone2 := EC_one e2
  have HSZ2 : Hid (Z.size = (EC e2).size) := Lib.hid (by rw [← HZ.out, EC_size, EC_size, hl2]; simp [En.E.zero])
  have hF11 := (hB11.block w.heap.size (by omega)).trans hF10
  have hS11 := (hB11.block (w.heap.size + 1) (by omega)).trans hS10
  have hBw11 := hBw10.trans (hB11.mono (by omega))
  have z11 : w6.heap.size < w11.heap.size := (Array.getElem?_eq_some_iff.1 hG11).1
  have HG2 := Lib.hid hG11
  have HF11 := Lib.hid hF11
  have HS11 := Lib.hid hS11
  have HBW11 := Lib.hid hBw11
  have HB2 := Lib.hid (fun W => by have := HBDY.out W; rwa [← he2] at this)
  have HP2 : Hid (En.body e2 = b) := Lib.hid (by rw [he2]; exact HPB.out)
  have HR2 : Hid (En.ofE kind b = if En.right e2 = true then (e2, 0) else (En.E.zero, 10)) := Lib.hid (by rw [he2]; rfl)
  clear hG10 hF10 hS10 hBw10 hB11 HG11 HSP HCS H1C HFIT HN32 HGA HSZB HSRC hbx hnx hxx hR10 hO10 he2 K6 HX hR7 hF11 hS11 hBw11 HBDY HPB HPE hl2
  unfold BodPost at HB2
  cases hrt : En.right e2
  · rw [hrt] at HB2
    simp only [Bool.false_eq_true, if_false] at HB2
    have HRR : Hid (En.ofE kind b = (En.E.zero, 10)) := Lib.hid (by rw [HR2.out, hrt]; rfl)
    clear hrt
    rw [HZ4.out] at HB2
    go_wp2_with (refine wpList_load_row rfl 55 _ rfl w6.heap.size rfl 55 _ _ _ HG2.out Try.underlying55 rfl HI2.out ?_)
    refine (HB2.out _).mono ?_
    rintro x w12 ⟨rfl, hB12⟩
    have z12 := hB12.size
    have hb13 : Below w12.heap.size w12 (w12.alloc (.cells Z4 22)) := (Below.refl _ _).alloc (Nat.le_refl _) _
    have hS13 := (hb13.block (w.heap.size + 1) (by omega)).trans ((hB12.block (w.heap.size + 1) (by omega)).trans HS11.out)
    have hBw13 := HBW11.out.trans ((hB12.trans (hb13.mono z12)).mono HBW11.out.size)
    have HIZ4 : Hid ((Try.prog.info? 22).map (·.size) = some Z4.size) := Lib.hid (by rw [H44.out]; exact HI.out)
    clear hB12 hb13
    go_wp2_with (first | (refine wpList_store_row rfl 22 _ _ rfl w12.heap.size Z4 rfl rfl 22 Z4 (heap_alloc_new w12 _) HIZ4.out rfl h1Z.out ?_; rw [World.setRow_alloc_new]) | (refine wpList_build_asked (by rfl) 55 _ rfl #[] (by rfl) Z HBZ.out ?_) | (refine wpList_store_row rfl 55 _ _ rfl (w.heap.size + 1) Z rfl rfl 55 Z hS13 HIZ.out rfl hone ?_))
    refine bodyPost_ret (results_row_tmp rfl _ _ (w.heap.size + 1) 55 Z _ _ rfl (setRow_heap _ _ _ _ _ _ hS13) Try.underlying55 rfl HIZ.out) rfl ?_
    exact ⟨by rw [HRR.out, HZ.out]; rfl, below_setRow hBw13 (by omega) _⟩
  · rw [hrt] at HB2
    simp only [if_true] at HB2
    rw [HP2.out, HC.out] at HB2
    have HRR : Hid (En.ofE kind b = (e2, 0)) := Lib.hid (by rw [HR2.out, hrt]; rfl)
    clear hrt
    go_wp2_with (refine wpList_load_row rfl 55 _ rfl w6.heap.size rfl 55 _ _ _ HG2.out Try.underlying55 rfl HI2.out ?_)
    refine (HB2.out _).mono ?_
    rintro x w12 ⟨rfl, hB12⟩
    have z12 := hB12.size
    obtain ⟨W13, hW13⟩ : ∃ W13, w12.alloc (.cells C 22) = W13 := ⟨_, rfl⟩
    have hb13 : Below w12.heap.size w12 W13 := by rw [← hW13]; exact (Below.refl _ _).alloc (Nat.le_refl _) _
    have hn13 : W13.heap[w12.heap.size]? = some (.cells C 22 (0, 0)) := by rw [← hW13]; exact heap_alloc_new w12 _
    have hB1113 : Below w11.heap.size w11 W13 := hB12.trans (hb13.mono z12)
    have hS13 := (hB1113.block (w.heap.size + 1) (by omega)).trans HS11.out
    have hF13 := (hB1113.block w.heap.size (by omega)).trans HF11.out
    have hG13 := (hB1113.block w6.heap.size z11).trans HG2.out
    have hBw13 := HBW11.out.trans (hB1113.mono HBW11.out.size)
    have HW13 := Lib.hid hW13
    clear hB12 hb13 hB1113 hW13
    go_upto_region 5 with (refine wpList_store_row rfl 22 _ _ rfl w12.heap.size C rfl rfl 22 Z4 (heap_alloc_new w12 _) HI.out H44.out H1B.out ?_; rw [World.setRow_alloc_new])
    rw [HW13.out]
    go_wp2_with (first | (refine wpList_row_on (by rfl) 22 _ rfl w12.heap.size rfl 22 _ _ _ hn13 Try.underlying22 rfl HI.out ?_) | (refine wpList_row_on (by rfl) 22 _ rfl w.heap.size rfl 22 _ _ _ hF13 Try.underlying22 rfl HI.out ?_) | (refine wpList_neq_on (by rfl) 22 22 _ _ rfl C C rfl rfl (by kernel_rfl) true HEQ.out ?_) | (refine wpList_row_on (by rfl) 55 _ rfl w6.heap.size rfl 55 _ _ _ hG13 Try.underlying55 rfl HI2.out ?_) | (refine wpList_store_row rfl 55 _ _ rfl (w.heap.size + 1) (EC e2) rfl rfl 55 Z hS13 HI2.out HSZ2.out hone2 ?_))
    refine bodyPost_ret (results_row_tmp rfl _ _ (w.heap.size + 1) 55 (EC e2) _ _ rfl (setRow_heap _ _ _ _ _ _ hS13) Try.underlying55 rfl HI2.out) rfl ?_
    exact ⟨by rw [HRR.out]; rfl, below_setRow hBw13 (by omega) _⟩
end Go.Proofs.Ytfcadbeamojdpaa
