/- Proved here, one behind the other: Proved here: the walk of the law on two copies. -/
import Derived.Test.YtjnneoejnpephaaBa
import Derived.Test.YtjnneoejnpephaaBc
import Derived.Test.YtjnneoejnpephaaBn
import Derived.Test.YtjnneoejnpephaaBs
import Derived.Test.YtjnneoejnpephaaBt
import Derived.Test.YtjnneoejnpephaaBk
namespace Go.Proofs.Ytjnneoejnpephaa
open Go.RowKit Go.Rv Frm
set_option linter.unusedVariables false
attribute [local go_sem] Oper.semAt_some
theorem take_step {α : Type} [DecidableEq α] {xs ys : List α} {k : Nat} {x y : α} (hx : xs[k]? = some x) (hy : ys[k]? = some y) : decide (xs.take (k + 1) = ys.take (k + 1)) = (decide (xs.take k = ys.take k) && decide (x = y)) := by
  have hlx : (xs.take k).length = (ys.take k).length := by
    have h1 := (List.getElem?_eq_some_iff.1 hx).1
    have h2 := (List.getElem?_eq_some_iff.1 hy).1
    rw [List.length_take, List.length_take]; omega
  rw [List.take_add_one, List.take_add_one, hx, hy, Bool.eq_iff_iff]
  rw [Bool.and_eq_true, decide_eq_true_iff, decide_eq_true_iff, decide_eq_true_iff]
  simp only [Option.toList_some]
  constructor
  · intro h
    have h2 := List.append_inj h hlx
    exact ⟨h2.1, by simpa using h2.2⟩
  · rintro ⟨h1, h2⟩
    rw [h1, h2]
set_option maxRecDepth 100000 in
set_option maxHeartbeats 32000000 in
theorem ck_unlike_walk (w : World) (g : Geo.G) (a1 a2 : Option Addr) (l1 l2 : List (Int × BE)) (c1 c2 : Nat) (gen epoch next : Int) (hI1 : RowOf w 7 opC Op64 a1 l1) (hI2 : RowOf w 7 opC Op64 a2 l2) :
    Calls Try.prog 9 #[.agg (GC g), .slice a1 l1.length c1, .slice a2 l2.length c2, .int .i64 gen, .int .i64 epoch, .int .i64 next] w fun e w' => e = .returned (.bool true) ∧ Below w.heap.size w w' := by
  have HA := Lib.hid (fun W => ck_anchor W)
  have HGI := Lib.hid (gsize (g := g))
  have HMA : Hid (∀ W, Below w.heap.size w W → Calls Try.prog 33 #[.agg (GC g), .slice a1 l1.length c1, .int .i64 gen, .int .i64 epoch, .int .i64 next] W (MadePost13 W g l1 gen epoch next)) := Lib.hid (fun W hW => made13_any g a1 l1 c1 gen epoch next W (hI1.below hW))
  have HMB : Hid (∀ W, Below w.heap.size w W → Calls Try.prog 33 #[.agg (GC g), .slice a2 l2.length c2, .int .i64 gen, .int .i64 epoch, .int .i64 next] W (MadePost13 W g l2 gen epoch next)) := Lib.hid (fun W hW => made13_any g a2 l2 c2 gen epoch next W (hI2.below hW))
  have HNW := Lib.hid (fun (W : World) => new_any W)
  have hzs := (zero_of_info Try.infoSnz).1
  have hzr := (zero_of_info Try.infoRS).1
  have hzt := (zero_of_info Try.infoTab).1
  have HIT := Lib.hid size_tab
  have HST := Lib.hid (show Tb.zero.size = Tb.tabV.size by rw [Tb.size_zero, Tb.size_tabV])
  have H1T := Lib.hid Tb.one_tabV
  have HKS := Lib.hid (fun (W : World) p le ll ce cl s h => ksectors_any W p le ll ce cl s h 0)
  have hal := (Below.refl w.heap.size w).alloc (Nat.le_refl _) (.cells (GC g) 23)
  have hnew := heap_alloc_new w (.cells (GC g) 23)
  clear hI1 hI2
  obtain ⟨TV, hTV⟩ : ∃ T, Tb.tabV = T := ⟨_, rfl⟩
  rw [hTV] at HIT HST H1T HNW HKS
  obtain ⟨TZ, hTZ⟩ : ∃ T, Tb.zero = T := ⟨_, rfl⟩
  rw [hTZ] at hzt HST
  obtain ⟨GX, hGX⟩ : ∃ GX, GC g = GX := ⟨_, rfl⟩
  rw [hGX] at HGI HMA HMB hal hnew ⊢
  clear hGX hTV hTZ
  go_enter Try.func9, Try.ntmps9
  go_wp2_with fail
  refine (HA.out _).mono ?_
  rintro e w0 ⟨rfl, hB0⟩
  have HG0 := Lib.hid ((hB0.block w.heap.size (by simp)).trans hnew)
  have HB0 := Lib.hid (hal.trans (hB0.mono hal.size))
  have zw0 : w.heap.size < w0.heap.size := (Array.getElem?_eq_some_iff.1 HG0.out).1
  clear hal hnew hB0
  go_wp2_with (refine wpList_row_on (by rfl) 23 _ rfl w.heap.size rfl 23 _ _ _ HG0.out Try.underlying23 rfl HGI.out ?_)
  refine (HMA.out _ HB0.out).mono ?_
  rintro eaA waA ⟨SA, TA, okA, rfl, ⟨i1, i2, i3⟩, ⟨j1, j2, j3⟩, hBA, hcA⟩
  have HIA := Lib.hid i1
  have HOA := Lib.hid i2
  have HZA := Lib.hid i3
  have HJA := Lib.hid j1
  have HPA := Lib.hid j2
  have HYA := Lib.hid j3
  have HCA := Lib.hid hcA
  have zbA := hBA.size
  obtain ⟨VA, hVA⟩ : ∃ V, (waA.alloc (.cells SZ 28)).alloc (.cells RZ 32) = V := ⟨_, rfl⟩
  have hvA : VA.heap[waA.heap.size]? = some (.cells SZ 28 (0, 0)) := by rw [← hVA]; exact heap_alloc2_old _ _ _
  have huA : VA.heap[waA.heap.size + 1]? = some (.cells RZ 32 (0, 0)) := by rw [← hVA]; exact heap_alloc2_new _ _ _
  have hbA : Below waA.heap.size waA VA := by rw [← hVA]; exact ((Below.refl _ _).alloc (Nat.le_refl _) _).alloc (by simp) _
  obtain ⟨UA, hUA⟩ : ∃ U, VA.setRow waA.heap.size SA = U := ⟨_, rfl⟩
  have hsA : Only [waA.heap.size] VA UA := by rw [← hUA]; exact only_setRow _ _ _
  have hrA : UA.heap[waA.heap.size]? = some (.cells SA 28 (0, 0)) := by rw [← hUA]; exact setRow_heap _ _ _ _ _ _ hvA
  have hqA := hsA.get huA (by simp)
  obtain ⟨WA, hWA⟩ : ∃ W, UA.setRow (waA.heap.size + 1) TA = W := ⟨_, rfl⟩
  have htA : Only [waA.heap.size + 1] UA WA := by rw [← hWA]; exact only_setRow _ _ _
  have HQAwA := Lib.hid (htA.get hrA (by simp))
  have HTTA : Hid (WA.heap[waA.heap.size + 1]? = some (.cells TA 32 (0, 0))) := Lib.hid (by rw [← hWA]; exact setRow_heap _ _ _ _ _ _ hqA)
  have hxA : Below waA.heap.size waA WA := hbA.trans ((hsA.below (B := waA.heap.size) (by simp) hbA.size).trans (htA.below (B := waA.heap.size) (by simp) (by have := hsA.size; have := hbA.size; omega)))
  have hyA := hBA.trans (hxA.mono zbA)
  have HGA := Lib.hid ((hyA.block w.heap.size (by omega)).trans HG0.out)
  have HBA := Lib.hid (HB0.out.trans (hyA.mono HB0.out.size))
  have HXA := Lib.hid hxA
  have HYYA := Lib.hid hyA
  have HVA := Lib.hid hVA
  have HUA := Lib.hid hUA
  have HWA := Lib.hid hWA
  have HH1A := Lib.hid hvA
  have HH2A := Lib.hid hqA
  have zzA : waA.heap.size + 1 < WA.heap.size := (Array.getElem?_eq_some_iff.1 HTTA.out).1
  clear i1 i2 i3 j1 j2 j3 hBA hcA hVA hvA huA hbA hUA hsA hrA hqA hWA htA hxA hyA
  go_upto_region 4 with (first | (rw [show (waA.alloc (.cells SZ 28)).alloc (.cells RZ 32) = VA from HVA.out]; refine wpList_store_row rfl 28 _ _ rfl waA.heap.size SA rfl rfl 28 SZ HH1A.out HIA.out HZA.out HOA.out ?_; rw [HUA.out]) | (refine wpList_store_row rfl 32 _ _ rfl (waA.heap.size + 1) TA rfl rfl 32 RZ HH2A.out HJA.out HYA.out HPA.out ?_; rw [HWA.out]))
  go_wp2_with (refine wpList_row_on (by rfl) 23 _ rfl w.heap.size rfl 23 _ _ _ HGA.out Try.underlying23 rfl HGI.out ?_)
  refine (HMB.out _ HBA.out).mono ?_
  rintro eaB waB ⟨SB, TB, okB, rfl, ⟨i1, i2, i3⟩, ⟨j1, j2, j3⟩, hBB, hcB⟩
  have HIB := Lib.hid i1
  have HOB := Lib.hid i2
  have HZB := Lib.hid i3
  have HJB := Lib.hid j1
  have HPB := Lib.hid j2
  have HYB := Lib.hid j3
  have HCB := Lib.hid hcB
  have zbB := hBB.size
  obtain ⟨VB, hVB⟩ : ∃ V, (waB.alloc (.cells SZ 28)).alloc (.cells RZ 32) = V := ⟨_, rfl⟩
  have hvB : VB.heap[waB.heap.size]? = some (.cells SZ 28 (0, 0)) := by rw [← hVB]; exact heap_alloc2_old _ _ _
  have huB : VB.heap[waB.heap.size + 1]? = some (.cells RZ 32 (0, 0)) := by rw [← hVB]; exact heap_alloc2_new _ _ _
  have hbB : Below waB.heap.size waB VB := by rw [← hVB]; exact ((Below.refl _ _).alloc (Nat.le_refl _) _).alloc (by simp) _
  obtain ⟨UB, hUB⟩ : ∃ U, VB.setRow waB.heap.size SB = U := ⟨_, rfl⟩
  have hsB : Only [waB.heap.size] VB UB := by rw [← hUB]; exact only_setRow _ _ _
  have hrB : UB.heap[waB.heap.size]? = some (.cells SB 28 (0, 0)) := by rw [← hUB]; exact setRow_heap _ _ _ _ _ _ hvB
  have hqB := hsB.get huB (by simp)
  obtain ⟨WB, hWB⟩ : ∃ W, UB.setRow (waB.heap.size + 1) TB = W := ⟨_, rfl⟩
  have htB : Only [waB.heap.size + 1] UB WB := by rw [← hWB]; exact only_setRow _ _ _
  have HQBwB := Lib.hid (htB.get hrB (by simp))
  have HTTB : Hid (WB.heap[waB.heap.size + 1]? = some (.cells TB 32 (0, 0))) := Lib.hid (by rw [← hWB]; exact setRow_heap _ _ _ _ _ _ hqB)
  have hxB : Below waB.heap.size waB WB := hbB.trans ((hsB.below (B := waB.heap.size) (by simp) hbB.size).trans (htB.below (B := waB.heap.size) (by simp) (by have := hsB.size; have := hbB.size; omega)))
  have hyB := hBB.trans (hxB.mono zbB)
  have HGB := Lib.hid ((hyB.block w.heap.size (by omega)).trans HGA.out)
  have HBB := Lib.hid (HBA.out.trans (hyB.mono HBA.out.size))
  have HXB := Lib.hid hxB
  have HYYB := Lib.hid hyB
  have HVB := Lib.hid hVB
  have HUB := Lib.hid hUB
  have HWB := Lib.hid hWB
  have HH1B := Lib.hid hvB
  have HH2B := Lib.hid hqB
  have zzB : waB.heap.size + 1 < WB.heap.size := (Array.getElem?_eq_some_iff.1 HTTB.out).1
  have HQAwB := Lib.hid ((hyB.block waA.heap.size (by omega)).trans HQAwA.out)
  clear i1 i2 i3 j1 j2 j3 hBB hcB hVB hvB huB hbB hUB hsB hrB hqB hWB htB hxB hyB
  go_upto_region 5 with (first | (rw [show (waB.alloc (.cells SZ 28)).alloc (.cells RZ 32) = VB from HVB.out]; refine wpList_store_row rfl 28 _ _ rfl waB.heap.size SB rfl rfl 28 SZ HH1B.out HIB.out HZB.out HOB.out ?_; rw [HUB.out]) | (refine wpList_store_row rfl 32 _ _ rfl (waB.heap.size + 1) TB rfl rfl 32 RZ HH2B.out HJB.out HYB.out HPB.out ?_; rw [HWB.out]))
  have hca := HCA.out
  rcases hca with rfl | ⟨rfl, hgr, hla, hra, pa, lea, lla, va, hSA, -, hsa, -, qa1, qa2, qa3⟩
  · go_wp2
    go_ret
    exact ⟨rfl, HBB.out⟩
  have hcb := HCB.out
  rcases hcb with rfl | ⟨rfl, -, hlb, hrb, pb, leb, llb, vb, hSB, -, hsb, -, qb1, qb2, qb3⟩
  · go_wp2
    go_ret
    exact ⟨rfl, HBB.out⟩
  obtain ⟨sa, hsaE⟩ : ∃ sa, Sn.made g l1 gen epoch next = sa := ⟨_, rfl⟩
  obtain ⟨sb, hsbE⟩ : ∃ sb, Sn.made g l2 gen epoch next = sb := ⟨_, rfl⟩
  have hag : sa.g = g := by rw [← hsaE]; rfl
  have hbg : sb.g = g := by rw [← hsbE]; rfl
  rw [hsaE] at hSA hsa hra
  rw [hsbE] at hSB hsb hrb
  have HSA := Lib.hid ((hsa.below HXA.out).below HYYB.out)
  have HSB := Lib.hid (hsb.below HXB.out)
  have hka := Sn.ok_zero hsa.hg hra
  have hkb := Sn.ok_zero hsb.hg hrb
  obtain ⟨LA, hLA⟩ : ∃ L, Ck.secs (sa.frames 0) = L := ⟨_, rfl⟩
  obtain ⟨LB, hLB⟩ : ∃ L, Ck.secs (sb.frames 0) = L := ⟨_, rfl⟩
  have hfa : Ck.secs (sa.fr 0) = LA := by rw [← hLA]; unfold Sn.S.fr; rw [if_pos hka]
  have hfb : Ck.secs (sb.fr 0) = LB := by rw [← hLB]; unfold Sn.S.fr; rw [if_pos hkb]
  have hea : sa.er 0 = 0 := by unfold Sn.S.er; rw [if_pos hka]
  have heb : sb.er 0 = 0 := by unfold Sn.S.er; rw [if_pos hkb]
  obtain ⟨m, hm⟩ : ∃ m, Sn.nParts g = m := ⟨_, rfl⟩
  have hlA : LA.length = m := by rw [← hLA, Ck.secs, List.length_map, Sn.S.frames_length sa ((Geo.right_iff _).1 hsa.hg).1, hag, hm]
  have hlB : LB.length = m := by rw [← hLB, Ck.secs, List.length_map, Sn.S.frames_length sb ((Geo.right_iff _).1 hsb.hg).1, hbg, hm]
  have HKA : Hid (∀ W, SnIs W pa lea lla g.b.toNat (nz g) sa → Calls Try.prog 35 #[.agg TV, .agg SA, .int .i64 0] W fun e w' => ∃ v, e = .returned (.tuple #[v, .int .i64 0]) ∧ OwnM w' 77 64 byteCells Sec W.heap.size v LA ∧ Below W.heap.size W w') := Lib.hid (fun W h => by
    have := HKS.out W _ _ _ _ _ sa h
    rw [hea, hfa] at this
    rw [hSA]
    exact this)
  have HKB : Hid (∀ W, SnIs W pb leb llb g.b.toNat (nz g) sb → Calls Try.prog 35 #[.agg TV, .agg SB, .int .i64 0] W fun e w' => ∃ v, e = .returned (.tuple #[v, .int .i64 0]) ∧ OwnM w' 77 64 byteCells Sec W.heap.size v LB ∧ Below W.heap.size W w') := Lib.hid (fun W h => by
    have := HKS.out W _ _ _ _ _ sb h
    rw [heb, hfb] at this
    rw [hSB]
    exact this)
  have hinj : sa.fr 0 = sb.fr 0 ↔ LA = LB := by
    unfold Sn.S.fr
    rw [if_pos hka, if_pos hkb, ← hLA, ← hLB]
    constructor
    · intro h; rw [h]
    · intro h
      exact Ck.secs_inj (fun f hf => by have := Sn.frames_right hsa.hg hka f hf; exact ⟨this.2.2, this.1⟩) (fun f hf => by have := Sn.frames_right hsb.hg hkb f hf; exact ⟨this.2.2, this.1⟩) h
  have HSM : Hid (∀ W, SnIs W pa lea lla g.b.toNat (nz g) sa → SnIs W pb leb llb g.b.toNat (nz g) sb → Calls Try.prog 26 #[.agg SA, .agg SB] W fun e w' => e = .returned (.bool (decide (LA = LB))) ∧ Below W.heap.size W w') := Lib.hid (fun W h h' => by
    have := ssame_any W _ _ _ _ _ _ _ _ _ _ sa sb h h'
    rw [show decide (sa.er 0 = sb.er 0 ∧ sa.fr 0 = sb.fr 0) = decide (LA = LB) from decide_eq_decide.2 ⟨fun h => hinj.1 h.2, fun h => ⟨by rw [hea, heb], hinj.2 h⟩⟩] at this
    rw [hSA, hSB]
    exact this)
  have HLA := Lib.hid hlA
  have HLB := Lib.hid hlB
  have hm64 : m ≤ 64 := by rw [← hm]; exact Sn.nParts_64 hgr
  clear hgr hla hra hSA hsa hlb hrb hSB hsb hka hkb hfa hfb hea heb hlA hlB hinj hag hbg hsaE hsbE hLA hLB hm
  go_wp2_with fail
  refine (HNW.out _).mono ?_
  rintro e5 w5 ⟨rfl, hB5⟩
  have z5 := hB5.size
  obtain ⟨W6, hW6⟩ : ∃ W, w5.alloc (.cells TV 71) = W := ⟨_, rfl⟩
  have hb6 : Below w5.heap.size w5 W6 := by rw [← hW6]; exact (Below.refl _ _).alloc (Nat.le_refl _) _
  have hT6 : W6.heap[w5.heap.size]? = some (.cells TV 71 (0, 0)) := by rw [← hW6]; exact heap_alloc_new w5 _
  have zT6 : w5.heap.size < W6.heap.size := (Array.getElem?_eq_some_iff.1 hT6).1
  have hb := hB5.trans (hb6.mono z5)
  have HT6 := Lib.hid hT6
  have HSA6 := Lib.hid (HSA.out.below hb)
  have HSB6 := Lib.hid (HSB.out.below hb)
  have HQA6 := Lib.hid ((hb.block waA.heap.size (by omega)).trans HQAwB.out)
  have HQB6 := Lib.hid ((hb.block waB.heap.size (by omega)).trans HQBwB.out)
  have HB6 := Lib.hid (HBB.out.trans (hb.mono HBB.out.size))
  have HW6 := Lib.hid hW6
  clear hB5 hW6 hb6 hT6 hb
  go_upto_region 8 with (refine wpList_store_row rfl 71 _ _ rfl w5.heap.size TV rfl rfl 71 TZ (heap_alloc_new w5 _) HIT.out HST.out H1T.out ?_; rw [World.setRow_alloc_new])
  rw [HW6.out, put_none]
  go_wp2_with (first | (refine wpList_load_row rfl 71 _ rfl w5.heap.size rfl 71 _ _ _ HT6.out Try.underlying71 rfl HIT.out ?_) | (refine wpList_load_row rfl 28 _ rfl waA.heap.size rfl 28 _ _ _ HQA6.out Try.underlying28 rfl HIA.out ?_))
  refine (HKA.out _ HSA6.out).mono ?_
  rintro e7 w7 ⟨v7, rfl, ho7, hB7⟩
  have z7 := hB7.size
  have HT7 := Lib.hid ((hB7.block w5.heap.size zT6).trans HT6.out)
  have HSA7 := Lib.hid (HSA6.out.below hB7)
  have HSB7 := Lib.hid (HSB6.out.below hB7)
  have HQA7 := Lib.hid ((hB7.block waA.heap.size (by omega)).trans HQA6.out)
  have HQB7 := Lib.hid ((hB7.block waB.heap.size (by omega)).trans HQB6.out)
  have HB7 := Lib.hid (HB6.out.trans (hB7.mono HB6.out.size))
  have HO7 := Lib.hid ho7
  clear hB7 ho7
  go_wp2_with (first | (refine wpList_load_row rfl 71 _ rfl w5.heap.size rfl 71 _ _ _ HT7.out Try.underlying71 rfl HIT.out ?_) | (refine wpList_load_row rfl 28 _ rfl waB.heap.size rfl 28 _ _ _ HQB7.out Try.underlying28 rfl HIB.out ?_))
  refine (HKB.out _ HSB7.out).mono ?_
  rintro e8 w8 ⟨v8, rfl, ho8, hB8⟩
  have z8 := hB8.size
  have HSA8 := Lib.hid (HSA7.out.below hB8)
  have HSB8 := Lib.hid (HSB7.out.below hB8)
  have HQA8 := Lib.hid ((hB8.block waA.heap.size (by omega)).trans HQA7.out)
  have HQB8 := Lib.hid ((hB8.block waB.heap.size (by omega)).trans HQB7.out)
  have HB8 := Lib.hid (HB7.out.trans (hB8.mono HB7.out.size))
  obtain ⟨aA, cA, rfl, hrA, -, -, -, -⟩ := (HO7.out.below hB8).shape kinB
  obtain ⟨aB, cB, rfl, hrB, -, -, -, -⟩ := ho8.shape kinB
  have HRA := Lib.hid hrA
  have HRB := Lib.hid hrB
  rw [HLA.out, HLB.out]
  clear hB8 ho8 hrA hrB
  go_wp2
  go_loopw [24, 82] (fun v u wr => ∃ k : Nat, k ≤ m ∧ u = .int .i64 k ∧ v = .bool (decide (LA.take k = LB.take k)) ∧ Below w8.heap.size w8 wr) (fun _ u _ => m - (intOf u).toNat)
  case atStart => exact ⟨0, Nat.zero_le _, rfl, by simp, Below.refl _ _⟩
  case round =>
    obtain ⟨k, hk, rfl, rfl, hBr⟩ := hrel
    have zr := hBr.size
    have HBR := Lib.hid hBr
    clear hBr
    by_cases hlt : k < m
    · obtain ⟨x, hx⟩ : ∃ x, LA[k]? = some x := ⟨_, List.getElem?_eq_getElem (by rw [HLA.out]; exact hlt)⟩
      obtain ⟨y, hy⟩ : ∃ y, LB[k]? = some y := ⟨_, List.getElem?_eq_getElem (by rw [HLB.out]; exact hlt)⟩
      obtain ⟨bA, oA, rfl, -, -, hsx⟩ := HRA.out.at hx
      obtain ⟨bB, oB, rfl, -, -, hsy⟩ := HRB.out.at hy
      have hgx : ∀ W, Below wr.heap.size wr W → W.rangeAt bA (oA + k * 64) (byteCells x).toList := fun W hW => ((HRA.out.below HBR.out).below hW).range hx (by rw [size_byteCells, hsx.1])
      have hgy : ∀ W, Below wr.heap.size wr W → W.rangeAt bB (oB + k * 64) (byteCells y).toList := fun W hW => ((HRB.out.below HBR.out).below hW).range hy (by rw [size_byteCells, hsy.1])
      have hix : (Try.prog.info? 77).map (·.size) = some (byteCells x).toList.length := by rw [Array.length_toList]; exact size_sec hsx.1
      have hiy : (Try.prog.info? 77).map (·.size) = some (byteCells y).toList.length := by rw [Array.length_toList]; exact size_sec hsy.1
      have hstep := take_step hx hy
      obtain ⟨q, hq⟩ : ∃ q : Bool, decide (x = y) = q := ⟨_, rfl⟩
      have heq := fun W => eq_sec x y hsx.1 hsy.1 hsx.2 hsy.2 q (by rw [← hq]; exact decide_eq_true_iff) W
      rw [hq] at hstep
      obtain ⟨p, hp⟩ : ∃ p : Bool, decide (LA.take k = LB.take k) = p := ⟨_, rfl⟩
      rw [hp] at hstep ⊢
      obtain ⟨XL, hXL⟩ : ∃ XL, (byteCells x).toList = XL := ⟨_, rfl⟩
      obtain ⟨YL, hYL⟩ : ∃ YL, (byteCells y).toList = YL := ⟨_, rfl⟩
      have hXC : byteCells x = XL.toArray := by rw [← hXL]
      have hYC : byteCells y = YL.toArray := by rw [← hYL]
      rw [hXL] at hgx hix
      rw [hYL] at hgy hiy
      rw [hXC, hYC] at heq
      have HGX := Lib.hid hgx
      have HGY := Lib.hid hgy
      have HIX := Lib.hid hix
      have HIY := Lib.hid hiy
      have HEQ := Lib.hid heq
      have HSTEP := Lib.hid hstep
      clear hx hy hsx hsy hgx hgy hix hiy hstep hq heq hp hXL hYL hXC hYC
      cases p
      · go_upto_region 16 with (fail)
        refine wp_region_conf2 12 [Fact.eq (.bool false), Fact.eq (.bool false), Fact.eq undef, Fact.eq undef, Fact.eq undef, Fact.eq undef, Fact.eq undef, Fact.eq undef, Fact.eq undef, Fact.eq undef, Fact.eq undef, Fact.eq (.bool false)] ?raA (by kernel_rfl) (by kernel_rfl) ?rahA ?raho ?rahend
        case rahA =>
          intro vv
          simp only [putRules, Nat.reduceAdd]
          rfl
        case raho =>
          refine ⟨?_, ?_, ?_, ?_, ?_, ?_, ?_, ?_, ?_, ?_, ?_, ?_, trivial⟩
          · intro vv W K hB hd HK
            simp only [confRules] at HK
            clear hd
            go_wp2
            refine HK.out _ _ (Below.refl _ _) ?_
            rfl
          · intro vv W K hB hd HK
            simp only [confRules] at hd HK
            have h0 := hd
            clear hd
            simp only [h0] at HK ⊢
            clear h0
            go_wp2
            refine HK.out _ _ (Below.refl _ _) ?_
            rfl
          · intro vv W K hB hd HK
            simp only [confRules] at hd HK
            have h1 := hd
            clear hd
            simp only [h1] at HK ⊢
            clear h1
            refine wpList_guard_no (by rfl) ?_
            refine HK.out _ _ (Below.refl _ _) ?_
            rfl
          · intro vv W K hB hd HK
            simp only [confRules] at hd HK
            have h1 := hd
            clear hd
            simp only [h1] at HK ⊢
            clear h1
            refine wpList_guard_no (by rfl) ?_
            refine HK.out _ _ (Below.refl _ _) ?_
            rfl
          · intro vv W K hB hd HK
            simp only [confRules] at hd HK
            obtain ⟨h2, h3, h1⟩ := hd
            simp only [h2, h3, h1] at HK ⊢
            clear h2 h3 h1
            refine wpList_guard_no (by rfl) ?_
            refine HK.out _ _ (Below.refl _ _) ?_
            rfl
          · intro vv W K hB hd HK
            simp only [confRules] at hd HK
            obtain ⟨h4, h1⟩ := hd
            simp only [h4, h1] at HK ⊢
            clear h4 h1
            refine wpList_guard_no (by rfl) ?_
            refine HK.out _ _ (Below.refl _ _) ?_
            rfl
          · intro vv W K hB hd HK
            simp only [confRules] at hd HK
            have h1 := hd
            clear hd
            simp only [h1] at HK ⊢
            clear h1
            refine wpList_guard_no (by rfl) ?_
            refine HK.out _ _ (Below.refl _ _) ?_
            rfl
          · intro vv W K hB hd HK
            simp only [confRules] at hd HK
            have h1 := hd
            clear hd
            simp only [h1] at HK ⊢
            clear h1
            refine wpList_guard_no (by rfl) ?_
            refine HK.out _ _ (Below.refl _ _) ?_
            rfl
          · intro vv W K hB hd HK
            simp only [confRules] at hd HK
            obtain ⟨h6, h7, h1⟩ := hd
            simp only [h6, h7, h1] at HK ⊢
            clear h6 h7 h1
            refine wpList_guard_no (by rfl) ?_
            refine HK.out _ _ (Below.refl _ _) ?_
            rfl
          · intro vv W K hB hd HK
            simp only [confRules] at hd HK
            obtain ⟨h8, h1⟩ := hd
            simp only [h8, h1] at HK ⊢
            clear h8 h1
            refine wpList_guard_no (by rfl) ?_
            refine HK.out _ _ (Below.refl _ _) ?_
            rfl
          · intro vv W K hB hd HK
            simp only [confRules] at hd HK
            obtain ⟨h5, h9, h1⟩ := hd
            simp only [h5, h9, h1] at HK ⊢
            clear h5 h9 h1
            refine wpList_guard_no (by rfl) ?_
            refine HK.out _ _ (Below.refl _ _) ?_
            rfl
          · intro vv W K hB hd HK
            simp only [confRules] at hd HK
            obtain ⟨h1, h10⟩ := hd
            simp only [h1, h10] at HK ⊢
            clear h1 h10
            go_wp2
            refine HK.out _ _ (Below.refl _ _) ?_
            rfl
        case rahend =>
          intro vv W hB hf
          have e11 := hf 11 (by decide)
          simp only [endRules] at e11
          simp only [e11, dropRules]
          clear hf e11
          have HBW := Lib.hid (HBR.out.trans (hB.mono HBR.out.size))
          clear hB
          go_wp2
          exact ⟨⟨k + 1, by omega, by go_num, by rw [HSTEP.out]; rfl, HBW.out⟩, by simp [intOf]; omega⟩
      · go_upto_region 16 with (fail)
        refine wp_region_conf2 12 [Fact.eq (.bool true), Fact.eq (.bool true), Fact.eq (.slice (some ⟨bA, oA, none⟩) m cA), Fact.eq (.int .i64 (k : Nat)), Fact.eq (.pointer (some ⟨bA, oA + k * 64, none⟩)), Fact.eq (.agg XL.toArray), Fact.eq (.slice (some ⟨bB, oB, none⟩) m cB), Fact.eq (.int .i64 (k : Nat)), Fact.eq (.pointer (some ⟨bB, oB + k * 64, none⟩)), Fact.eq (.agg YL.toArray), Fact.eq (.bool q), Fact.eq (.bool q)] ?rbA (by kernel_rfl) (by kernel_rfl) ?rbhA ?rbho ?rbhend
        case rbhA =>
          intro vv
          simp only [putRules, Nat.reduceAdd]
          rfl
        case rbho =>
          refine ⟨?_, ?_, ?_, ?_, ?_, ?_, ?_, ?_, ?_, ?_, ?_, ?_, trivial⟩
          · intro vv W K hB hd HK
            simp only [confRules] at HK
            clear hd
            go_wp2
            refine HK.out _ _ (Below.refl _ _) ?_
            rfl
          · intro vv W K hB hd HK
            simp only [confRules] at hd HK
            have h0 := hd
            clear hd
            simp only [h0] at HK ⊢
            clear h0
            go_wp2
            refine HK.out _ _ (Below.refl _ _) ?_
            rfl
          · intro vv W K hB hd HK
            simp only [confRules] at hd HK
            have h1 := hd
            clear hd
            simp only [h1] at HK ⊢
            clear h1
            refine wpList_guard_yes (by rfl) ?_
            go_wp2
            refine HK.out _ _ (Below.refl _ _) ?_
            rfl
          · intro vv W K hB hd HK
            simp only [confRules] at hd HK
            have h1 := hd
            clear hd
            simp only [h1] at HK ⊢
            clear h1
            refine wpList_guard_yes (by rfl) ?_
            go_wp2
            refine HK.out _ _ (Below.refl _ _) ?_
            rfl
          · intro vv W K hB hd HK
            simp only [confRules] at hd HK
            obtain ⟨h2, h3, h1⟩ := hd
            simp only [h2, h3, h1] at HK ⊢
            clear h2 h3 h1
            refine wpList_guard_yes (by rfl) ?_
            go_wp2
            refine HK.out _ _ (Below.refl _ _) ?_
            rfl
          · intro vv W K hB hd HK
            simp only [confRules] at hd HK
            obtain ⟨h4, h1⟩ := hd
            simp only [h4, h1] at HK ⊢
            clear h4 h1
            refine wpList_guard_yes (by rfl) ?_
            have hT := HGX.out _ hB
            go_wp2_with (refine wpList_load_mid rfl 77 _ rfl bA (oA + k * 64) rfl XL _ hT Try.underlying77 rfl HIX.out ?_)
            refine HK.out _ _ (Below.refl _ _) ?_
            rfl
          · intro vv W K hB hd HK
            simp only [confRules] at hd HK
            have h1 := hd
            clear hd
            simp only [h1] at HK ⊢
            clear h1
            refine wpList_guard_yes (by rfl) ?_
            go_wp2
            refine HK.out _ _ (Below.refl _ _) ?_
            rfl
          · intro vv W K hB hd HK
            simp only [confRules] at hd HK
            have h1 := hd
            clear hd
            simp only [h1] at HK ⊢
            clear h1
            refine wpList_guard_yes (by rfl) ?_
            go_wp2
            refine HK.out _ _ (Below.refl _ _) ?_
            rfl
          · intro vv W K hB hd HK
            simp only [confRules] at hd HK
            obtain ⟨h6, h7, h1⟩ := hd
            simp only [h6, h7, h1] at HK ⊢
            clear h6 h7 h1
            refine wpList_guard_yes (by rfl) ?_
            go_wp2
            refine HK.out _ _ (Below.refl _ _) ?_
            rfl
          · intro vv W K hB hd HK
            simp only [confRules] at hd HK
            obtain ⟨h8, h1⟩ := hd
            simp only [h8, h1] at HK ⊢
            clear h8 h1
            refine wpList_guard_yes (by rfl) ?_
            have hT := HGY.out _ hB
            go_wp2_with (refine wpList_load_mid rfl 77 _ rfl bB (oB + k * 64) rfl YL _ hT Try.underlying77 rfl HIY.out ?_)
            refine HK.out _ _ (Below.refl _ _) ?_
            rfl
          · intro vv W K hB hd HK
            simp only [confRules] at hd HK
            obtain ⟨h5, h9, h1⟩ := hd
            simp only [h5, h9, h1] at HK ⊢
            clear h5 h9 h1
            refine wpList_guard_yes (by rfl) ?_
            go_wp2_with (refine wpList_eql_on (by rfl) 77 77 _ _ rfl XL.toArray YL.toArray rfl rfl (by kernel_rfl) q HEQ.out ?_)
            refine HK.out _ _ (Below.refl _ _) ?_
            rfl
          · intro vv W K hB hd HK
            simp only [confRules] at hd HK
            obtain ⟨h1, h10⟩ := hd
            simp only [h1, h10] at HK ⊢
            clear h1 h10
            go_wp2
            refine HK.out _ _ (Below.refl _ _) ?_
            rfl
        case rbhend =>
          intro vv W hB hf
          have e11 := hf 11 (by decide)
          simp only [endRules] at e11
          simp only [e11, dropRules]
          clear hf e11
          have HBW := Lib.hid (HBR.out.trans (hB.mono HBR.out.size))
          clear hB
          go_wp2
          exact ⟨⟨k + 1, by omega, by go_num, by rw [HSTEP.out]; rfl, HBW.out⟩, by simp [intOf]; omega⟩
    · obtain rfl : k = m := by omega
      have hfin : decide (LA.take k = LB.take k) = decide (LA = LB) := by rw [List.take_of_length_le (by rw [HLA.out]; exact Nat.le_refl _), List.take_of_length_le (by rw [HLB.out]; exact Nat.le_refl _)]
      rw [hfin]
      have HSMr := Lib.hid (HSM.out wr (HSA8.out.below HBR.out) (HSB8.out.below HBR.out))
      obtain ⟨r, hr⟩ : ∃ r : Bool, decide (LA = LB) = r := ⟨_, rfl⟩
      rw [hr] at HSMr ⊢
      have HQAr := Lib.hid ((HBR.out.block waA.heap.size (by omega)).trans HQA8.out)
      have HQBr := Lib.hid ((HBR.out.block waB.heap.size (by omega)).trans HQB8.out)
      have HBx := Lib.hid (HB8.out.trans (HBR.out.mono HB8.out.size))
      clear hfin hr
      go_wp2_with (first | (refine wpList_load_row rfl 28 _ rfl waA.heap.size rfl 28 _ _ _ HQAr.out Try.underlying28 rfl HIA.out ?_) | (refine wpList_load_row rfl 28 _ rfl waB.heap.size rfl 28 _ _ _ HQBr.out Try.underlying28 rfl HIB.out ?_))
      refine HSMr.out.mono ?_
      rintro e9 w9 ⟨rfl, hB9⟩
      have HB9 := Lib.hid (HBx.out.trans (hB9.mono HBx.out.size))
      clear hB9
      have t0 : (r == r) = true := by simp
      go_wp2
      go_ret
      exact ⟨rfl, HB9.out⟩
end Go.Proofs.Ytjnneoejnpephaa
