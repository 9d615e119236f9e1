/- Proved here, one behind the other: Proved here: the walk of the law on mixed frames. -/
import Derived.Test.YtjnneoejnpephaaBa
import Derived.Test.YtjnneoejnpephaaBc
import Derived.Test.YtjnneoejnpephaaBn
import Derived.Test.YtjnneoejnpephaaBs
import Derived.Test.YtjnneoejnpephaaBt
namespace Go.Proofs.Ytjnneoejnpephaa
open Go.RowKit Go.Rv Frm
set_option linter.unusedVariables false
attribute [local go_sem] Oper.semAt_some
theorem _root_.Go.Rv.RowOf.imp {α : Type} {w : World} {n : Nat} {X : α → Array Value} {Q Q' : α → Prop} {a : Option Addr} {xs : List α} (h : RowOf w n X Q a xs) (hq : ∀ x ∈ xs, Q' x) : RowOf w n X Q' a xs := by
  rcases h with h | ⟨b, o, e, hb, hc⟩
  · exact .inl h
  · exact .inr ⟨b, o, e, hb, fun k x hk => ⟨(hc k x hk).1, hq x (List.mem_of_getElem? hk)⟩⟩
theorem sread_any (w : World) (a : Option Addr) (l : List Fr) (cap : Nat) (hI : RowOf w 49 FC FrQ a l) (hl : l.length ≤ 100000) (hcap : l.length ≤ cap) (hcm : cap ≤ 9223372036854775807) :
    Calls Try.prog 27 #[.slice a l.length cap] w (ReadPost w l) := by
  cases l with
  | nil => exact sread_nil w a cap
  | cons f r => exact sread_cons w a f r cap hI hl hcap hcm
set_option maxRecDepth 100000 in
set_option maxHeartbeats 16000000 in
theorem sn_mixed_walk (w : World) (g : Geo.G) (a1 a2 : Option Addr) (l1 l2 : List (Int × BE)) (c1 c2 : Nat) (at' : Int) (hI1 : RowOf w 7 opC Op64 a1 l1) (hI2 : RowOf w 7 opC Op64 a2 l2) :
    Calls Try.prog 6 #[.agg (GC g), .slice a1 l1.length c1, .slice a2 l2.length c2, .int .i64 at'] w fun e w' => e = .returned (.bool true) ∧ Below w.heap.size w w' := by
  have HA := Lib.hid (fun W => sn_anchor W)
  have HGI := Lib.hid (gsize (g := g))
  have HMA : Hid (∀ W, Below w.heap.size w W → Calls Try.prog 16 #[.agg (GC g), .slice a1 l1.length c1, .int .i64 3, .int .i64 2, .int .i64 281474976710655] W (MadePost W g l1 3 2 281474976710655)) := Lib.hid (fun W hW => made12_any g a1 l1 c1 3 2 281474976710655 W (hI1.below hW))
  have HMB : Hid (∀ W, Below w.heap.size w W → Calls Try.prog 16 #[.agg (GC g), .slice a2 l2.length c2, .int .i64 4, .int .i64 2, .int .i64 281474976710655] W (MadePost W g l2 4 2 281474976710655)) := Lib.hid (fun W hW => made12_any g a2 l2 c2 4 2 281474976710655 W (hI2.below hW))
  have hzs := (zero_of_info Try.infoSnz).1
  have hzr := (zero_of_info Try.infoRS).1
  have hal := (Below.refl w.heap.size w).alloc (Nat.le_refl _) (.cells (GC g) 23)
  have hnew := heap_alloc_new w (.cells (GC g) 23)
  clear hI1 hI2
  obtain ⟨GX, hGX⟩ : ∃ GX, GC g = GX := ⟨_, rfl⟩
  rw [hGX] at HGI HMA HMB hal hnew ⊢
  clear hGX
  go_enter Try.func6, Try.ntmps6
  go_wp2_with fail
  refine (HA.out _).mono ?_
  rintro e w0 ⟨rfl, hB0⟩
  have HG0 := Lib.hid ((hB0.block w.heap.size (by simp)).trans hnew)
  have HB0 := Lib.hid (hal.trans (hB0.mono hal.size))
  have zw0 : w.heap.size < w0.heap.size := (Array.getElem?_eq_some_iff.1 HG0.out).1
  clear hal hnew hB0
  go_wp2_with (refine wpList_row_on (by rfl) 23 _ rfl w.heap.size rfl 23 _ _ _ HG0.out Try.underlying23 rfl HGI.out ?_)
  refine (HMA.out _ HB0.out).mono ?_
  rintro eaA waA ⟨SA, TA, okA, rfl, ⟨i1, i2, i3⟩, ⟨j1, j2, j3⟩, hBA, hcA⟩
  have HIA := Lib.hid i1
  have HOA := Lib.hid i2
  have HZA := Lib.hid i3
  have HJA := Lib.hid j1
  have HPA := Lib.hid j2
  have HYA := Lib.hid j3
  have HCA := Lib.hid hcA
  have zbA := hBA.size
  obtain ⟨VA, hVA⟩ : ∃ V, (waA.alloc (.cells SZ 28)).alloc (.cells RZ 32) = V := ⟨_, rfl⟩
  have hvA : VA.heap[waA.heap.size]? = some (.cells SZ 28 (0, 0)) := by rw [← hVA]; exact heap_alloc2_old _ _ _
  have huA : VA.heap[waA.heap.size + 1]? = some (.cells RZ 32 (0, 0)) := by rw [← hVA]; exact heap_alloc2_new _ _ _
  have hbA : Below waA.heap.size waA VA := by rw [← hVA]; exact ((Below.refl _ _).alloc (Nat.le_refl _) _).alloc (by simp) _
  obtain ⟨UA, hUA⟩ : ∃ U, VA.setRow waA.heap.size SA = U := ⟨_, rfl⟩
  have hsA : Only [waA.heap.size] VA UA := by rw [← hUA]; exact only_setRow _ _ _
  have hrA : UA.heap[waA.heap.size]? = some (.cells SA 28 (0, 0)) := by rw [← hUA]; exact setRow_heap _ _ _ _ _ _ hvA
  have hqA := hsA.get huA (by simp)
  obtain ⟨WA, hWA⟩ : ∃ W, UA.setRow (waA.heap.size + 1) TA = W := ⟨_, rfl⟩
  have htA : Only [waA.heap.size + 1] UA WA := by rw [← hWA]; exact only_setRow _ _ _
  have HQAwA := Lib.hid (htA.get hrA (by simp))
  have HTTA : Hid (WA.heap[waA.heap.size + 1]? = some (.cells TA 32 (0, 0))) := Lib.hid (by rw [← hWA]; exact setRow_heap _ _ _ _ _ _ hqA)
  have hxA : Below waA.heap.size waA WA := hbA.trans ((hsA.below (B := waA.heap.size) (by simp) hbA.size).trans (htA.below (B := waA.heap.size) (by simp) (by have := hsA.size; have := hbA.size; omega)))
  have hyA := hBA.trans (hxA.mono zbA)
  have HGA := Lib.hid ((hyA.block w.heap.size (by omega)).trans HG0.out)
  have HBA := Lib.hid (HB0.out.trans (hyA.mono HB0.out.size))
  have HXA := Lib.hid hxA
  have HYYA := Lib.hid hyA
  have HVA := Lib.hid hVA
  have HUA := Lib.hid hUA
  have HWA := Lib.hid hWA
  have HH1A := Lib.hid hvA
  have HH2A := Lib.hid hqA
  have zzA : waA.heap.size + 1 < WA.heap.size := (Array.getElem?_eq_some_iff.1 HTTA.out).1
  clear i1 i2 i3 j1 j2 j3 hBA hcA hVA hvA huA hbA hUA hsA hrA hqA hWA htA hxA hyA
  go_upto_region 4 with (first | (rw [show (waA.alloc (.cells SZ 28)).alloc (.cells RZ 32) = VA from HVA.out]; refine wpList_store_row rfl 28 _ _ rfl waA.heap.size SA rfl rfl 28 SZ HH1A.out HIA.out HZA.out HOA.out ?_; rw [HUA.out]) | (refine wpList_store_row rfl 32 _ _ rfl (waA.heap.size + 1) TA rfl rfl 32 RZ HH2A.out HJA.out HYA.out HPA.out ?_; rw [HWA.out]))
  go_wp2_with (refine wpList_row_on (by rfl) 23 _ rfl w.heap.size rfl 23 _ _ _ HGA.out Try.underlying23 rfl HGI.out ?_)
  refine (HMB.out _ HBA.out).mono ?_
  rintro eaB waB ⟨SB, TB, okB, rfl, ⟨i1, i2, i3⟩, ⟨j1, j2, j3⟩, hBB, hcB⟩
  have HIB := Lib.hid i1
  have HOB := Lib.hid i2
  have HZB := Lib.hid i3
  have HJB := Lib.hid j1
  have HPB := Lib.hid j2
  have HYB := Lib.hid j3
  have HCB := Lib.hid hcB
  have zbB := hBB.size
  obtain ⟨VB, hVB⟩ : ∃ V, (waB.alloc (.cells SZ 28)).alloc (.cells RZ 32) = V := ⟨_, rfl⟩
  have hvB : VB.heap[waB.heap.size]? = some (.cells SZ 28 (0, 0)) := by rw [← hVB]; exact heap_alloc2_old _ _ _
  have huB : VB.heap[waB.heap.size + 1]? = some (.cells RZ 32 (0, 0)) := by rw [← hVB]; exact heap_alloc2_new _ _ _
  have hbB : Below waB.heap.size waB VB := by rw [← hVB]; exact ((Below.refl _ _).alloc (Nat.le_refl _) _).alloc (by simp) _
  obtain ⟨UB, hUB⟩ : ∃ U, VB.setRow waB.heap.size SB = U := ⟨_, rfl⟩
  have hsB : Only [waB.heap.size] VB UB := by rw [← hUB]; exact only_setRow _ _ _
  have hrB : UB.heap[waB.heap.size]? = some (.cells SB 28 (0, 0)) := by rw [← hUB]; exact setRow_heap _ _ _ _ _ _ hvB
  have hqB := hsB.get huB (by simp)
  obtain ⟨WB, hWB⟩ : ∃ W, UB.setRow (waB.heap.size + 1) TB = W := ⟨_, rfl⟩
  have htB : Only [waB.heap.size + 1] UB WB := by rw [← hWB]; exact only_setRow _ _ _
  have HQBwB := Lib.hid (htB.get hrB (by simp))
  have HTTB : Hid (WB.heap[waB.heap.size + 1]? = some (.cells TB 32 (0, 0))) := Lib.hid (by rw [← hWB]; exact setRow_heap _ _ _ _ _ _ hqB)
  have hxB : Below waB.heap.size waB WB := hbB.trans ((hsB.below (B := waB.heap.size) (by simp) hbB.size).trans (htB.below (B := waB.heap.size) (by simp) (by have := hsB.size; have := hbB.size; omega)))
  have hyB := hBB.trans (hxB.mono zbB)
  have HGB := Lib.hid ((hyB.block w.heap.size (by omega)).trans HGA.out)
  have HBB := Lib.hid (HBA.out.trans (hyB.mono HBA.out.size))
  have HXB := Lib.hid hxB
  have HYYB := Lib.hid hyB
  have HVB := Lib.hid hVB
  have HUB := Lib.hid hUB
  have HWB := Lib.hid hWB
  have HH1B := Lib.hid hvB
  have HH2B := Lib.hid hqB
  have zzB : waB.heap.size + 1 < WB.heap.size := (Array.getElem?_eq_some_iff.1 HTTB.out).1
  have HQAwB := Lib.hid ((hyB.block waA.heap.size (by omega)).trans HQAwA.out)
  clear i1 i2 i3 j1 j2 j3 hBB hcB hVB hvB huB hbB hUB hsB hrB hqB hWB htB hxB hyB
  go_upto_region 5 with (first | (rw [show (waB.alloc (.cells SZ 28)).alloc (.cells RZ 32) = VB from HVB.out]; refine wpList_store_row rfl 28 _ _ rfl waB.heap.size SB rfl rfl 28 SZ HH1B.out HIB.out HZB.out HOB.out ?_; rw [HUB.out]) | (refine wpList_store_row rfl 32 _ _ rfl (waB.heap.size + 1) TB rfl rfl 32 RZ HH2B.out HJB.out HYB.out HPB.out ?_; rw [HWB.out]))
  have hca := HCA.out
  rcases hca with ⟨rfl, -⟩ | ⟨rfl, hgr, hla, pa, lea, lla, va, hSA, -, hsa, -, qa1, qa2, qa3⟩
  · go_wp2
    go_ret
    exact ⟨rfl, HBB.out⟩
  have hcb := HCB.out
  rcases hcb with ⟨rfl, -⟩ | ⟨rfl, -, hlb, pb, leb, llb, vb, hSB, -, hsb, -, qb1, qb2, qb3⟩
  · go_wp2
    go_ret
    exact ⟨rfl, HBB.out⟩
  obtain ⟨sa, hsaE⟩ : ∃ sa, Sn.made g l1 3 2 281474976710655 = sa := ⟨_, rfl⟩
  obtain ⟨sb, hsbE⟩ : ∃ sb, Sn.made g l2 4 2 281474976710655 = sb := ⟨_, rfl⟩
  have hag : sa.g = g ∧ sa.gen = 3 := by rw [← hsaE]; exact ⟨rfl, rfl⟩
  have hbg : sb.g = g ∧ sb.gen = 4 := by rw [← hsbE]; exact ⟨rfl, rfl⟩
  rw [hsaE] at hSA hsa
  rw [hsbE] at hSB hsb
  have hsaW := (hsa.below HXA.out).below HYYB.out
  have hsbW := hsb.below HXB.out
  have HSA := Lib.hid hsaW
  have HSB := Lib.hid hsbW
  have hlen : ∀ s : Sn.S, Geo.right s.g = true → MapOk s.g s.es → s.es.length ≤ 100000 := fun s h1 h2 => by have h3 := h2.len; have := ((Geo.right_iff _).1 h1).1.2.2.2.1.2; omega
  have HRA : Hid (∀ W, SnIs W pa lea lla g.b.toNat (nz g) sa → Calls Try.prog 18 #[.agg SA] W fun e w' => e = .returned (.bool sa.right) ∧ Below W.heap.size W w') := Lib.hid (fun W h => by rw [hSA]; exact sright_any W pa lea lla _ _ sa.g sa.es _ h.bm (hlen sa h.hg h.ok) sa.gen sa.epoch sa.next)
  have HRB : Hid (∀ W, SnIs W pb leb llb g.b.toNat (nz g) sb → Calls Try.prog 18 #[.agg SB] W fun e w' => e = .returned (.bool sb.right) ∧ Below W.heap.size W w') := Lib.hid (fun W h => by rw [hSB]; exact sright_any W pb leb llb _ _ sb.g sb.es _ h.bm (hlen sb h.hg h.ok) sb.gen sb.epoch sb.next)
  have HFA : Hid (∀ W, SnIs W pa lea lla g.b.toNat (nz g) sa → Calls Try.prog 17 #[.agg SA, .int .i64 0] W (FramesPost W sa 0)) := Lib.hid (fun W h => by rw [hSA]; exact sframes_any W pa lea lla _ _ sa h 0)
  have HFB : Hid (∀ W, SnIs W pb leb llb g.b.toNat (nz g) sb → Calls Try.prog 17 #[.agg SB, .int .i64 0] W (FramesPost W sb 0)) := Lib.hid (fun W h => by rw [hSB]; exact sframes_any W pb leb llb _ _ sb h 0)
  have HGR := Lib.hid hgr
  have HAG := Lib.hid hag
  have HBG := Lib.hid hbg
  clear hgr hla hSA hsa hlb hSB hsb hsaW hsbW hlen hsaE hsbE hag hbg
  go_wp2_with (refine wpList_row_on (by rfl) 28 _ rfl waA.heap.size rfl 28 _ _ _ HQAwB.out Try.underlying28 rfl HIA.out ?_)
  refine (HRA.out _ HSA.out).mono ?_
  rintro e5 w5 ⟨rfl, hB5⟩
  have z5 := hB5.size
  have HSA5 := Lib.hid (HSA.out.below hB5)
  have HSB5 := Lib.hid (HSB.out.below hB5)
  have HTA5 := Lib.hid ((hB5.block waA.heap.size (by omega)).trans HQAwB.out)
  have HTB5 := Lib.hid ((hB5.block waB.heap.size (by omega)).trans HQBwB.out)
  have HB5 := Lib.hid (HBB.out.trans (hB5.mono HBB.out.size))
  clear hB5
  cases hra : sa.right
  · go_wp2
    go_ret
    exact ⟨rfl, HB5.out⟩
  go_wp2_with (refine wpList_row_on (by rfl) 28 _ rfl waB.heap.size rfl 28 _ _ _ HTB5.out Try.underlying28 rfl HIB.out ?_)
  refine (HRB.out _ HSB5.out).mono ?_
  rintro e6 w6 ⟨rfl, hB6⟩
  have z6 := hB6.size
  have HSA6 := Lib.hid (HSA5.out.below hB6)
  have HSB6 := Lib.hid (HSB5.out.below hB6)
  have HTA6 := Lib.hid ((hB6.block waA.heap.size (by omega)).trans HTA5.out)
  have HTB6 := Lib.hid ((hB6.block waB.heap.size (by omega)).trans HTB5.out)
  have HB6 := Lib.hid (HB5.out.trans (hB6.mono HB5.out.size))
  clear hB6
  cases hrb : sb.right
  · go_wp2
    go_ret
    exact ⟨rfl, HB6.out⟩
  have hga : Geo.right sa.g = true := by rw [HAG.out.1]; exact HGR.out
  have hgb : Geo.right sb.g = true := by rw [HBG.out.1]; exact HGR.out
  have hoka := Sn.ok_zero hga hra
  have hokb := Sn.ok_zero hgb hrb
  have era : sa.er 0 = 0 := by unfold Sn.S.er; rw [hoka]; rfl
  have erb : sb.er 0 = 0 := by unfold Sn.S.er; rw [hokb]; rfl
  have fra : sa.fr 0 = sa.frames 0 := by unfold Sn.S.fr; rw [hoka]; rfl
  have frb : sb.fr 0 = sb.frames 0 := by unfold Sn.S.fr; rw [hokb]; rfl
  unfold FramesPost at HFA HFB
  rw [era, fra] at HFA
  rw [erb, frb] at HFB
  have HMX : Hid (∀ (k : Nat) (y : Fr), (sb.frames 0)[k]? = some y → Sn.readS ((sa.frames 0).set k y) = none) := Lib.hid (fun k y h => Sn.mixed_none hga (by rw [HAG.out.1, HBG.out.1]) hoka hokb (by rw [HAG.out.2, HBG.out.2]; decide) h)
  have hla := Sn.S.frames_length sa ((Geo.right_iff _).1 hga).1 0
  have hlb := Sn.S.frames_length sb ((Geo.right_iff _).1 hgb).1 0
  have hm64 := Sn.nParts_64 HGR.out
  rw [HAG.out.1] at hla
  rw [HBG.out.1] at hlb
  have HQA : Hid (∀ f ∈ sa.frames 0, FrQ f) := Lib.hid (fun f hf => ⟨(Sn.frames_right hga hoka f hf).1, (Sn.frames_right hga hoka f hf).2.1⟩)
  have HQB : Hid (∀ f ∈ sb.frames 0, FrQ f) := Lib.hid (fun f hf => ⟨(Sn.frames_right hgb hokb f hf).1, (Sn.frames_right hgb hokb f hf).2.1⟩)
  obtain ⟨fa, hfa⟩ : ∃ l, sa.frames 0 = l := ⟨_, rfl⟩
  obtain ⟨fb, hfb⟩ : ∃ l, sb.frames 0 = l := ⟨_, rfl⟩
  rw [hfa] at HFA HMX hla HQA
  rw [hfb] at HFB HMX hlb HQB
  obtain ⟨m, hm⟩ : ∃ m, Sn.nParts g = m := ⟨_, rfl⟩
  rw [hm] at hla hlb hm64
  have HLA := Lib.hid hla
  have HLB := Lib.hid hlb
  clear hga hgb hoka hokb era erb fra frb hfa hfb hm hla hlb hra hrb
  go_wp2_with (refine wpList_row_on (by rfl) 28 _ rfl waA.heap.size rfl 28 _ _ _ HTA6.out Try.underlying28 rfl HIA.out ?_)
  refine (HFA.out _ HSA6.out).mono ?_
  rintro e7 w7 ⟨v7, rfl, ho7, hB7⟩
  have z7 := hB7.size
  have HO7 := Lib.hid (ho7.mono (show w.heap.size ≤ w6.heap.size from HB6.out.size))
  have HSB7 := Lib.hid (HSB6.out.below hB7)
  have HTB7 := Lib.hid ((hB7.block waB.heap.size (by omega)).trans HTB6.out)
  have HB7 := Lib.hid (HB6.out.trans (hB7.mono HB6.out.size))
  obtain ⟨ad7, cp7, rfl, -, -, -, -, -⟩ := ho7.shape kinF
  clear ho7 hB7
  go_wp2_with (refine wpList_row_on (by rfl) 28 _ rfl waB.heap.size rfl 28 _ _ _ HTB7.out Try.underlying28 rfl HIB.out ?_)
  refine (HFB.out _ HSB7.out).mono ?_
  rintro e8 w8 ⟨v8, rfl, ho8, hB8⟩
  have z8 := hB8.size
  have HOA8 := Lib.hid (HO7.out.below hB8)
  have HB8 := Lib.hid (HB7.out.trans (hB8.mono HB7.out.size))
  obtain ⟨ad8, cp8, rfl, hrow8, -, -, -, -⟩ := ho8.shape kinF
  have HRB8 := Lib.hid hrow8
  clear ho8 hB8 hrow8
  rw [HLA.out, HLB.out]
  by_cases hat : 0 ≤ at' ∧ at' < (m : Int)
  · obtain ⟨k, rfl⟩ := Int.eq_ofNat_of_zero_le hat.1
    have hkm : k < m := by omega
    have t0 : decide ((k : Int) < 0) = false := decide_eq_false (by omega)
    have t1 : decide ((m : Int) ≤ (k : Int)) = false := decide_eq_false (by omega)
    obtain ⟨y, hy⟩ : ∃ y, fb[k]? = some y := ⟨_, List.getElem?_eq_getElem (by rw [HLB.out]; exact hkm)⟩
    obtain ⟨by8, oy8, rfl, -, -, -⟩ := HRB8.out.at hy
    have hqy := HQB.out y (List.mem_of_getElem? hy)
    have HNO := Lib.hid (HMX.out k y hy)
    have HQY := Lib.hid hqy
    -- the copy's block
    obtain ⟨W9, hW9⟩ : ∃ W9, w8.alloc (.cells #[] 42) = W9 := ⟨_, rfl⟩
    have hb9 : Below w8.heap.size w8 W9 := by rw [← hW9]; exact (Below.refl _ _).alloc (Nat.le_refl _) _
    have hz9 : W9.heap[w8.heap.size]? = some (.cells #[] 42 (0, 0)) := by rw [← hW9]; exact heap_alloc_new w8 _
    have HF9 := Lib.hid (OwnM.fresh W9 42 49 FC (fun f => f.body.length = 44) (Nat.le_refl w8.heap.size) hz9)
    obtain ⟨ad9, cp9, e9, hra9, hn9, -, -, -⟩ := (HOA8.out.below hb9).shape kinF
    cases e9
    have HRA9 := Lib.hid hra9
    have HN9 := Lib.hid hn9
    have HRB9 := Lib.hid (HRB8.out.below hb9)
    have HB9 := Lib.hid (HB8.out.trans (hb9.mono HB8.out.size))
    have HW9 := Lib.hid hW9
    have z9 := hb9.size
    have HIR : Hid ((Try.prog.info? 42).map (fun i => (i.zero, i.size, i.bytes)) = some (some (.agg (FC Fr.zero)), 49, 88)) := Lib.hid (by kernel_rfl)
    clear hW9 hb9 hz9 hra9 hn9 hat hy hqy
    have hfl : fa.length = m := HLA.out
    go_upto_region 12 with (at_builtin; rw [HW9.out]; refine wpList_appendM rfl (.tmp 86) (.tmp 87) 35 rfl 42 49 FC (fun f => f.body.length = 44) kinF (by decide) (.agg (FC Fr.zero)) 88 Try.underlying35 HIR.out rfl w8.heap.size (.slice (some ⟨w8.heap.size, 0, none⟩) 0 0) [] rfl HF9.out ad7 cp7 fa (by rw [HLA.out]; rfl) HRA9.out HN9.out (by unfold maxLen; simp; omega) (by simp; omega) z9 ?_; intro v10 w10 hv10 hg10 _)
    rw [List.nil_append] at hv10
    have hs10 := HF9.out.grown hg10 z9
    have hB810 : Below w8.heap.size w8 w10 := by
      have hb9 : Below w8.heap.size w8 W9 := by rw [← HW9.out]; exact (Below.refl _ _).alloc (Nat.le_refl _) _
      exact hb9.trans hs10
    have z10 := hB810.size
    have HB10 := Lib.hid (HB8.out.trans (hB810.mono HB8.out.size))
    obtain ⟨y, hy⟩ : ∃ y, fb[k]? = some y := ⟨_, List.getElem?_eq_getElem (by rw [HLB.out]; exact hkm)⟩
    obtain ⟨x, hx⟩ : ∃ x, fa[k]? = some x := ⟨_, List.getElem?_eq_getElem (by rw [HLA.out]; exact hkm)⟩
    have hqy := HQB.out y (List.mem_of_getElem? hy)
    have hry := (HRB8.out.below hB810).range hy (by rw [FC_size, hqy.1.1])
    obtain ⟨ad10, cp10, rfl, hr10, -, hc1, hc2, hx10⟩ := hv10.shape kinF
    obtain ⟨zb, zo, rfl, hzl, -, -⟩ := hr10.at hx
    obtain ⟨rfl, hzb, hth⟩ := hv10.there (show k < fa.length by rw [HLA.out]; exact hkm)
    have hr11 := (hr10.imp HQA.out).store (k := k) (y := y) (by rw [HLA.out]; exact hkm) (by rw [FC_size, hqy.1.1]) hqy (by rw [Nat.zero_add]; exact hth)
    rw [Nat.zero_add] at hr11
    have hiy : (Try.prog.info? 42).map (·.size) = some (FC y).toList.length := by rw [FC_len hqy.1.1]; exact (zero_of_info Try.infoFrame).2
    have hic := size_frq hqy.1.1
    have hoc := FC_one y
    have hsz : (FC y).size = 49 := by rw [FC_size, hqy.1.1]
    have HNO' := Lib.hid (HMX.out k y hy)
    obtain ⟨YL, hYL⟩ : ∃ YL, (FC y).toList = YL := ⟨_, rfl⟩
    have hYC : FC y = YL.toArray := by rw [← hYL]
    rw [hYL] at hry hiy hr11
    rw [hYC] at hic hoc hsz
    have hth' : w10.there zb (k * 49) YL.toArray.size := by rw [hsz]; exact hth
    have HRY := Lib.hid hry
    have HIY := Lib.hid hiy
    have HIC := Lib.hid hic
    have HOC := Lib.hid hoc
    have HTH := Lib.hid hth'
    obtain ⟨W11, hW11⟩ : ∃ W11, w10.setCells zb (k * 49) YL = W11 := ⟨_, rfl⟩
    rw [hW11] at hr11
    have hO11 : Only [zb] w10 W11 := by rw [← hW11]; exact Only.of_setCells zb _ _ _
    have HB11 := Lib.hid (HB10.out.trans (hO11.below (B := w.heap.size) (by simp; have := HB8.out.size; omega) HB10.out.size))
    have HW11 := Lib.hid hW11
    have HRDW : Hid (Calls Try.prog 27 #[.slice (some ⟨zb, 0, none⟩) m cp10] W11 (ReadPost W11 (fa.set k y))) := Lib.hid (by
      have := sread_any W11 (some ⟨zb, 0, none⟩) (fa.set k y) cp10 hr11 (by rw [List.length_set, HLA.out]; omega) (by rw [List.length_set]; exact hc1) hc2
      rwa [List.length_set, HLA.out] at this)
    rw [hfl]
    obtain ⟨XZ, hXZ⟩ : ∃ XZ, SZ = XZ := ⟨_, rfl⟩
    have HXI : Hid ((Try.prog.info? 28).map (·.size) = some XZ.size) := Lib.hid (by rw [← hXZ]; exact (zero_of_info Try.infoSnz).2)
    have HXO : Hid (XZ.all (·.oneCell') = true) := Lib.hid (by rw [← hXZ]; simp [SZ, Value.oneCell'])
    have HXZ := Lib.hid hXZ
    clear hv10 hg10 hs10 hB810 hy hx hqy hry hr10 hc1 hx10 hth hth' hr11 hiy hic hoc hsz hYL hYC hW11 hO11 t0 t1 hfl
    rw [hXZ] at hzs
    clear hXZ
    go_upto_region 13 with (first | (refine wpList_load_mid rfl 42 _ rfl by8 (oy8 + k * 49) rfl YL _ HRY.out Try.underlying42 rfl HIY.out ?_) | (refine wpList_store_mid rfl 42 _ _ rfl zb (k * 49) YL.toArray rfl rfl HTH.out HIC.out HOC.out ?_; rw [show w10.setCells zb (k * 49) YL.toArray.toList = W11 from HW11.out]))
    go_wp2_with fail
    refine HRDW.out.mono ?_
    rintro e12 w12 ⟨hB12, ⟨s', _, _, _, _, _, h, -⟩ | ⟨-, rfl⟩⟩
    · rw [HNO'.out] at h
      cases h
    rw [HXZ.out]
    have HB12 := Lib.hid ((HB11.out.trans (hB12.mono HB11.out.size)).alloc (HB11.out.trans (hB12.mono HB11.out.size)).size (.cells XZ 28))
    clear hB12
    go_wp2_with (refine wpList_store_row rfl 28 _ _ rfl w12.heap.size XZ rfl rfl 28 XZ (heap_alloc_new w12 _) HXI.out rfl HXO.out ?_; rw [World.setRow_alloc_new])
    go_ret
    exact ⟨rfl, HB12.out⟩
  · have hcc : (decide (at' < 0) = true) ∨ (decide (at' < 0) = false ∧ decide ((m : Int) ≤ at') = true) := by
      by_cases h1 : at' < 0
      · exact .inl (decide_eq_true h1)
      · exact .inr ⟨decide_eq_false h1, decide_eq_true (by omega)⟩
    clear hat
    rcases hcc with t0 | ⟨t0, t1⟩
    · go_wp2
      go_ret
      exact ⟨rfl, HB8.out⟩
    · go_wp2
      go_ret
      exact ⟨rfl, HB8.out⟩
end Go.Proofs.Ytjnneoejnpephaa
