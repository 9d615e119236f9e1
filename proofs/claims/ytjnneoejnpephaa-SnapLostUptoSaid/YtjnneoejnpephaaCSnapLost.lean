/- Proved here, one behind the other: Proved here: the walk of the law on mixed frames; Proved here: the walk of the law on lost blocks. -/
import Derived.Test.YtjnneoejnpephaaBa
import Derived.Test.YtjnneoejnpephaaBc
import Derived.Test.YtjnneoejnpephaaBn
import Derived.Test.YtjnneoejnpephaaBs
import Derived.Test.YtjnneoejnpephaaBt
namespace Go.Proofs.Ytjnneoejnpephaa
open Go.RowKit Go.Rv Frm
set_option linter.unusedVariables false
attribute [local go_sem] Oper.semAt_some
theorem _root_.Go.Rv.RowOf.imp {α : Type} {w : World} {n : Nat} {X : α → Array Value} {Q Q' : α → Prop} {a : Option Addr} {xs : List α} (h : RowOf w n X Q a xs) (hq : ∀ x ∈ xs, Q' x) : RowOf w n X Q' a xs := by
  rcases h with h | ⟨b, o, e, hb, hc⟩
  · exact .inl h
  · exact .inr ⟨b, o, e, hb, fun k x hk => ⟨(hc k x hk).1, hq x (List.mem_of_getElem? hk)⟩⟩
theorem sread_any (w : World) (a : Option Addr) (l : List Fr) (cap : Nat) (hI : RowOf w 49 FC FrQ a l) (hl : l.length ≤ 100000) (hcap : l.length ≤ cap) (hcm : cap ≤ 9223372036854775807) :
    Calls Try.prog 27 #[.slice a l.length cap] w (ReadPost w l) := by
  cases l with
  | nil => exact sread_nil w a cap
  | cons f r => exact sread_cons w a f r cap hI hl hcap hcm
set_option maxRecDepth 100000 in
set_option maxHeartbeats 16000000 in
theorem sn_mixed_walk (w : World) (g : Geo.G) (a1 a2 : Option Addr) (l1 l2 : List (Int × BE)) (c1 c2 : Nat) (at' : Int) (hI1 : RowOf w 7 opC Op64 a1 l1) (hI2 : RowOf w 7 opC Op64 a2 l2) :
    Calls Try.prog 6 #[.agg (GC g), .slice a1 l1.length c1, .slice a2 l2.length c2, .int .i64 at'] w fun e w' => e = .returned (.bool true) ∧ Below w.heap.size w w' := by
  have HA := Lib.hid (fun W => sn_anchor W)
  have HGI := Lib.hid (gsize (g := g))
  have HMA : Hid (∀ W, Below w.heap.size w W → Calls Try.prog 16 #[.agg (GC g), .slice a1 l1.length c1, .int .i64 3, .int .i64 2, .int .i64 281474976710655] W (MadePost W g l1 3 2 281474976710655)) := Lib.hid (fun W hW => made12_any g a1 l1 c1 3 2 281474976710655 W (hI1.below hW))
  have HMB : Hid (∀ W, Below w.heap.size w W → Calls Try.prog 16 #[.agg (GC g), .slice a2 l2.length c2, .int .i64 4, .int .i64 2, .int .i64 281474976710655] W (MadePost W g l2 4 2 281474976710655)) := Lib.hid (fun W hW => made12_any g a2 l2 c2 4 2 281474976710655 W (hI2.below hW))
  have hzs := (zero_of_info Try.infoSnz).1
  have hzr := (zero_of_info Try.infoRS).1
  have hal := (Below.refl w.heap.size w).alloc (Nat.le_refl _) (.cells (GC g) 23)
  have hnew := heap_alloc_new w (.cells (GC g) 23)
  clear hI1 hI2
  obtain ⟨GX, hGX⟩ : ∃ GX, GC g = GX := ⟨_, rfl⟩
  rw [hGX] at HGI HMA HMB hal hnew ⊢
  clear hGX
  go_enter Try.func6, Try.ntmps6
  go_wp2_with fail
  refine (HA.out _).mono ?_
  rintro e w0 ⟨rfl, hB0⟩
  have HG0 := Lib.hid ((hB0.block w.heap.size (by simp)).trans hnew)
  have HB0 := Lib.hid (hal.trans (hB0.mono hal.size))
  have zw0 : w.heap.size < w0.heap.size := (Array.getElem?_eq_some_iff.1 HG0.out).1
  clear hal hnew hB0
  go_wp2_with (refine wpList_row_on (by rfl) 23 _ rfl w.heap.size rfl 23 _ _ _ HG0.out Try.underlying23 rfl HGI.out ?_)
  refine (HMA.out _ HB0.out).mono ?_
  rintro eaA waA ⟨SA, TA, okA, rfl, ⟨i1, i2, i3⟩, ⟨j1, j2, j3⟩, hBA, hcA⟩
  have HIA := Lib.hid i1
  have HOA := Lib.hid i2
  have HZA := Lib.hid i3
  have HJA := Lib.hid j1
  have HPA := Lib.hid j2
  have HYA := Lib.hid j3
  have HCA := Lib.hid hcA
  have zbA := hBA.size
  obtain ⟨VA, hVA⟩ : ∃ V, (waA.alloc (.cells SZ 28)).alloc (.cells RZ 32) = V := ⟨_, rfl⟩
  have hvA : VA.heap[waA.heap.size]? = some (.cells SZ 28 (0, 0)) := by rw [← hVA]; exact heap_alloc2_old _ _ _
  have huA : VA.heap[waA.heap.size + 1]? = some (.cells RZ 32 (0, 0)) := by rw [← hVA]; exact heap_alloc2_new _ _ _
  have hbA : Below waA.heap.size waA VA := by rw [← hVA]; exact ((Below.refl _ _).alloc (Nat.le_refl _) _).alloc (by simp) _
  obtain ⟨UA, hUA⟩ : ∃ U, VA.setRow waA.heap.size SA = U := ⟨_, rfl⟩
  have hsA : Only [waA.heap.size] VA UA := by rw [← hUA]; exact only_setRow _ _ _
  have hrA : UA.heap[waA.heap.size]? = some (.cells SA 28 (0, 0)) := by rw [← hUA]; exact setRow_heap _ _ _ _ _ _ hvA
  have hqA := hsA.get huA (by simp)
  obtain ⟨WA, hWA⟩ : ∃ W, UA.setRow (waA.heap.size + 1) TA = W := ⟨_, rfl⟩
  have htA : Only [waA.heap.size + 1] UA WA := by rw [← hWA]; exact only_setRow _ _ _
  have HQAwA := Lib.hid (htA.get hrA (by simp))
  have HTTA : Hid (WA.heap[waA.heap.size + 1]? = some (.cells TA 32 (0, 0))) := Lib.hid (by rw [← hWA]; exact setRow_heap _ _ _ _ _ _ hqA)
  have hxA : Below waA.heap.size waA WA := hbA.trans ((hsA.below (B := waA.heap.size) (by simp) hbA.size).trans (htA.below (B := waA.heap.size) (by simp) (by have := hsA.size; have := hbA.size; omega)))
  have hyA := hBA.trans (hxA.mono zbA)
  have HGA := Lib.hid ((hyA.block w.heap.size (by omega)).trans HG0.out)
  have HBA := Lib.hid (HB0.out.trans (hyA.mono HB0.out.size))
  have HXA := Lib.hid hxA
  have HYYA := Lib.hid hyA
  have HVA := Lib.hid hVA
  have HUA := Lib.hid hUA
  have HWA := Lib.hid hWA
  have HH1A := Lib.hid hvA
  have HH2A := Lib.hid hqA
  have zzA : waA.heap.size + 1 < WA.heap.size := (Array.getElem?_eq_some_iff.1 HTTA.out).1
  clear i1 i2 i3 j1 j2 j3 hBA hcA hVA hvA huA hbA hUA hsA hrA hqA hWA htA hxA hyA
  go_upto_region 4 with (first | (rw [show (waA.alloc (.cells SZ 28)).alloc (.cells RZ 32) = VA from HVA.out]; refine wpList_store_row rfl 28 _ _ rfl waA.heap.size SA rfl rfl 28 SZ HH1A.out HIA.out HZA.out HOA.out ?_; rw [HUA.out]) | (refine wpList_store_row rfl 32 _ _ rfl (waA.heap.size + 1) TA rfl rfl 32 RZ HH2A.out HJA.out HYA.out HPA.out ?_; rw [HWA.out]))
  go_wp2_with (refine wpList_row_on (by rfl) 23 _ rfl w.heap.size rfl 23 _ _ _ HGA.out Try.underlying23 rfl HGI.out ?_)
  refine (HMB.out _ HBA.out).mono ?_
  rintro eaB waB ⟨SB, TB, okB, rfl, ⟨i1, i2, i3⟩, ⟨j1, j2, j3⟩, hBB, hcB⟩
  have HIB := Lib.hid i1
  have HOB := Lib.hid i2
  have HZB := Lib.hid i3
  have HJB := Lib.hid j1
  have HPB := Lib.hid j2
  have HYB := Lib.hid j3
  have HCB := Lib.hid hcB
  have zbB := hBB.size
  obtain ⟨VB, hVB⟩ : ∃ V, (waB.alloc (.cells SZ 28)).alloc (.cells RZ 32) = V := ⟨_, rfl⟩
  have hvB : VB.heap[waB.heap.size]? = some (.cells SZ 28 (0, 0)) := by rw [← hVB]; exact heap_alloc2_old _ _ _
  have huB : VB.heap[waB.heap.size + 1]? = some (.cells RZ 32 (0, 0)) := by rw [← hVB]; exact heap_alloc2_new _ _ _
  have hbB : Below waB.heap.size waB VB := by rw [← hVB]; exact ((Below.refl _ _).alloc (Nat.le_refl _) _).alloc (by simp) _
  obtain ⟨UB, hUB⟩ : ∃ U, VB.setRow waB.heap.size SB = U := ⟨_, rfl⟩
  have hsB : Only [waB.heap.size] VB UB := by rw [← hUB]; exact only_setRow _ _ _
  have hrB : UB.heap[waB.heap.size]? = some (.cells SB 28 (0, 0)) := by rw [← hUB]; exact setRow_heap _ _ _ _ _ _ hvB
  have hqB := hsB.get huB (by simp)
  obtain ⟨WB, hWB⟩ : ∃ W, UB.setRow (waB.heap.size + 1) TB = W := ⟨_, rfl⟩
  have htB : Only [waB.heap.size + 1] UB WB := by rw [← hWB]; exact only_setRow _ _ _
  have HQBwB := Lib.hid (htB.get hrB (by simp))
  have HTTB : Hid (WB.heap[waB.heap.size + 1]? = some (.cells TB 32 (0, 0))) := Lib.hid (by rw [← hWB]; exact setRow_heap _ _ _ _ _ _ hqB)
  have hxB : Below waB.heap.size waB WB := hbB.trans ((hsB.below (B := waB.heap.size) (by simp) hbB.size).trans (htB.below (B := waB.heap.size) (by simp) (by have := hsB.size; have := hbB.size; omega)))
  have hyB := hBB.trans (hxB.mono zbB)
  have HGB := Lib.hid ((hyB.block w.heap.size (by omega)).trans HGA.out)
  have HBB := Lib.hid (HBA.out.trans (hyB.mono HBA.out.size))
  have HXB := Lib.hid hxB
  have HYYB := Lib.hid hyB
  have HVB := Lib.hid hVB
  have HUB := Lib.hid hUB
  have HWB := Lib.hid hWB
  have HH1B := Lib.hid hvB
  have HH2B := Lib.hid hqB
  have zzB : waB.heap.size + 1 < WB.heap.size := (Array.getElem?_eq_some_iff.1 HTTB.out).1
  have HQAwB := Lib.hid ((hyB.block waA.heap.size (by omega)).trans HQAwA.out)
  clear i1 i2 i3 j1 j2 j3 hBB hcB hVB hvB huB hbB hUB hsB hrB hqB hWB htB hxB hyB
  go_upto_region 5 with (first | (rw [show (waB.alloc (.cells SZ 28)).alloc (.cells RZ 32) = VB from HVB.out]; refine wpList_store_row rfl 28 _ _ rfl waB.heap.size SB rfl rfl 28 SZ HH1B.out HIB.out HZB.out HOB.out ?_; rw [HUB.out]) | (refine wpList_store_row rfl 32 _ _ rfl (waB.heap.size + 1) TB rfl rfl 32 RZ HH2B.out HJB.out HYB.out HPB.out ?_; rw [HWB.out]))
  have hca := HCA.out
  rcases hca with ⟨rfl, -⟩ | ⟨rfl, hgr, hla, pa, lea, lla, va, hSA, -, hsa, -, qa1, qa2, qa3⟩
  · go_wp2
    go_ret
    exact ⟨rfl, HBB.out⟩
  have hcb := HCB.out
  rcases hcb with ⟨rfl, -⟩ | ⟨rfl, -, hlb, pb, leb, llb, vb, hSB, -, hsb, -, qb1, qb2, qb3⟩
  · go_wp2
    go_ret
    exact ⟨rfl, HBB.out⟩
  obtain ⟨sa, hsaE⟩ : ∃ sa, Sn.made g l1 3 2 281474976710655 = sa := ⟨_, rfl⟩
  obtain ⟨sb, hsbE⟩ : ∃ sb, Sn.made g l2 4 2 281474976710655 = sb := ⟨_, rfl⟩
  have hag : sa.g = g ∧ sa.gen = 3 := by rw [← hsaE]; exact ⟨rfl, rfl⟩
  have hbg : sb.g = g ∧ sb.gen = 4 := by rw [← hsbE]; exact ⟨rfl, rfl⟩
  rw [hsaE] at hSA hsa
  rw [hsbE] at hSB hsb
  have hsaW := (hsa.below HXA.out).below HYYB.out
  have hsbW := hsb.below HXB.out
  have HSA := Lib.hid hsaW
  have HSB := Lib.hid hsbW
  have hlen : ∀ s : Sn.S, Geo.right s.g = true → MapOk s.g s.es → s.es.length ≤ 100000 := fun s h1 h2 => by have h3 := h2.len; have := ((Geo.right_iff _).1 h1).1.2.2.2.1.2; omega
  have HRA : Hid (∀ W, SnIs W pa lea lla g.b.toNat (nz g) sa → Calls Try.prog 18 #[.agg SA] W fun e w' => e = .returned (.bool sa.right) ∧ Below W.heap.size W w') := Lib.hid (fun W h => by rw [hSA]; exact sright_any W pa lea lla _ _ sa.g sa.es _ h.bm (hlen sa h.hg h.ok) sa.gen sa.epoch sa.next)
  have HRB : Hid (∀ W, SnIs W pb leb llb g.b.toNat (nz g) sb → Calls Try.prog 18 #[.agg SB] W fun e w' => e = .returned (.bool sb.right) ∧ Below W.heap.size W w') := Lib.hid (fun W h => by rw [hSB]; exact sright_any W pb leb llb _ _ sb.g sb.es _ h.bm (hlen sb h.hg h.ok) sb.gen sb.epoch sb.next)
  have HFA : Hid (∀ W, SnIs W pa lea lla g.b.toNat (nz g) sa → Calls Try.prog 17 #[.agg SA, .int .i64 0] W (FramesPost W sa 0)) := Lib.hid (fun W h => by rw [hSA]; exact sframes_any W pa lea lla _ _ sa h 0)
  have HFB : Hid (∀ W, SnIs W pb leb llb g.b.toNat (nz g) sb → Calls Try.prog 17 #[.agg SB, .int .i64 0] W (FramesPost W sb 0)) := Lib.hid (fun W h => by rw [hSB]; exact sframes_any W pb leb llb _ _ sb h 0)
  have HGR := Lib.hid hgr
  have HAG := Lib.hid hag
  have HBG := Lib.hid hbg
  clear hgr hla hSA hsa hlb hSB hsb hsaW hsbW hlen hsaE hsbE hag hbg
  go_wp2_with (refine wpList_row_on (by rfl) 28 _ rfl waA.heap.size rfl 28 _ _ _ HQAwB.out Try.underlying28 rfl HIA.out ?_)
  refine (HRA.out _ HSA.out).mono ?_
  rintro e5 w5 ⟨rfl, hB5⟩
  have z5 := hB5.size
  have HSA5 := Lib.hid (HSA.out.below hB5)
  have HSB5 := Lib.hid (HSB.out.below hB5)
  have HTA5 := Lib.hid ((hB5.block waA.heap.size (by omega)).trans HQAwB.out)
  have HTB5 := Lib.hid ((hB5.block waB.heap.size (by omega)).trans HQBwB.out)
  have HB5 := Lib.hid (HBB.out.trans (hB5.mono HBB.out.size))
  clear hB5
  cases hra : sa.right
  · go_wp2
    go_ret
    exact ⟨rfl, HB5.out⟩
  go_wp2_with (refine wpList_row_on (by rfl) 28 _ rfl waB.heap.size rfl 28 _ _ _ HTB5.out Try.underlying28 rfl HIB.out ?_)
  refine (HRB.out _ HSB5.out).mono ?_
  rintro e6 w6 ⟨rfl, hB6⟩
  have z6 := hB6.size
  have HSA6 := Lib.hid (HSA5.out.below hB6)
  have HSB6 := Lib.hid (HSB5.out.below hB6)
  have HTA6 := Lib.hid ((hB6.block waA.heap.size (by omega)).trans HTA5.out)
  have HTB6 := Lib.hid ((hB6.block waB.heap.size (by omega)).trans HTB5.out)
  have HB6 := Lib.hid (HB5.out.trans (hB6.mono HB5.out.size))
  clear hB6
  cases hrb : sb.right
  · go_wp2
    go_ret
    exact ⟨rfl, HB6.out⟩
  have hga : Geo.right sa.g = true := by rw [HAG.out.1]; exact HGR.out
  have hgb : Geo.right sb.g = true := by rw [HBG.out.1]; exact HGR.out
  have hoka := Sn.ok_zero hga hra
  have hokb := Sn.ok_zero hgb hrb
  have era : sa.er 0 = 0 := by unfold Sn.S.er; rw [hoka]; rfl
  have erb : sb.er 0 = 0 := by unfold Sn.S.er; rw [hokb]; rfl
  have fra : sa.fr 0 = sa.frames 0 := by unfold Sn.S.fr; rw [hoka]; rfl
  have frb : sb.fr 0 = sb.frames 0 := by unfold Sn.S.fr; rw [hokb]; rfl
  unfold FramesPost at HFA HFB
  rw [era, fra] at HFA
  rw [erb, frb] at HFB
  have HMX : Hid (∀ (k : Nat) (y : Fr), (sb.frames 0)[k]? = some y → Sn.readS ((sa.frames 0).set k y) = none) := Lib.hid (fun k y h => Sn.mixed_none hga (by rw [HAG.out.1, HBG.out.1]) hoka hokb (by rw [HAG.out.2, HBG.out.2]; decide) h)
  have hla := Sn.S.frames_length sa ((Geo.right_iff _).1 hga).1 0
  have hlb := Sn.S.frames_length sb ((Geo.right_iff _).1 hgb).1 0
  have hm64 := Sn.nParts_64 HGR.out
  rw [HAG.out.1] at hla
  rw [HBG.out.1] at hlb
  have HQA : Hid (∀ f ∈ sa.frames 0, FrQ f) := Lib.hid (fun f hf => ⟨(Sn.frames_right hga hoka f hf).1, (Sn.frames_right hga hoka f hf).2.1⟩)
  have HQB : Hid (∀ f ∈ sb.frames 0, FrQ f) := Lib.hid (fun f hf => ⟨(Sn.frames_right hgb hokb f hf).1, (Sn.frames_right hgb hokb f hf).2.1⟩)
  obtain ⟨fa, hfa⟩ : ∃ l, sa.frames 0 = l := ⟨_, rfl⟩
  obtain ⟨fb, hfb⟩ : ∃ l, sb.frames 0 = l := ⟨_, rfl⟩
  rw [hfa] at HFA HMX hla HQA
  rw [hfb] at HFB HMX hlb HQB
  obtain ⟨m, hm⟩ : ∃ m, Sn.nParts g = m := ⟨_, rfl⟩
  rw [hm] at hla hlb hm64
  have HLA := Lib.hid hla
  have HLB := Lib.hid hlb
  clear hga hgb hoka hokb era erb fra frb hfa hfb hm hla hlb hra hrb
  go_wp2_with (refine wpList_row_on (by rfl) 28 _ rfl waA.heap.size rfl 28 _ _ _ HTA6.out Try.underlying28 rfl HIA.out ?_)
  refine (HFA.out _ HSA6.out).mono ?_
  rintro e7 w7 ⟨v7, rfl, ho7, hB7⟩
  have z7 := hB7.size
  have HO7 := Lib.hid (ho7.mono (show w.heap.size ≤ w6.heap.size from HB6.out.size))
  have HSB7 := Lib.hid (HSB6.out.below hB7)
  have HTB7 := Lib.hid ((hB7.block waB.heap.size (by omega)).trans HTB6.out)
  have HB7 := Lib.hid (HB6.out.trans (hB7.mono HB6.out.size))
  obtain ⟨ad7, cp7, rfl, -, -, -, -, -⟩ := ho7.shape kinF
  clear ho7 hB7
  go_wp2_with (refine wpList_row_on (by rfl) 28 _ rfl waB.heap.size rfl 28 _ _ _ HTB7.out Try.underlying28 rfl HIB.out ?_)
  refine (HFB.out _ HSB7.out).mono ?_
  rintro e8 w8 ⟨v8, rfl, ho8, hB8⟩
  have z8 := hB8.size
  have HOA8 := Lib.hid (HO7.out.below hB8)
  have HB8 := Lib.hid (HB7.out.trans (hB8.mono HB7.out.size))
  obtain ⟨ad8, cp8, rfl, hrow8, -, -, -, -⟩ := ho8.shape kinF
  have HRB8 := Lib.hid hrow8
  clear ho8 hB8 hrow8
  rw [HLA.out, HLB.out]
  by_cases hat : 0 ≤ at' ∧ at' < (m : Int)
  · obtain ⟨k, rfl⟩ := Int.eq_ofNat_of_zero_le hat.1
    have hkm : k < m := by omega
    have t0 : decide ((k : Int) < 0) = false := decide_eq_false (by omega)
    have t1 : decide ((m : Int) ≤ (k : Int)) = false := decide_eq_false (by omega)
    obtain ⟨y, hy⟩ : ∃ y, fb[k]? = some y := ⟨_, List.getElem?_eq_getElem (by rw [HLB.out]; exact hkm)⟩
    obtain ⟨by8, oy8, rfl, -, -, -⟩ := HRB8.out.at hy
    have hqy := HQB.out y (List.mem_of_getElem? hy)
    have HNO := Lib.hid (HMX.out k y hy)
    have HQY := Lib.hid hqy
    -- the copy's block
    obtain ⟨W9, hW9⟩ : ∃ W9, w8.alloc (.cells #[] 42) = W9 := ⟨_, rfl⟩
    have hb9 : Below w8.heap.size w8 W9 := by rw [← hW9]; exact (Below.refl _ _).alloc (Nat.le_refl _) _
    have hz9 : W9.heap[w8.heap.size]? = some (.cells #[] 42 (0, 0)) := by rw [← hW9]; exact heap_alloc_new w8 _
    have HF9 := Lib.hid (OwnM.fresh W9 42 49 FC (fun f => f.body.length = 44) (Nat.le_refl w8.heap.size) hz9)
    obtain ⟨ad9, cp9, e9, hra9, hn9, -, -, -⟩ := (HOA8.out.below hb9).shape kinF
    cases e9
    have HRA9 := Lib.hid hra9
    have HN9 := Lib.hid hn9
    have HRB9 := Lib.hid (HRB8.out.below hb9)
    have HB9 := Lib.hid (HB8.out.trans (hb9.mono HB8.out.size))
    have HW9 := Lib.hid hW9
    have z9 := hb9.size
    have HIR : Hid ((Try.prog.info? 42).map (fun i => (i.zero, i.size, i.bytes)) = some (some (.agg (FC Fr.zero)), 49, 88)) := Lib.hid (by kernel_rfl)
    clear hW9 hb9 hz9 hra9 hn9 hat hy hqy
    have hfl : fa.length = m := HLA.out
    go_upto_region 12 with (at_builtin; rw [HW9.out]; refine wpList_appendM rfl (.tmp 86) (.tmp 87) 35 rfl 42 49 FC (fun f => f.body.length = 44) kinF (by decide) (.agg (FC Fr.zero)) 88 Try.underlying35 HIR.out rfl w8.heap.size (.slice (some ⟨w8.heap.size, 0, none⟩) 0 0) [] rfl HF9.out ad7 cp7 fa (by rw [HLA.out]; rfl) HRA9.out HN9.out (by unfold maxLen; simp; omega) (by simp; omega) z9 ?_; intro v10 w10 hv10 hg10 _)
    rw [List.nil_append] at hv10
    have hs10 := HF9.out.grown hg10 z9
    have hB810 : Below w8.heap.size w8 w10 := by
      have hb9 : Below w8.heap.size w8 W9 := by rw [← HW9.out]; exact (Below.refl _ _).alloc (Nat.le_refl _) _
      exact hb9.trans hs10
    have z10 := hB810.size
    have HB10 := Lib.hid (HB8.out.trans (hB810.mono HB8.out.size))
    obtain ⟨y, hy⟩ : ∃ y, fb[k]? = some y := ⟨_, List.getElem?_eq_getElem (by rw [HLB.out]; exact hkm)⟩
    obtain ⟨x, hx⟩ : ∃ x, fa[k]? = some x := ⟨_, List.getElem?_eq_getElem (by rw [HLA.out]; exact hkm)⟩
    have hqy := HQB.out y (List.mem_of_getElem? hy)
    have hry := (HRB8.out.below hB810).range hy (by rw [FC_size, hqy.1.1])
    obtain ⟨ad10, cp10, rfl, hr10, -, hc1, hc2, hx10⟩ := hv10.shape kinF
    obtain ⟨zb, zo, rfl, hzl, -, -⟩ := hr10.at hx
    obtain ⟨rfl, hzb, hth⟩ := hv10.there (show k < fa.length by rw [HLA.out]; exact hkm)
    have hr11 := (hr10.imp HQA.out).store (k := k) (y := y) (by rw [HLA.out]; exact hkm) (by rw [FC_size, hqy.1.1]) hqy (by rw [Nat.zero_add]; exact hth)
    rw [Nat.zero_add] at hr11
    have hiy : (Try.prog.info? 42).map (·.size) = some (FC y).toList.length := by rw [FC_len hqy.1.1]; exact (zero_of_info Try.infoFrame).2
    have hic := size_frq hqy.1.1
    have hoc := FC_one y
    have hsz : (FC y).size = 49 := by rw [FC_size, hqy.1.1]
    have HNO' := Lib.hid (HMX.out k y hy)
    obtain ⟨YL, hYL⟩ : ∃ YL, (FC y).toList = YL := ⟨_, rfl⟩
    have hYC : FC y = YL.toArray := by rw [← hYL]
    rw [hYL] at hry hiy hr11
    rw [hYC] at hic hoc hsz
    have hth' : w10.there zb (k * 49) YL.toArray.size := by rw [hsz]; exact hth
    have HRY := Lib.hid hry
    have HIY := Lib.hid hiy
    have HIC := Lib.hid hic
    have HOC := Lib.hid hoc
    have HTH := Lib.hid hth'
    obtain ⟨W11, hW11⟩ : ∃ W11, w10.setCells zb (k * 49) YL = W11 := ⟨_, rfl⟩
    rw [hW11] at hr11
    have hO11 : Only [zb] w10 W11 := by rw [← hW11]; exact Only.of_setCells zb _ _ _
    have HB11 := Lib.hid (HB10.out.trans (hO11.below (B := w.heap.size) (by simp; have := HB8.out.size; omega) HB10.out.size))
    have HW11 := Lib.hid hW11
    have HRDW : Hid (Calls Try.prog 27 #[.slice (some ⟨zb, 0, none⟩) m cp10] W11 (ReadPost W11 (fa.set k y))) := Lib.hid (by
      have := sread_any W11 (some ⟨zb, 0, none⟩) (fa.set k y) cp10 hr11 (by rw [List.length_set, HLA.out]; omega) (by rw [List.length_set]; exact hc1) hc2
      rwa [List.length_set, HLA.out] at this)
    rw [hfl]
    obtain ⟨XZ, hXZ⟩ : ∃ XZ, SZ = XZ := ⟨_, rfl⟩
    have HXI : Hid ((Try.prog.info? 28).map (·.size) = some XZ.size) := Lib.hid (by rw [← hXZ]; exact (zero_of_info Try.infoSnz).2)
    have HXO : Hid (XZ.all (·.oneCell') = true) := Lib.hid (by rw [← hXZ]; simp [SZ, Value.oneCell'])
    have HXZ := Lib.hid hXZ
    clear hv10 hg10 hs10 hB810 hy hx hqy hry hr10 hc1 hx10 hth hth' hr11 hiy hic hoc hsz hYL hYC hW11 hO11 t0 t1 hfl
    rw [hXZ] at hzs
    clear hXZ
    go_upto_region 13 with (first | (refine wpList_load_mid rfl 42 _ rfl by8 (oy8 + k * 49) rfl YL _ HRY.out Try.underlying42 rfl HIY.out ?_) | (refine wpList_store_mid rfl 42 _ _ rfl zb (k * 49) YL.toArray rfl rfl HTH.out HIC.out HOC.out ?_; rw [show w10.setCells zb (k * 49) YL.toArray.toList = W11 from HW11.out]))
    go_wp2_with fail
    refine HRDW.out.mono ?_
    rintro e12 w12 ⟨hB12, ⟨s', _, _, _, _, _, h, -⟩ | ⟨-, rfl⟩⟩
    · rw [HNO'.out] at h
      cases h
    rw [HXZ.out]
    have HB12 := Lib.hid ((HB11.out.trans (hB12.mono HB11.out.size)).alloc (HB11.out.trans (hB12.mono HB11.out.size)).size (.cells XZ 28))
    clear hB12
    go_wp2_with (refine wpList_store_row rfl 28 _ _ rfl w12.heap.size XZ rfl rfl 28 XZ (heap_alloc_new w12 _) HXI.out rfl HXO.out ?_; rw [World.setRow_alloc_new])
    go_ret
    exact ⟨rfl, HB12.out⟩
  · have hcc : (decide (at' < 0) = true) ∨ (decide (at' < 0) = false ∧ decide ((m : Int) ≤ at') = true) := by
      by_cases h1 : at' < 0
      · exact .inl (decide_eq_true h1)
      · exact .inr ⟨decide_eq_false h1, decide_eq_true (by omega)⟩
    clear hat
    rcases hcc with t0 | ⟨t0, t1⟩
    · go_wp2
      go_ret
      exact ⟨rfl, HB8.out⟩
    · go_wp2
      go_ret
      exact ⟨rfl, HB8.out⟩
end Go.Proofs.Ytjnneoejnpephaa
namespace Sn
open Go.Proofs.Ytjnneoejnpephaa Frm
/-- a lost block -/
def lostE : BE := ⟨2, 0, 0, 0, 0, 0⟩
def lostI (b : Int) : Int × BE := (b, lostE)
theorem setAll_q {g : Geo.G} : ∀ {l : List (Int × BE)} {es : List BE}, (∀ x ∈ l, x.2.q = 0) → (∀ e ∈ es, e.q = 0) → ∀ e ∈ setAll g es l, e.q = 0
  | [], es, _, h => h
  | x :: l, es, hl, h => setAll_q (l := l) (fun y hy => hl y (by simp [hy])) (by
      intro e he0
      have he : e ∈ setEs g es x.1 x.2 := he0
      unfold setEs at he
      split at he
      · exact h e he
      · split at he
        · rcases List.mem_or_eq_of_mem_set he with h1 | h1
          · exact h e h1
          · rw [h1]; exact hl x (by simp)
        · exact h e he)
theorem lost_right (g : Geo.G) (l : List Int) : (made g (l.map lostI) 1 1 1).right = true := by
  refine right_iff.2 ⟨by show nums 1 1 1 = true; decide, fun e he => ?_⟩
  have h : e.q = 0 := setAll_q (g := g) (l := l.map lostI) (es := List.replicate g.b.toNat BE.zero) (by
    intro x hx
    obtain ⟨b, -, rfl⟩ := List.mem_map.1 hx
    rfl) (by
    intro e he
    rw [List.eq_of_mem_replicate he]
    rfl) e he
  rw [h]
  show (0 : Int) < 1
  decide
end Sn
namespace Go.Proofs.Ytjnneoejnpephaa
open Go.RowKit Go.Rv Frm
set_option linter.unusedVariables false
attribute [local go_sem] Oper.semAt_some
theorem eq_geo (g : Geo.G) (hs : Geo.Small g) (w : World) : (Op.equalIn 10000 23 (.agg (GC g)) (.agg (GC g))).run Try.prog w = .ok true w := by
  have k1 : Try.prog.cellsOf 3 = 1 := by kernel_rfl
  have k6 : Try.prog.cellsOf 23 = 6 := by kernel_rfl
  have i : ∀ n : Int, (Lit.int .i64 n).wf = true → Try.prog.keyLits 2 3 [.int .i64 n] = some [.int .i64 n] := by
    intro n hn
    simp only [Program.keyLits, Try.underlying3, hn, and_self, if_true]
  have hw : ∀ n : Int, 0 ≤ n ∧ n ≤ 1000 → (Lit.int .i64 n).wf = true := by
    intro n hn
    simp [Lit.wf, IntKind.min, IntKind.max, IntKind.signed, IntKind.bits]
    omega
  obtain ⟨h1, h2, h3, h4, h5, h6⟩ := hs
  have hl : Try.prog.keyLits 3 23 (GC g).toList = some [.int .i64 g.d, .int .i64 g.z, .int .i64 g.s, .int .i64 g.b, .int .i64 g.p, .int .i64 g.o] := by
    have hlen : (GC g).toList.length = 6 := rfl
    unfold Program.keyLits
    simp only [Try.underlying23, k6, hlen]
    rw [if_pos ⟨trivial, by decide +kernel⟩]
    simp only [List.mapM_cons, List.mapM_nil, k1, GC, List.drop, List.take, i _ (hw g.d (by omega)), i _ (hw g.z (by omega)), i _ (hw g.s (by omega)), i _ (hw g.b (by omega)), i _ (hw g.p (by omega)), i _ (hw g.o (by omega))]
    simp
  have hF : (Value.agg (GC g)).formed Try.prog 23 = true := by
    simp only [Value.formed, Try.underlying23, GC_size]
    kernel_rfl
  exact eq_deep (by kernel_rfl) hF hF hl hl _ (by simp) w
theorem kinO : Kin 7 opC Op64 := ⟨fun x _ => rfl, fun x _ => opC_one x⟩
theorem lost_op {b : Int} (h : -9223372036854775808 ≤ b ∧ b ≤ 9223372036854775807) : Op64 (Sn.lostI b) := by
  refine ⟨?_, ⟨rfl, rfl, rfl, rfl, rfl, rfl⟩⟩
  show (decide (IntKind.i64.min ≤ b) && decide (b ≤ IntKind.i64.max)) = true
  rw [decide_eq_true (show IntKind.i64.min ≤ b from h.1), decide_eq_true (show b ≤ IntKind.i64.max from h.2)]
  rfl
set_option maxRecDepth 100000 in
theorem built_lost : Try.prog.built 46 [(0, .int .i64 2)] = some (BEC Sn.lostE) := by kernel_rfl
set_option maxRecDepth 100000 in
theorem built_item (b : Int) : Try.prog.built 48 [(0, .int .i64 b), (1, .agg (BEC Sn.lostE))] = some (opC (Sn.lostI b)) := by kernel_rfl
set_option maxRecDepth 100000 in
theorem filled_item (b : Int) (ie : Array Value) (h0 : ie = opC (0, BE.zero)) : Instr.fill (fun i => some (i * 7, 7)) ((Array.range (1 * 7)).map (ie[· % 7]!)) [(0, .agg (opC (Sn.lostI b)))] = some (opC (Sn.lostI b)) := by
  subst h0
  kernel_rfl
set_option maxRecDepth 100000 in
theorem Try.infoItem : (Try.prog.info? 48).map (fun i => (i.zero, i.size)) = some (some (.agg (opC (0, BE.zero))), 7) := by kernel_rfl
theorem wpList_slice1i {w : World} {ops : Array Oper} {rest : List Oper} {o : Oper} {a : Act} {Q : Exit → Act → World → Prop} (hg : o.guard = none) (x : Operand) (ho : o.op = .buildSlice 24 1 #[(0, x)]) (b : Int) (hx : a.eval x = .agg (opC (Sn.lostI b)))
    (h : wpList Try.prog ops Q rest (a.put o.dst (.slice (some ⟨w.heap.size, 0, none⟩) 1 1)) (w.alloc (.cells (opC (Sn.lostI b)) 48))) : wpList Try.prog ops Q (o :: rest) a w := by
  have hi := Try.infoItem
  cases hie : Try.prog.info? 48 with
  | none => rw [hie] at hi; cases hi
  | some ie =>
    rw [hie, Option.map_some, Option.some.injEq, Prod.mk.injEq] at hi
    obtain ⟨hz, hs⟩ := hi
    refine wpList_buildSlice hg 24 48 1 #[(0, x)] ho (opC (Sn.lostI b)) ie (.agg (opC (0, BE.zero))) Try.underlying24 hie hz (by rw [hs]; decide) (by rw [hs]; decide) ?_ h
    rw [hs]
    have h1 := filled_item b _ rfl
    simp only [List.map_toArray, List.map_cons, List.map_nil, hx]
    exact h1
set_option maxRecDepth 100000 in
set_option maxHeartbeats 16000000 in
theorem sn_lost_walk (w : World) (g : Geo.G) (a1 : Option Addr) (l1 : List Int) (c1 : Nat) (hI1 : Ints w a1 l1) (hl1 : l1.length ≤ 1048576) :
    Calls Try.prog 7 #[.agg (GC g), .slice a1 l1.length c1] w fun e w' => e = .returned (.bool true) ∧ Below w.heap.size w w' := by
  have HA := Lib.hid (fun W => sn_anchor W)
  have HGI := Lib.hid (gsize (g := g))
  have HI := Lib.hid hI1
  have HMA : Hid (∀ (W : World) (a : Option Addr) (l : List (Int × BE)) (cp : Nat), RowOf W 7 opC Op64 a l → Calls Try.prog 16 #[.agg (GC g), .slice a l.length cp, .int .i64 1, .int .i64 1, .int .i64 1] W (MadePost W g l 1 1 1)) := Lib.hid (fun W a l cp h => made12_any g a l cp 1 1 1 W h)
  have HIR : Hid ((Try.prog.info? 48).map (fun i => (i.zero, i.size, i.bytes)) = some (some (.agg (opC (0, BE.zero))), 7, 56)) := Lib.hid (by kernel_rfl)
  have HBI := Lib.hid (fun b => built_item b)
  have HBL := Lib.hid built_lost
  have hzs := (zero_of_info Try.infoSnz).1
  have hzr := (zero_of_info Try.infoRS).1
  have hal := (Below.refl w.heap.size w).alloc (Nat.le_refl _) (.cells (GC g) 23)
  have hnew := heap_alloc_new w (.cells (GC g) 23)
  clear hI1
  obtain ⟨GX, hGX⟩ : ∃ GX, GC g = GX := ⟨_, rfl⟩
  rw [hGX] at HGI HMA hal hnew ⊢
  have HGX := Lib.hid hGX
  clear hGX
  go_enter Try.func7, Try.ntmps7
  go_wp2_with fail
  refine (HA.out _).mono ?_
  rintro e w0 ⟨rfl, hB0⟩
  have HG0 := Lib.hid ((hB0.block w.heap.size (by simp)).trans hnew)
  have HB0 := Lib.hid (hal.trans (hB0.mono hal.size))
  have zw0 : w.heap.size < w0.heap.size := (Array.getElem?_eq_some_iff.1 HG0.out).1
  clear hal hnew hB0
  go_wp2
  go_loopw [5, 19] (fun v u wr => ∃ k : Nat, k ≤ l1.length ∧ u = .int .i64 k ∧ OwnM wr 48 7 opC Op64 (w.heap.size + 1) v ((l1.take k).map Sn.lostI) ∧ wr.heap[w.heap.size]? = some (.cells GX 23 (0, 0)) ∧ Below w.heap.size w wr) (fun _ u _ => l1.length - (intOf u).toNat)
  case atStart => exact ⟨0, by omega, rfl, by simpa using OwnM.nil _ _ _ _ _ _, HG0.out, HB0.out⟩
  case round =>
    obtain ⟨k, hk, rfl, hown, hG, hB⟩ := hrel
    have zg : w.heap.size < wr.heap.size := (Array.getElem?_eq_some_iff.1 hG).1
    obtain ⟨av, cv, rfl, hrv, hnv, hc1, hc2, hxv⟩ := hown.shape kinO
    have hln : ((l1.take k).map Sn.lostI).length = k := by rw [List.length_map, List.length_take]; omega
    rw [hln] at hown ⊢
    have HG := Lib.hid hG
    have HB := Lib.hid hB
    have HOW := Lib.hid hown
    by_cases hlt : k < l1.length
    · obtain ⟨b, o, c, rfl, hb, hc, hcl, hch, hck⟩ := (HI.out.below hB).at hlt
      have HC64 := Lib.hid (lost_op ⟨hcl, hch⟩)
      obtain ⟨W5, hW5⟩ : ∃ W5, wr.alloc (.cells (opC (Sn.lostI c)) 48) = W5 := ⟨_, rfl⟩
      have hb5 : Below wr.heap.size wr W5 := by rw [← hW5]; exact (Below.refl _ _).alloc (Nat.le_refl _) _
      have hR5 : W5.heap[wr.heap.size]? = some (.cells (opC (Sn.lostI c)) 48 (0, 0)) := by rw [← hW5]; exact heap_alloc_new wr _
      have z5 := hb5.size
      have HROW := Lib.hid (one_rowOf (n := 7) (X := opC) (Q := Op64) hR5 HC64.out)
      have HOW5 := Lib.hid (HOW.out.below hb5)
      have HG5 := Lib.hid ((hb5.block w.heap.size zg).trans hG)
      have HB5 := Lib.hid (hB.trans (hb5.mono hB.size))
      have HW5 := Lib.hid hW5
      have hbase : w.heap.size + 1 ≤ W5.heap.size := by omega
      have HCK := Lib.hid hck
      have HLN := Lib.hid hln
      clear hown hG hB hrv hnv hc1 hc2 hxv hW5 hb5 hR5 hcl hch hck hln
      go_upto_region 7 with (fail)
      go_upto_region 8 with (first | (refine wpList_build_on (by rfl) 46 _ rfl #[(0, .int .i64 2)] (by simp [Act.eval, Act.put]) (BEC Sn.lostE) HBL.out ?_) | (refine wpList_build_on (by rfl) 48 _ rfl #[(0, .int .i64 c), (1, .agg (BEC Sn.lostE))] (by simp [Act.eval, Act.put]) (opC (Sn.lostI c)) (HBI.out c) ?_) | (refine wpList_slice1i rfl (.tmp 26) rfl c rfl ?_; rw [HW5.out]) | (at_builtin; refine wpList_appendM rfl (.tmp 23) (.tmp 27) 24 rfl 48 7 opC Op64 kinO (by decide) (.agg (opC (0, BE.zero))) 56 Try.underlying24 HIR.out rfl (w.heap.size + 1) _ ((l1.take k).map Sn.lostI) rfl HOW5.out (some ⟨wr.heap.size, 0, none⟩) 1 [Sn.lostI c] rfl HROW.out (by simp) (by rw [HLN.out]; show k + 1 ≤ _; unfold maxLen; omega) (by rw [HLN.out]; show (k + 1) * 56 ≤ _; omega) hbase ?_; intro v6 w6 hv6 hg6 _))
      have hO6 : Below (w.heap.size + 1) W5 w6 := HOW5.out.grown hg6 hbase
      have HG6 := Lib.hid ((hO6.block w.heap.size (by omega)).trans HG5.out)
      have HB6 := Lib.hid (HB5.out.trans (hO6.mono (by omega)))
      have HV6 := Lib.hid hv6
      have HTK : Hid ((l1.take (k + 1)).map Sn.lostI = (l1.take k).map Sn.lostI ++ [Sn.lostI c]) := Lib.hid (by rw [List.take_add_one, HCK.out]; simp)
      clear hv6 hg6 hO6
      go_wp2
      go_roundw
      case rel => exact ⟨k + 1, by omega, by go_num, by rw [HTK.out]; exact HV6.out, HG6.out, HB6.out⟩
      case measure => simp [intOf]; omega
    · obtain rfl : k = l1.length := by omega
      rw [List.take_length] at hown hrv hln
      have HROW := Lib.hid hrv
      have HLN := Lib.hid hln
      have HRP := Lib.hid (HMA.out wr av (l1.map Sn.lostI) cv hrv)
      rw [hln] at HRP
      clear hown hG hB hrv hnv hc1 hc2 hxv hln HOW
      go_wp2_with (refine wpList_row_on (by rfl) 23 _ rfl w.heap.size rfl 23 _ _ _ HG.out Try.underlying23 rfl HGI.out ?_)
      refine (HRP.out).mono ?_
      rintro eaA waA ⟨SA, TA, okA, rfl, ⟨i1, i2, i3⟩, ⟨j1, j2, j3⟩, hBA, hcA⟩
      have HIA := Lib.hid i1
      have HOA := Lib.hid i2
      have HZA := Lib.hid i3
      have HJA := Lib.hid j1
      have HPA := Lib.hid j2
      have HYA := Lib.hid j3
      have HCA := Lib.hid hcA
      have zbA := hBA.size
      obtain ⟨VA, hVA⟩ : ∃ V, (waA.alloc (.cells SZ 28)).alloc (.cells RZ 32) = V := ⟨_, rfl⟩
      have hvA : VA.heap[waA.heap.size]? = some (.cells SZ 28 (0, 0)) := by rw [← hVA]; exact heap_alloc2_old _ _ _
      have huA : VA.heap[waA.heap.size + 1]? = some (.cells RZ 32 (0, 0)) := by rw [← hVA]; exact heap_alloc2_new _ _ _
      have hbA : Below waA.heap.size waA VA := by rw [← hVA]; exact ((Below.refl _ _).alloc (Nat.le_refl _) _).alloc (by simp) _
      obtain ⟨UA, hUA⟩ : ∃ U, VA.setRow waA.heap.size SA = U := ⟨_, rfl⟩
      have hsA : Only [waA.heap.size] VA UA := by rw [← hUA]; exact only_setRow _ _ _
      have hrA : UA.heap[waA.heap.size]? = some (.cells SA 28 (0, 0)) := by rw [← hUA]; exact setRow_heap _ _ _ _ _ _ hvA
      have hqA := hsA.get huA (by simp)
      obtain ⟨WA, hWA⟩ : ∃ W, UA.setRow (waA.heap.size + 1) TA = W := ⟨_, rfl⟩
      have htA : Only [waA.heap.size + 1] UA WA := by rw [← hWA]; exact only_setRow _ _ _
      have HQAwA := Lib.hid (htA.get hrA (by simp))
      have HTTA : Hid (WA.heap[waA.heap.size + 1]? = some (.cells TA 32 (0, 0))) := Lib.hid (by rw [← hWA]; exact setRow_heap _ _ _ _ _ _ hqA)
      have hxA : Below waA.heap.size waA WA := hbA.trans ((hsA.below (B := waA.heap.size) (by simp) hbA.size).trans (htA.below (B := waA.heap.size) (by simp) (by have := hsA.size; have := hbA.size; omega)))
      have hyA := hBA.trans (hxA.mono zbA)
      have HGA := Lib.hid ((hyA.block w.heap.size (by omega)).trans HG.out)
      have HBA := Lib.hid (HB.out.trans (hyA.mono HB.out.size))
      have HXA := Lib.hid hxA
      have HYYA := Lib.hid hyA
      have HVA := Lib.hid hVA
      have HUA := Lib.hid hUA
      have HWA := Lib.hid hWA
      have HH1A := Lib.hid hvA
      have HH2A := Lib.hid hqA
      have zzA : waA.heap.size + 1 < WA.heap.size := (Array.getElem?_eq_some_iff.1 HTTA.out).1
      clear i1 i2 i3 j1 j2 j3 hBA hcA hVA hvA huA hbA hUA hsA hrA hqA hWA htA hxA hyA
      go_upto_region 10 with (first | (rw [show (waA.alloc (.cells SZ 28)).alloc (.cells RZ 32) = VA from HVA.out]; refine wpList_store_row rfl 28 _ _ rfl waA.heap.size SA rfl rfl 28 SZ HH1A.out HIA.out HZA.out HOA.out ?_; rw [HUA.out]) | (refine wpList_store_row rfl 32 _ _ rfl (waA.heap.size + 1) TA rfl rfl 32 RZ HH2A.out HJA.out HYA.out HPA.out ?_; rw [HWA.out]))
      have hca := HCA.out
      rcases hca with ⟨rfl, -⟩ | ⟨rfl, hgr, hla, pa, lea, lla, va, hSA, -, hsa, -, qa1, qa2, qa3⟩
      · go_wp2
        go_ret
        exact ⟨rfl, HBA.out⟩
      have hrt := Sn.lost_right g l1
      obtain ⟨s, hsE⟩ : ∃ s, Sn.made g (l1.map Sn.lostI) 1 1 1 = s := ⟨_, rfl⟩
      have hsg : s.g = g := by rw [← hsE]; rfl
      rw [hsE] at hSA hsa hrt
      have hsW := hsa.below HXA.out
      have hga : Geo.right s.g = true := hsW.hg
      have hok := Sn.ok_zero hga hrt
      have her : s.er 0 = 0 := by unfold Sn.S.er; rw [hok]; rfl
      have hfr : s.fr 0 = s.frames 0 := by unfold Sn.S.fr; rw [hok]; rfl
      have HFA : Hid (∀ W, SnIs W pa lea lla g.b.toNat (nz g) s → Calls Try.prog 17 #[.agg SA, .int .i64 0] W (FramesPost W s 0)) := Lib.hid (fun W h => by rw [hSA]; exact sframes_any W pa lea lla _ _ s h 0)
      unfold FramesPost at HFA
      rw [her, hfr] at HFA
      have hrd : Sn.readS (s.frames 0) = some s := by have := Sn.read_frames hga hsW.ok hok []; rwa [List.append_nil] at this
      have hlf := Sn.S.frames_length s ((Geo.right_iff _).1 hga).1 0
      have hm64 := Sn.nParts_64 hga
      have hQ : ∀ f ∈ s.frames 0, FrQ f := fun f hf => ⟨(Sn.frames_right hga hok f hf).1, (Sn.frames_right hga hok f hf).2.1⟩
      have hes : s.es.length ≤ 100000 := by have h3 : (s.es.length : Int) = s.g.b := hsW.ok.len; have := ((Geo.right_iff _).1 hga).1.2.2.2.1.2; omega
      have HCN : Hid (∀ (W : World) (p le ll ce cl : Nat), SnIs W p le ll ce cl s → Calls Try.prog 28 #[.pointer (some ⟨p, 0, none⟩), .int .i64 2] W fun e w' => e = .returned (.int .i64 (countB s.es 2 : Nat)) ∧ Below W.heap.size W w') := Lib.hid (fun W p le ll ce cl h => bcount_any W p le ll ce cl s.g s.es _ h.bm 2 hes)
      have HGE : Hid (∀ (W : World) (p le ll ce cl : Nat), SnIs W p le ll ce cl s → Calls Try.prog 29 #[.pointer (some ⟨p, 0, none⟩)] W fun e w' => e = .returned (.agg GX) ∧ Below W.heap.size W w') := Lib.hid (fun W p le ll ce cl h => by have := bgeom_any W p le ll ce cl s.g s.es _ h.bm; rwa [hsg, HGX.out] at this)
      have HEQ : Hid (∀ W, (Op.equalIn 10000 23 (.agg GX) (.agg GX)).run Try.prog W = .ok true W) := Lib.hid (fun W => by rw [← HGX.out]; exact eq_geo g ((Geo.right_iff _).1 hgr).1 W)
      obtain ⟨n, hn⟩ : ∃ n, countB s.es 2 = n := ⟨_, rfl⟩
      rw [hn] at HCN
      have HPA : Hid (∀ (W : World) (b : Nat), W.heap[b]? = some (.cells SA 28 (0, 0)) → W.cell? ⟨b, 3, none⟩ = some (.pointer (some ⟨pa, 0, none⟩))) := Lib.hid (fun W b h => by rw [hSA] at h; exact (sn_cells h).2.2.2)
      obtain ⟨fa, hfa⟩ : ∃ l, s.frames 0 = l := ⟨_, rfl⟩
      rw [hfa] at HFA hrd hlf hQ
      have hl100 : fa.length ≤ 100000 := by omega
      have HSA := Lib.hid hsW
      have HRDS := Lib.hid hrd
      have HQ := Lib.hid hQ
      have HLF := Lib.hid hl100
      clear hgr hla hSA hsa hrt hsE hsg hsW hga hok her hfr hrd hlf hm64 hQ hes hn hfa hl100
      go_wp2_with (refine wpList_row_on (by rfl) 28 _ rfl waA.heap.size rfl 28 _ _ _ HQAwA.out Try.underlying28 rfl HIA.out ?_)
      refine (HFA.out _ HSA.out).mono ?_
      rintro e7 w7 ⟨v7, rfl, ho7, hB7⟩
      have z7 := hB7.size
      obtain ⟨ad7, cp7, rfl, hr7, -, hc1, hc2, -⟩ := ho7.shape kinF
      have HSA7 := Lib.hid (HSA.out.below hB7)
      have HQ7 := Lib.hid ((hB7.block waA.heap.size (by omega)).trans HQAwA.out)
      have HG7 := Lib.hid ((hB7.block w.heap.size (by omega)).trans HGA.out)
      have HB7 := Lib.hid (HBA.out.trans (hB7.mono HBA.out.size))
      have HRD := Lib.hid (sread_any w7 ad7 fa cp7 (hr7.imp HQ.out) HLF.out hc1 hc2)
      clear ho7 hB7 hr7 hc1 hc2
      go_wp2_with fail
      refine HRD.out.mono ?_
      rintro e8 w8 ⟨hB8, ⟨s', p', le', ll', ce', cl', hs', rfl, his, k1, k2, k3⟩ | ⟨hno, -⟩⟩
      rotate_left
      · exact absurd (hno.symm.trans HRDS.out) (by simp)
      have hss : s' = s := by have h := hs'.symm.trans HRDS.out; injection h
      rw [hss] at his ⊢
      have z8 := hB8.size
      obtain ⟨XS, hXS⟩ : ∃ XS, SC s p' = XS := ⟨_, rfl⟩
      have hPX : ∀ (W : World) (b : Nat), W.heap[b]? = some (.cells XS 28 (0, 0)) → W.cell? ⟨b, 3, none⟩ = some (.pointer (some ⟨p', 0, none⟩)) := fun W b h => by rw [← hXS] at h; exact (sn_cells h).2.2.2
      have hXI : (Try.prog.info? 28).map (·.size) = some XS.size := by rw [← hXS]; exact snsize _ _ _ _
      have hXZ : SZ.size = XS.size := by rw [← hXS]; rfl
      have hXO : XS.all (·.oneCell') = true := by rw [← hXS]; simp [SC, SnC, Value.oneCell']
      rw [hXS]
      have HPX := Lib.hid hPX
      have HXI := Lib.hid hXI
      have HXZ := Lib.hid hXZ
      have HXO := Lib.hid hXO
      obtain ⟨W9, hW9⟩ : ∃ W9, w8.alloc (.cells XS 28) = W9 := ⟨_, rfl⟩
      have hb9 : Below w8.heap.size w8 W9 := by rw [← hW9]; exact (Below.refl _ _).alloc (Nat.le_refl _) _
      have HX9 : Hid (W9.heap[w8.heap.size]? = some (.cells XS 28 (0, 0))) := Lib.hid (by rw [← hW9]; exact heap_alloc_new w8 _)
      have hB79 := hB8.trans (hb9.mono z8)
      have HSX9 := Lib.hid (his.below hb9)
      have HSA9 := Lib.hid (HSA7.out.below hB79)
      have HQ9 := Lib.hid ((hB79.block waA.heap.size (by omega)).trans HQ7.out)
      have HG9 := Lib.hid ((hB79.block w.heap.size (by omega)).trans HG7.out)
      have HB9 := Lib.hid (HB7.out.trans (hB79.mono HB7.out.size))
      have HW9 := Lib.hid hW9
      have z9 : w8.heap.size < W9.heap.size := (Array.getElem?_eq_some_iff.1 HX9.out).1
      clear hB8 hs' his hss hXS hPX hXI hXZ hXO hW9 hb9 hB79
      go_upto_region 14 with (refine wpList_store_row rfl 28 _ _ rfl w8.heap.size XS rfl rfl 28 SZ (heap_alloc_new w8 _) HXI.out HXZ.out HXO.out ?_; rw [World.setRow_alloc_new])
      rw [HW9.out]
      refine wp_region_conf2 22 [Fact.eq (.int .i64 0), Fact.eq (.bool true), Fact.eq (.bool true), Fact.eq (.int .i64 0), Fact.eq (.bool true), Fact.eq (.bool true), Fact.eq (.bool true), Fact.eq (.pointer (some ⟨w8.heap.size, 3, none⟩)), Fact.eq (.pointer (some ⟨p', 0, none⟩)), Fact.eq (.int .i64 (n : Nat)), Fact.eq (.pointer (some ⟨waA.heap.size, 3, none⟩)), Fact.eq (.pointer (some ⟨pa, 0, none⟩)), Fact.eq (.int .i64 (n : Nat)), Fact.eq (.bool true), Fact.eq (.bool true), Fact.eq (.bool true), Fact.eq (.pointer (some ⟨w8.heap.size, 3, none⟩)), Fact.eq (.pointer (some ⟨p', 0, none⟩)), Fact.eq (.agg GX), Fact.eq (.agg GX), Fact.eq (.bool true), Fact.eq (.bool true)] ?raA (by kernel_rfl) (by kernel_rfl) ?rahA ?raho ?rahend
      case rahA =>
        intro vv
        simp only [putRules, Nat.reduceAdd]
        rfl
      case raho =>
        refine ⟨?_, ?_, ?_, ?_, ?_, ?_, ?_, ?_, ?_, ?_, ?_, ?_, ?_, ?_, ?_, ?_, ?_, ?_, ?_, ?_, ?_, ?_, trivial⟩
        · intro vv W K hB hd HK
          simp only [confRules] at HK
          clear hd
          go_wp2
          refine HK.out _ _ (Below.refl _ _) ?_
          rfl
        · intro vv W K hB hd HK
          simp only [confRules] at hd HK
          have h0 := hd
          clear hd
          simp only [h0] at HK ⊢
          clear h0
          go_wp2
          refine HK.out _ _ (Below.refl _ _) ?_
          first | rfl | exact congrArg Value.bool (by simp)
        · intro vv W K hB hd HK
          simp only [confRules] at hd HK
          have h1 := hd
          clear hd
          simp only [h1] at HK ⊢
          clear h1
          go_wp2
          refine HK.out _ _ (Below.refl _ _) ?_
          rfl
        · intro vv W K hB hd HK
          simp only [confRules] at hd HK
          have h2 := hd
          clear hd
          simp only [h2] at HK ⊢
          clear h2
          refine wpList_guard_yes (by rfl) ?_
          go_wp2
          refine HK.out _ _ (Below.refl _ _) ?_
          rfl
        · intro vv W K hB hd HK
          simp only [confRules] at hd HK
          obtain ⟨h3, h2⟩ := hd
          simp only [h3, h2] at HK ⊢
          clear h3 h2
          refine wpList_guard_yes (by rfl) ?_
          go_wp2
          refine HK.out _ _ (Below.refl _ _) ?_
          first | rfl | exact congrArg Value.bool (by simp)
        · intro vv W K hB hd HK
          simp only [confRules] at hd HK
          obtain ⟨h2, h4⟩ := hd
          simp only [h2, h4] at HK ⊢
          clear h2 h4
          go_wp2
          refine HK.out _ _ (Below.refl _ _) ?_
          first | rfl | exact congrArg Value.bool (by simp)
        · intro vv W K hB hd HK
          simp only [confRules] at hd HK
          obtain ⟨h5, h2⟩ := hd
          simp only [h5, h2] at HK ⊢
          clear h5 h2
          go_wp2
          refine HK.out _ _ (Below.refl _ _) ?_
          rfl
        · intro vv W K hB hd HK
          simp only [confRules] at hd HK
          have h6 := hd
          clear hd
          simp only [h6] at HK ⊢
          clear h6
          refine wpList_guard_yes (by rfl) ?_
          go_wp2
          refine HK.out _ _ (Below.refl _ _) ?_
          rfl
        · intro vv W K hB hd HK
          simp only [confRules] at hd HK
          obtain ⟨h7, h6⟩ := hd
          simp only [h7, h6] at HK ⊢
          clear h7 h6
          refine wpList_guard_yes (by rfl) ?_
          have c3 := HPX.out W _ ((hB.block w8.heap.size (by omega)).trans HX9.out)
          go_wp2
          refine HK.out _ _ (Below.refl _ _) ?_
          rfl
        · intro vv W K hB hd HK
          simp only [confRules] at hd HK
          obtain ⟨h8, h6, _⟩ := hd
          simp only [h8, h6] at HK ⊢
          clear h8 h6
          refine wpList_guard_yes (by rfl) ?_
          go_wp2_with (refine (HCN.out _ _ _ _ _ _ (HSX9.out.below hB)).mono ?_; rintro e w9 ⟨rfl, hB9⟩)
          refine HK.out _ _ hB9 ?_
          rfl
        · intro vv W K hB hd HK
          simp only [confRules] at hd HK
          have h6 := hd
          clear hd
          simp only [h6] at HK ⊢
          clear h6
          refine wpList_guard_yes (by rfl) ?_
          go_wp2
          refine HK.out _ _ (Below.refl _ _) ?_
          rfl
        · intro vv W K hB hd HK
          simp only [confRules] at hd HK
          obtain ⟨h10, h6⟩ := hd
          simp only [h10, h6] at HK ⊢
          clear h10 h6
          refine wpList_guard_yes (by rfl) ?_
          have c3 := HPA.out W _ ((hB.block waA.heap.size (by omega)).trans HQ9.out)
          go_wp2
          refine HK.out _ _ (Below.refl _ _) ?_
          rfl
        · intro vv W K hB hd HK
          simp only [confRules] at hd HK
          obtain ⟨h11, h9, h6⟩ := hd
          simp only [h11, h9, h6] at HK ⊢
          clear h11 h9 h6
          refine wpList_guard_yes (by rfl) ?_
          go_wp2_with (refine (HCN.out _ _ _ _ _ _ (HSA9.out.below hB)).mono ?_; rintro e w9 ⟨rfl, hB9⟩)
          refine HK.out _ _ hB9 ?_
          rfl
        · intro vv W K hB hd HK
          simp only [confRules] at hd HK
          obtain ⟨h9, h12, h6⟩ := hd
          simp only [h9, h12, h6] at HK ⊢
          clear h9 h12 h6
          refine wpList_guard_yes (by rfl) ?_
          go_wp2
          refine HK.out _ _ (Below.refl _ _) ?_
          first | rfl | exact congrArg Value.bool (by simp)
        · intro vv W K hB hd HK
          simp only [confRules] at hd HK
          obtain ⟨h6, h13⟩ := hd
          simp only [h6, h13] at HK ⊢
          clear h6 h13
          go_wp2
          refine HK.out _ _ (Below.refl _ _) ?_
          first | rfl | exact congrArg Value.bool (by simp)
        · intro vv W K hB hd HK
          simp only [confRules] at hd HK
          obtain ⟨h14, h12⟩ := hd
          simp only [h14, h12] at HK ⊢
          clear h14 h12
          go_wp2
          refine HK.out _ _ (Below.refl _ _) ?_
          rfl
        · intro vv W K hB hd HK
          simp only [confRules] at hd HK
          have h15 := hd
          clear hd
          simp only [h15] at HK ⊢
          clear h15
          refine wpList_guard_yes (by rfl) ?_
          go_wp2
          refine HK.out _ _ (Below.refl _ _) ?_
          rfl
        · intro vv W K hB hd HK
          simp only [confRules] at hd HK
          obtain ⟨h16, h15⟩ := hd
          simp only [h16, h15] at HK ⊢
          clear h16 h15
          refine wpList_guard_yes (by rfl) ?_
          have c3 := HPX.out W _ ((hB.block w8.heap.size (by omega)).trans HX9.out)
          go_wp2
          refine HK.out _ _ (Below.refl _ _) ?_
          rfl
        · intro vv W K hB hd HK
          simp only [confRules] at hd HK
          obtain ⟨h17, h15, _⟩ := hd
          simp only [h17, h15] at HK ⊢
          clear h17 h15
          refine wpList_guard_yes (by rfl) ?_
          go_wp2_with (refine (HGE.out _ _ _ _ _ _ (HSX9.out.below hB)).mono ?_; rintro e w9 ⟨rfl, hB9⟩)
          refine HK.out _ _ hB9 ?_
          rfl
        · intro vv W K hB hd HK
          simp only [confRules] at hd HK
          have h15 := hd
          clear hd
          simp only [h15] at HK ⊢
          clear h15
          refine wpList_guard_yes (by rfl) ?_
          have hT := (hB.block w.heap.size (by omega)).trans HG9.out
          go_wp2_with (refine wpList_row_on (by rfl) 23 _ rfl w.heap.size rfl 23 _ _ _ hT Try.underlying23 rfl HGI.out ?_)
          refine HK.out _ _ (Below.refl _ _) ?_
          rfl
        · intro vv W K hB hd HK
          simp only [confRules] at hd HK
          obtain ⟨h18, h19, h15⟩ := hd
          simp only [h18, h19, h15] at HK ⊢
          clear h18 h19 h15
          refine wpList_guard_yes (by rfl) ?_
          go_wp2_with (refine wpList_eql_on (by rfl) 23 23 _ _ rfl GX GX rfl rfl (by kernel_rfl) true HEQ.out ?_)
          refine HK.out _ _ (Below.refl _ _) ?_
          rfl
        · intro vv W K hB hd HK
          simp only [confRules] at hd HK
          obtain ⟨h15, h20⟩ := hd
          simp only [h15, h20] at HK ⊢
          clear h15 h20
          go_wp2
          refine HK.out _ _ (Below.refl _ _) ?_
          first | rfl | exact congrArg Value.bool (by simp)
      case rahend =>
        intro vv W hB hf
        have e21 := hf 21 (by decide)
        simp only [endRules] at e21
        simp only [e21, dropRules]
        clear hf e21
        have HBW := Lib.hid (HB9.out.trans (hB.mono HB9.out.size))
        clear hB
        go_wp2
        go_ret
        exact ⟨rfl, HBW.out⟩
end Go.Proofs.Ytjnneoejnpephaa
