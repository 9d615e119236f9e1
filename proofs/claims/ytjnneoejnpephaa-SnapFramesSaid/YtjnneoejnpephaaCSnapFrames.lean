/- Proved here, one behind the other: Proved here: the walk of the law on mixed frames; Proved here: the contract of the document's Num: a number's bytes, in memory of the call's own; Proved here: the document's bytes as a body; Proved here: the document's bytes of an entry; Proved here: the document's frames of a snapshot; Proved here: the document's Right of a snapshot; Proved here: the walk of the law on a snapshot's frames. -/
import Derived.LoopTactic
import Derived.Test.YtjnneoejnpephaaBa
import Derived.Test.YtjnneoejnpephaaBc
import Derived.Test.YtjnneoejnpephaaBn
import Derived.Test.YtjnneoejnpephaaBs
import Derived.Test.YtjnneoejnpephaaBt
namespace Go.Proofs.Ytjnneoejnpephaa
open Go.RowKit Go.Rv Frm
set_option linter.unusedVariables false
attribute [local go_sem] Oper.semAt_some
theorem _root_.Go.Rv.RowOf.imp {α : Type} {w : World} {n : Nat} {X : α → Array Value} {Q Q' : α → Prop} {a : Option Addr} {xs : List α} (h : RowOf w n X Q a xs) (hq : ∀ x ∈ xs, Q' x) : RowOf w n X Q' a xs := by
  rcases h with h | ⟨b, o, e, hb, hc⟩
  · exact .inl h
  · exact .inr ⟨b, o, e, hb, fun k x hk => ⟨(hc k x hk).1, hq x (List.mem_of_getElem? hk)⟩⟩
theorem sread_any (w : World) (a : Option Addr) (l : List Fr) (cap : Nat) (hI : RowOf w 49 FC FrQ a l) (hl : l.length ≤ 100000) (hcap : l.length ≤ cap) (hcm : cap ≤ 9223372036854775807) :
    Calls Try.prog 27 #[.slice a l.length cap] w (ReadPost w l) := by
  cases l with
  | nil => exact sread_nil w a cap
  | cons f r => exact sread_cons w a f r cap hI hl hcap hcm
set_option maxRecDepth 100000 in
set_option maxHeartbeats 16000000 in
theorem sn_mixed_walk (w : World) (g : Geo.G) (a1 a2 : Option Addr) (l1 l2 : List (Int × BE)) (c1 c2 : Nat) (at' : Int) (hI1 : RowOf w 7 opC Op64 a1 l1) (hI2 : RowOf w 7 opC Op64 a2 l2) :
    Calls Try.prog 6 #[.agg (GC g), .slice a1 l1.length c1, .slice a2 l2.length c2, .int .i64 at'] w fun e w' => e = .returned (.bool true) ∧ Below w.heap.size w w' := by
  have HA := Lib.hid (fun W => sn_anchor W)
  have HGI := Lib.hid (gsize (g := g))
  have HMA : Hid (∀ W, Below w.heap.size w W → Calls Try.prog 16 #[.agg (GC g), .slice a1 l1.length c1, .int .i64 3, .int .i64 2, .int .i64 281474976710655] W (MadePost W g l1 3 2 281474976710655)) := Lib.hid (fun W hW => made12_any g a1 l1 c1 3 2 281474976710655 W (hI1.below hW))
  have HMB : Hid (∀ W, Below w.heap.size w W → Calls Try.prog 16 #[.agg (GC g), .slice a2 l2.length c2, .int .i64 4, .int .i64 2, .int .i64 281474976710655] W (MadePost W g l2 4 2 281474976710655)) := Lib.hid (fun W hW => made12_any g a2 l2 c2 4 2 281474976710655 W (hI2.below hW))
  have hzs := (zero_of_info Try.infoSnz).1
  have hzr := (zero_of_info Try.infoRS).1
  have hal := (Below.refl w.heap.size w).alloc (Nat.le_refl _) (.cells (GC g) 23)
  have hnew := heap_alloc_new w (.cells (GC g) 23)
  clear hI1 hI2
  obtain ⟨GX, hGX⟩ : ∃ GX, GC g = GX := ⟨_, rfl⟩
  rw [hGX] at HGI HMA HMB hal hnew ⊢
  clear hGX
  go_enter Try.func6, Try.ntmps6
  go_wp2_with fail
  refine (HA.out _).mono ?_
  rintro e w0 ⟨rfl, hB0⟩
  have HG0 := Lib.hid ((hB0.block w.heap.size (by simp)).trans hnew)
  have HB0 := Lib.hid (hal.trans (hB0.mono hal.size))
  have zw0 : w.heap.size < w0.heap.size := (Array.getElem?_eq_some_iff.1 HG0.out).1
  clear hal hnew hB0
  go_wp2_with (refine wpList_row_on (by rfl) 23 _ rfl w.heap.size rfl 23 _ _ _ HG0.out Try.underlying23 rfl HGI.out ?_)
  refine (HMA.out _ HB0.out).mono ?_
  rintro eaA waA ⟨SA, TA, okA, rfl, ⟨i1, i2, i3⟩, ⟨j1, j2, j3⟩, hBA, hcA⟩
  have HIA := Lib.hid i1
  have HOA := Lib.hid i2
  have HZA := Lib.hid i3
  have HJA := Lib.hid j1
  have HPA := Lib.hid j2
  have HYA := Lib.hid j3
  have HCA := Lib.hid hcA
  have zbA := hBA.size
  obtain ⟨VA, hVA⟩ : ∃ V, (waA.alloc (.cells SZ 28)).alloc (.cells RZ 32) = V := ⟨_, rfl⟩
  have hvA : VA.heap[waA.heap.size]? = some (.cells SZ 28 (0, 0)) := by rw [← hVA]; exact heap_alloc2_old _ _ _
  have huA : VA.heap[waA.heap.size + 1]? = some (.cells RZ 32 (0, 0)) := by rw [← hVA]; exact heap_alloc2_new _ _ _
  have hbA : Below waA.heap.size waA VA := by rw [← hVA]; exact ((Below.refl _ _).alloc (Nat.le_refl _) _).alloc (by simp) _
  obtain ⟨UA, hUA⟩ : ∃ U, VA.setRow waA.heap.size SA = U := ⟨_, rfl⟩
  have hsA : Only [waA.heap.size] VA UA := by rw [← hUA]; exact only_setRow _ _ _
  have hrA : UA.heap[waA.heap.size]? = some (.cells SA 28 (0, 0)) := by rw [← hUA]; exact setRow_heap _ _ _ _ _ _ hvA
  have hqA := hsA.get huA (by simp)
  obtain ⟨WA, hWA⟩ : ∃ W, UA.setRow (waA.heap.size + 1) TA = W := ⟨_, rfl⟩
  have htA : Only [waA.heap.size + 1] UA WA := by rw [← hWA]; exact only_setRow _ _ _
  have HQAwA := Lib.hid (htA.get hrA (by simp))
  have HTTA : Hid (WA.heap[waA.heap.size + 1]? = some (.cells TA 32 (0, 0))) := Lib.hid (by rw [← hWA]; exact setRow_heap _ _ _ _ _ _ hqA)
  have hxA : Below waA.heap.size waA WA := hbA.trans ((hsA.below (B := waA.heap.size) (by simp) hbA.size).trans (htA.below (B := waA.heap.size) (by simp) (by have := hsA.size; have := hbA.size; omega)))
  have hyA := hBA.trans (hxA.mono zbA)
  have HGA := Lib.hid ((hyA.block w.heap.size (by omega)).trans HG0.out)
  have HBA := Lib.hid (HB0.out.trans (hyA.mono HB0.out.size))
  have HXA := Lib.hid hxA
  have HYYA := Lib.hid hyA
  have HVA := Lib.hid hVA
  have HUA := Lib.hid hUA
  have HWA := Lib.hid hWA
  have HH1A := Lib.hid hvA
  have HH2A := Lib.hid hqA
  have zzA : waA.heap.size + 1 < WA.heap.size := (Array.getElem?_eq_some_iff.1 HTTA.out).1
  clear i1 i2 i3 j1 j2 j3 hBA hcA hVA hvA huA hbA hUA hsA hrA hqA hWA htA hxA hyA
  go_upto_region 4 with (first | (rw [show (waA.alloc (.cells SZ 28)).alloc (.cells RZ 32) = VA from HVA.out]; refine wpList_store_row rfl 28 _ _ rfl waA.heap.size SA rfl rfl 28 SZ HH1A.out HIA.out HZA.out HOA.out ?_; rw [HUA.out]) | (refine wpList_store_row rfl 32 _ _ rfl (waA.heap.size + 1) TA rfl rfl 32 RZ HH2A.out HJA.out HYA.out HPA.out ?_; rw [HWA.out]))
  go_wp2_with (refine wpList_row_on (by rfl) 23 _ rfl w.heap.size rfl 23 _ _ _ HGA.out Try.underlying23 rfl HGI.out ?_)
  refine (HMB.out _ HBA.out).mono ?_
  rintro eaB waB ⟨SB, TB, okB, rfl, ⟨i1, i2, i3⟩, ⟨j1, j2, j3⟩, hBB, hcB⟩
  have HIB := Lib.hid i1
  have HOB := Lib.hid i2
  have HZB := Lib.hid i3
  have HJB := Lib.hid j1
  have HPB := Lib.hid j2
  have HYB := Lib.hid j3
  have HCB := Lib.hid hcB
  have zbB := hBB.size
  obtain ⟨VB, hVB⟩ : ∃ V, (waB.alloc (.cells SZ 28)).alloc (.cells RZ 32) = V := ⟨_, rfl⟩
  have hvB : VB.heap[waB.heap.size]? = some (.cells SZ 28 (0, 0)) := by rw [← hVB]; exact heap_alloc2_old _ _ _
  have huB : VB.heap[waB.heap.size + 1]? = some (.cells RZ 32 (0, 0)) := by rw [← hVB]; exact heap_alloc2_new _ _ _
  have hbB : Below waB.heap.size waB VB := by rw [← hVB]; exact ((Below.refl _ _).alloc (Nat.le_refl _) _).alloc (by simp) _
  obtain ⟨UB, hUB⟩ : ∃ U, VB.setRow waB.heap.size SB = U := ⟨_, rfl⟩
  have hsB : Only [waB.heap.size] VB UB := by rw [← hUB]; exact only_setRow _ _ _
  have hrB : UB.heap[waB.heap.size]? = some (.cells SB 28 (0, 0)) := by rw [← hUB]; exact setRow_heap _ _ _ _ _ _ hvB
  have hqB := hsB.get huB (by simp)
  obtain ⟨WB, hWB⟩ : ∃ W, UB.setRow (waB.heap.size + 1) TB = W := ⟨_, rfl⟩
  have htB : Only [waB.heap.size + 1] UB WB := by rw [← hWB]; exact only_setRow _ _ _
  have HQBwB := Lib.hid (htB.get hrB (by simp))
  have HTTB : Hid (WB.heap[waB.heap.size + 1]? = some (.cells TB 32 (0, 0))) := Lib.hid (by rw [← hWB]; exact setRow_heap _ _ _ _ _ _ hqB)
  have hxB : Below waB.heap.size waB WB := hbB.trans ((hsB.below (B := waB.heap.size) (by simp) hbB.size).trans (htB.below (B := waB.heap.size) (by simp) (by have := hsB.size; have := hbB.size; omega)))
  have hyB := hBB.trans (hxB.mono zbB)
  have HGB := Lib.hid ((hyB.block w.heap.size (by omega)).trans HGA.out)
  have HBB := Lib.hid (HBA.out.trans (hyB.mono HBA.out.size))
  have HXB := Lib.hid hxB
  have HYYB := Lib.hid hyB
  have HVB := Lib.hid hVB
  have HUB := Lib.hid hUB
  have HWB := Lib.hid hWB
  have HH1B := Lib.hid hvB
  have HH2B := Lib.hid hqB
  have zzB : waB.heap.size + 1 < WB.heap.size := (Array.getElem?_eq_some_iff.1 HTTB.out).1
  have HQAwB := Lib.hid ((hyB.block waA.heap.size (by omega)).trans HQAwA.out)
  clear i1 i2 i3 j1 j2 j3 hBB hcB hVB hvB huB hbB hUB hsB hrB hqB hWB htB hxB hyB
  go_upto_region 5 with (first | (rw [show (waB.alloc (.cells SZ 28)).alloc (.cells RZ 32) = VB from HVB.out]; refine wpList_store_row rfl 28 _ _ rfl waB.heap.size SB rfl rfl 28 SZ HH1B.out HIB.out HZB.out HOB.out ?_; rw [HUB.out]) | (refine wpList_store_row rfl 32 _ _ rfl (waB.heap.size + 1) TB rfl rfl 32 RZ HH2B.out HJB.out HYB.out HPB.out ?_; rw [HWB.out]))
  have hca := HCA.out
  rcases hca with ⟨rfl, -⟩ | ⟨rfl, hgr, hla, pa, lea, lla, va, hSA, -, hsa, -, qa1, qa2, qa3⟩
  · go_wp2
    go_ret
    exact ⟨rfl, HBB.out⟩
  have hcb := HCB.out
  rcases hcb with ⟨rfl, -⟩ | ⟨rfl, -, hlb, pb, leb, llb, vb, hSB, -, hsb, -, qb1, qb2, qb3⟩
  · go_wp2
    go_ret
    exact ⟨rfl, HBB.out⟩
  obtain ⟨sa, hsaE⟩ : ∃ sa, Sn.made g l1 3 2 281474976710655 = sa := ⟨_, rfl⟩
  obtain ⟨sb, hsbE⟩ : ∃ sb, Sn.made g l2 4 2 281474976710655 = sb := ⟨_, rfl⟩
  have hag : sa.g = g ∧ sa.gen = 3 := by rw [← hsaE]; exact ⟨rfl, rfl⟩
  have hbg : sb.g = g ∧ sb.gen = 4 := by rw [← hsbE]; exact ⟨rfl, rfl⟩
  rw [hsaE] at hSA hsa
  rw [hsbE] at hSB hsb
  have hsaW := (hsa.below HXA.out).below HYYB.out
  have hsbW := hsb.below HXB.out
  have HSA := Lib.hid hsaW
  have HSB := Lib.hid hsbW
  have hlen : ∀ s : Sn.S, Geo.right s.g = true → MapOk s.g s.es → s.es.length ≤ 100000 := fun s h1 h2 => by have h3 := h2.len; have := ((Geo.right_iff _).1 h1).1.2.2.2.1.2; omega
  have HRA : Hid (∀ W, SnIs W pa lea lla g.b.toNat (nz g) sa → Calls Try.prog 18 #[.agg SA] W fun e w' => e = .returned (.bool sa.right) ∧ Below W.heap.size W w') := Lib.hid (fun W h => by rw [hSA]; exact sright_any W pa lea lla _ _ sa.g sa.es _ h.bm (hlen sa h.hg h.ok) sa.gen sa.epoch sa.next)
  have HRB : Hid (∀ W, SnIs W pb leb llb g.b.toNat (nz g) sb → Calls Try.prog 18 #[.agg SB] W fun e w' => e = .returned (.bool sb.right) ∧ Below W.heap.size W w') := Lib.hid (fun W h => by rw [hSB]; exact sright_any W pb leb llb _ _ sb.g sb.es _ h.bm (hlen sb h.hg h.ok) sb.gen sb.epoch sb.next)
  have HFA : Hid (∀ W, SnIs W pa lea lla g.b.toNat (nz g) sa → Calls Try.prog 17 #[.agg SA, .int .i64 0] W (FramesPost W sa 0)) := Lib.hid (fun W h => by rw [hSA]; exact sframes_any W pa lea lla _ _ sa h 0)
  have HFB : Hid (∀ W, SnIs W pb leb llb g.b.toNat (nz g) sb → Calls Try.prog 17 #[.agg SB, .int .i64 0] W (FramesPost W sb 0)) := Lib.hid (fun W h => by rw [hSB]; exact sframes_any W pb leb llb _ _ sb h 0)
  have HGR := Lib.hid hgr
  have HAG := Lib.hid hag
  have HBG := Lib.hid hbg
  clear hgr hla hSA hsa hlb hSB hsb hsaW hsbW hlen hsaE hsbE hag hbg
  go_wp2_with (refine wpList_row_on (by rfl) 28 _ rfl waA.heap.size rfl 28 _ _ _ HQAwB.out Try.underlying28 rfl HIA.out ?_)
  refine (HRA.out _ HSA.out).mono ?_
  rintro e5 w5 ⟨rfl, hB5⟩
  have z5 := hB5.size
  have HSA5 := Lib.hid (HSA.out.below hB5)
  have HSB5 := Lib.hid (HSB.out.below hB5)
  have HTA5 := Lib.hid ((hB5.block waA.heap.size (by omega)).trans HQAwB.out)
  have HTB5 := Lib.hid ((hB5.block waB.heap.size (by omega)).trans HQBwB.out)
  have HB5 := Lib.hid (HBB.out.trans (hB5.mono HBB.out.size))
  clear hB5
  cases hra : sa.right
  · go_wp2
    go_ret
    exact ⟨rfl, HB5.out⟩
  go_wp2_with (refine wpList_row_on (by rfl) 28 _ rfl waB.heap.size rfl 28 _ _ _ HTB5.out Try.underlying28 rfl HIB.out ?_)
  refine (HRB.out _ HSB5.out).mono ?_
  rintro e6 w6 ⟨rfl, hB6⟩
  have z6 := hB6.size
  have HSA6 := Lib.hid (HSA5.out.below hB6)
  have HSB6 := Lib.hid (HSB5.out.below hB6)
  have HTA6 := Lib.hid ((hB6.block waA.heap.size (by omega)).trans HTA5.out)
  have HTB6 := Lib.hid ((hB6.block waB.heap.size (by omega)).trans HTB5.out)
  have HB6 := Lib.hid (HB5.out.trans (hB6.mono HB5.out.size))
  clear hB6
  cases hrb : sb.right
  · go_wp2
    go_ret
    exact ⟨rfl, HB6.out⟩
  have hga : Geo.right sa.g = true := by rw [HAG.out.1]; exact HGR.out
  have hgb : Geo.right sb.g = true := by rw [HBG.out.1]; exact HGR.out
  have hoka := Sn.ok_zero hga hra
  have hokb := Sn.ok_zero hgb hrb
  have era : sa.er 0 = 0 := by unfold Sn.S.er; rw [hoka]; rfl
  have erb : sb.er 0 = 0 := by unfold Sn.S.er; rw [hokb]; rfl
  have fra : sa.fr 0 = sa.frames 0 := by unfold Sn.S.fr; rw [hoka]; rfl
  have frb : sb.fr 0 = sb.frames 0 := by unfold Sn.S.fr; rw [hokb]; rfl
  unfold FramesPost at HFA HFB
  rw [era, fra] at HFA
  rw [erb, frb] at HFB
  have HMX : Hid (∀ (k : Nat) (y : Fr), (sb.frames 0)[k]? = some y → Sn.readS ((sa.frames 0).set k y) = none) := Lib.hid (fun k y h => Sn.mixed_none hga (by rw [HAG.out.1, HBG.out.1]) hoka hokb (by rw [HAG.out.2, HBG.out.2]; decide) h)
  have hla := Sn.S.frames_length sa ((Geo.right_iff _).1 hga).1 0
  have hlb := Sn.S.frames_length sb ((Geo.right_iff _).1 hgb).1 0
  have hm64 := Sn.nParts_64 HGR.out
  rw [HAG.out.1] at hla
  rw [HBG.out.1] at hlb
  have HQA : Hid (∀ f ∈ sa.frames 0, FrQ f) := Lib.hid (fun f hf => ⟨(Sn.frames_right hga hoka f hf).1, (Sn.frames_right hga hoka f hf).2.1⟩)
  have HQB : Hid (∀ f ∈ sb.frames 0, FrQ f) := Lib.hid (fun f hf => ⟨(Sn.frames_right hgb hokb f hf).1, (Sn.frames_right hgb hokb f hf).2.1⟩)
  obtain ⟨fa, hfa⟩ : ∃ l, sa.frames 0 = l := ⟨_, rfl⟩
  obtain ⟨fb, hfb⟩ : ∃ l, sb.frames 0 = l := ⟨_, rfl⟩
  rw [hfa] at HFA HMX hla HQA
  rw [hfb] at HFB HMX hlb HQB
  obtain ⟨m, hm⟩ : ∃ m, Sn.nParts g = m := ⟨_, rfl⟩
  rw [hm] at hla hlb hm64
  have HLA := Lib.hid hla
  have HLB := Lib.hid hlb
  clear hga hgb hoka hokb era erb fra frb hfa hfb hm hla hlb hra hrb
  go_wp2_with (refine wpList_row_on (by rfl) 28 _ rfl waA.heap.size rfl 28 _ _ _ HTA6.out Try.underlying28 rfl HIA.out ?_)
  refine (HFA.out _ HSA6.out).mono ?_
  rintro e7 w7 ⟨v7, rfl, ho7, hB7⟩
  have z7 := hB7.size
  have HO7 := Lib.hid (ho7.mono (show w.heap.size ≤ w6.heap.size from HB6.out.size))
  have HSB7 := Lib.hid (HSB6.out.below hB7)
  have HTB7 := Lib.hid ((hB7.block waB.heap.size (by omega)).trans HTB6.out)
  have HB7 := Lib.hid (HB6.out.trans (hB7.mono HB6.out.size))
  obtain ⟨ad7, cp7, rfl, -, -, -, -, -⟩ := ho7.shape kinF
  clear ho7 hB7
  go_wp2_with (refine wpList_row_on (by rfl) 28 _ rfl waB.heap.size rfl 28 _ _ _ HTB7.out Try.underlying28 rfl HIB.out ?_)
  refine (HFB.out _ HSB7.out).mono ?_
  rintro e8 w8 ⟨v8, rfl, ho8, hB8⟩
  have z8 := hB8.size
  have HOA8 := Lib.hid (HO7.out.below hB8)
  have HB8 := Lib.hid (HB7.out.trans (hB8.mono HB7.out.size))
  obtain ⟨ad8, cp8, rfl, hrow8, -, -, -, -⟩ := ho8.shape kinF
  have HRB8 := Lib.hid hrow8
  clear ho8 hB8 hrow8
  rw [HLA.out, HLB.out]
  by_cases hat : 0 ≤ at' ∧ at' < (m : Int)
  · obtain ⟨k, rfl⟩ := Int.eq_ofNat_of_zero_le hat.1
    have hkm : k < m := by omega
    have t0 : decide ((k : Int) < 0) = false := decide_eq_false (by omega)
    have t1 : decide ((m : Int) ≤ (k : Int)) = false := decide_eq_false (by omega)
    obtain ⟨y, hy⟩ : ∃ y, fb[k]? = some y := ⟨_, List.getElem?_eq_getElem (by rw [HLB.out]; exact hkm)⟩
    obtain ⟨by8, oy8, rfl, -, -, -⟩ := HRB8.out.at hy
    have hqy := HQB.out y (List.mem_of_getElem? hy)
    have HNO := Lib.hid (HMX.out k y hy)
    have HQY := Lib.hid hqy
    -- the copy's block
    obtain ⟨W9, hW9⟩ : ∃ W9, w8.alloc (.cells #[] 42) = W9 := ⟨_, rfl⟩
    have hb9 : Below w8.heap.size w8 W9 := by rw [← hW9]; exact (Below.refl _ _).alloc (Nat.le_refl _) _
    have hz9 : W9.heap[w8.heap.size]? = some (.cells #[] 42 (0, 0)) := by rw [← hW9]; exact heap_alloc_new w8 _
    have HF9 := Lib.hid (OwnM.fresh W9 42 49 FC (fun f => f.body.length = 44) (Nat.le_refl w8.heap.size) hz9)
    obtain ⟨ad9, cp9, e9, hra9, hn9, -, -, -⟩ := (HOA8.out.below hb9).shape kinF
    cases e9
    have HRA9 := Lib.hid hra9
    have HN9 := Lib.hid hn9
    have HRB9 := Lib.hid (HRB8.out.below hb9)
    have HB9 := Lib.hid (HB8.out.trans (hb9.mono HB8.out.size))
    have HW9 := Lib.hid hW9
    have z9 := hb9.size
    have HIR : Hid ((Try.prog.info? 42).map (fun i => (i.zero, i.size, i.bytes)) = some (some (.agg (FC Fr.zero)), 49, 88)) := Lib.hid (by kernel_rfl)
    clear hW9 hb9 hz9 hra9 hn9 hat hy hqy
    have hfl : fa.length = m := HLA.out
    go_upto_region 12 with (at_builtin; rw [HW9.out]; refine wpList_appendM rfl (.tmp 86) (.tmp 87) 35 rfl 42 49 FC (fun f => f.body.length = 44) kinF (by decide) (.agg (FC Fr.zero)) 88 Try.underlying35 HIR.out rfl w8.heap.size (.slice (some ⟨w8.heap.size, 0, none⟩) 0 0) [] rfl HF9.out ad7 cp7 fa (by rw [HLA.out]; rfl) HRA9.out HN9.out (by unfold maxLen; simp; omega) (by simp; omega) z9 ?_; intro v10 w10 hv10 hg10 _)
    rw [List.nil_append] at hv10
    have hs10 := HF9.out.grown hg10 z9
    have hB810 : Below w8.heap.size w8 w10 := by
      have hb9 : Below w8.heap.size w8 W9 := by rw [← HW9.out]; exact (Below.refl _ _).alloc (Nat.le_refl _) _
      exact hb9.trans hs10
    have z10 := hB810.size
    have HB10 := Lib.hid (HB8.out.trans (hB810.mono HB8.out.size))
    obtain ⟨y, hy⟩ : ∃ y, fb[k]? = some y := ⟨_, List.getElem?_eq_getElem (by rw [HLB.out]; exact hkm)⟩
    obtain ⟨x, hx⟩ : ∃ x, fa[k]? = some x := ⟨_, List.getElem?_eq_getElem (by rw [HLA.out]; exact hkm)⟩
    have hqy := HQB.out y (List.mem_of_getElem? hy)
    have hry := (HRB8.out.below hB810).range hy (by rw [FC_size, hqy.1.1])
    obtain ⟨ad10, cp10, rfl, hr10, -, hc1, hc2, hx10⟩ := hv10.shape kinF
    obtain ⟨zb, zo, rfl, hzl, -, -⟩ := hr10.at hx
    obtain ⟨rfl, hzb, hth⟩ := hv10.there (show k < fa.length by rw [HLA.out]; exact hkm)
    have hr11 := (hr10.imp HQA.out).store (k := k) (y := y) (by rw [HLA.out]; exact hkm) (by rw [FC_size, hqy.1.1]) hqy (by rw [Nat.zero_add]; exact hth)
    rw [Nat.zero_add] at hr11
    have hiy : (Try.prog.info? 42).map (·.size) = some (FC y).toList.length := by rw [FC_len hqy.1.1]; exact (zero_of_info Try.infoFrame).2
    have hic := size_frq hqy.1.1
    have hoc := FC_one y
    have hsz : (FC y).size = 49 := by rw [FC_size, hqy.1.1]
    have HNO' := Lib.hid (HMX.out k y hy)
    obtain ⟨YL, hYL⟩ : ∃ YL, (FC y).toList = YL := ⟨_, rfl⟩
    have hYC : FC y = YL.toArray := by rw [← hYL]
    rw [hYL] at hry hiy hr11
    rw [hYC] at hic hoc hsz
    have hth' : w10.there zb (k * 49) YL.toArray.size := by rw [hsz]; exact hth
    have HRY := Lib.hid hry
    have HIY := Lib.hid hiy
    have HIC := Lib.hid hic
    have HOC := Lib.hid hoc
    have HTH := Lib.hid hth'
    obtain ⟨W11, hW11⟩ : ∃ W11, w10.setCells zb (k * 49) YL = W11 := ⟨_, rfl⟩
    rw [hW11] at hr11
    have hO11 : Only [zb] w10 W11 := by rw [← hW11]; exact Only.of_setCells zb _ _ _
    have HB11 := Lib.hid (HB10.out.trans (hO11.below (B := w.heap.size) (by simp; have := HB8.out.size; omega) HB10.out.size))
    have HW11 := Lib.hid hW11
    have HRDW : Hid (Calls Try.prog 27 #[.slice (some ⟨zb, 0, none⟩) m cp10] W11 (ReadPost W11 (fa.set k y))) := Lib.hid (by
      have := sread_any W11 (some ⟨zb, 0, none⟩) (fa.set k y) cp10 hr11 (by rw [List.length_set, HLA.out]; omega) (by rw [List.length_set]; exact hc1) hc2
      rwa [List.length_set, HLA.out] at this)
    rw [hfl]
    obtain ⟨XZ, hXZ⟩ : ∃ XZ, SZ = XZ := ⟨_, rfl⟩
    have HXI : Hid ((Try.prog.info? 28).map (·.size) = some XZ.size) := Lib.hid (by rw [← hXZ]; exact (zero_of_info Try.infoSnz).2)
    have HXO : Hid (XZ.all (·.oneCell') = true) := Lib.hid (by rw [← hXZ]; simp [SZ, Value.oneCell'])
    have HXZ := Lib.hid hXZ
    clear hv10 hg10 hs10 hB810 hy hx hqy hry hr10 hc1 hx10 hth hth' hr11 hiy hic hoc hsz hYL hYC hW11 hO11 t0 t1 hfl
    rw [hXZ] at hzs
    clear hXZ
    go_upto_region 13 with (first | (refine wpList_load_mid rfl 42 _ rfl by8 (oy8 + k * 49) rfl YL _ HRY.out Try.underlying42 rfl HIY.out ?_) | (refine wpList_store_mid rfl 42 _ _ rfl zb (k * 49) YL.toArray rfl rfl HTH.out HIC.out HOC.out ?_; rw [show w10.setCells zb (k * 49) YL.toArray.toList = W11 from HW11.out]))
    go_wp2_with fail
    refine HRDW.out.mono ?_
    rintro e12 w12 ⟨hB12, ⟨s', _, _, _, _, _, h, -⟩ | ⟨-, rfl⟩⟩
    · rw [HNO'.out] at h
      cases h
    rw [HXZ.out]
    have HB12 := Lib.hid ((HB11.out.trans (hB12.mono HB11.out.size)).alloc (HB11.out.trans (hB12.mono HB11.out.size)).size (.cells XZ 28))
    clear hB12
    go_wp2_with (refine wpList_store_row rfl 28 _ _ rfl w12.heap.size XZ rfl rfl 28 XZ (heap_alloc_new w12 _) HXI.out rfl HXO.out ?_; rw [World.setRow_alloc_new])
    go_ret
    exact ⟨rfl, HB12.out⟩
  · have hcc : (decide (at' < 0) = true) ∨ (decide (at' < 0) = false ∧ decide ((m : Int) ≤ at') = true) := by
      by_cases h1 : at' < 0
      · exact .inl (decide_eq_true h1)
      · exact .inr ⟨decide_eq_false h1, decide_eq_true (by omega)⟩
    clear hat
    rcases hcc with t0 | ⟨t0, t1⟩
    · go_wp2
      go_ret
      exact ⟨rfl, HB8.out⟩
    · go_wp2
      go_ret
      exact ⟨rfl, HB8.out⟩
end Go.Proofs.Ytjnneoejnpephaa
namespace Go.Proofs.Ytjnneoejnpephaa
open Go.RowKit Go.Rv
set_option linter.unusedVariables false
set_option maxRecDepth 100000 in
set_option maxHeartbeats 400000 in
theorem rnum_any (k n : Nat) (hk : k ≤ 1000) (hn : n < 9223372036854775808) (w : World) :
    Calls Try.prog 60 #[.int .i64 k, .int .i64 n] w fun e w' => ∃ v, e = .returned v ∧ OwnB w' 5 w.heap.size v (Cod.leN k n) ∧ Below w.heap.size w w' := by
  go_enter Try.func60, Try.ntmps60
  go_wp2
  go_loopw [1, 5, 6] (fun x o i wr => ∃ j : Nat, j ≤ k ∧ i = .int .i64 j ∧ x = .int .i64 (n / 256 ^ j : Nat) ∧ OwnB wr 5 w.heap.size o (Cod.leN j n) ∧ Below w.heap.size w wr) (fun _ _ i _ => k - (intOf i).toNat)
  case atStart => exact ⟨0, by omega, rfl, by simp, OwnB.nil _ _ _, Below.refl _ _⟩
  case round =>
    obtain ⟨j, hj, rfl, rfl, ho, hB⟩ := hrel
    by_cases hlt : j < k
    · have hs := Lib.hid (div_succ n j)
      have hle := div_le n j
      have hsn := Lib.hid (Cod.leN_snoc j n)
      have hjl := Lib.hid (Cod.leN_length j n)
      generalize n / 256 ^ j = x at *
      have hx8 : x % 256 < 256 := Nat.mod_lt _ (by omega)
      have hz := hB.size
      go_wp2_with (at_builtin; refine wpList_append_bytes rfl (.tmp 12) (.tmp 16) 94 rfl 5 Try.underlying94 Try.infoU8 w.heap.size _ (Cod.leN j n) rfl (ho.below ((Below.refl _ _).alloc (Nat.le_refl _) _)) (some ⟨wr.heap.size, 0, none⟩) 1 [x % 256] rfl (one_byte_row wr _ _ hx8) (fun e => by cases e) (by rw [hjl.out]; simp; omega) (by simp; omega) ?_; intro v' w' hv hg)
      have hb2 := (hB.alloc hz _).trans ((ho.below ((Below.refl _ _).alloc (Nat.le_refl _) _)).grown hg (by simp; omega))
      go_roundw
      case rel => exact ⟨j + 1, by omega, by go_num, by rw [← hs.out]; go_num, by rw [hsn.out]; exact hv, hb2⟩
      case measure => simp [intOf]; omega
    · obtain rfl : j = k := by omega
      go_wp2
      go_ret
      exact ⟨_, rfl, ho, hB⟩
end Go.Proofs.Ytjnneoejnpephaa
namespace Sn
theorem pad44_set {l : List Nat} {k c : Nat} (hk : l[k]? = some c) (h : l.length ≤ 44) : (pad44 (l.take k)).set k c = pad44 (l.take (k + 1)) := by
  have hlt : k < l.length := (List.getElem?_eq_some_iff.1 hk).1
  have hc : l[k] = c := (List.getElem?_eq_some_iff.1 hk).2
  have h1 : (l.take k).length = k := by rw [List.length_take]; omega
  have h2 : (l.take (k + 1)).length = k + 1 := by rw [List.length_take]; omega
  unfold pad44
  rw [h1, h2, List.set_append_right _ _ (by omega), h1, Nat.sub_self, List.take_add_one, hk]
  obtain ⟨n, hn⟩ : ∃ n, 44 - k = n + 1 := ⟨44 - k - 1, by omega⟩
  rw [hn, show 44 - (k + 1) = n by omega, List.replicate_succ, List.set_cons_zero]
  simp
end Sn
namespace Go.Proofs.Ytjnneoejnpephaa
open Go.RowKit Go.Rv
set_option linter.unusedVariables false
attribute [local go_sem] Oper.semAt_some
theorem pad_cells {l : List Nat} {k c : Nat} (hk : l[k]? = some c) (h : l.length ≤ 44) : (byteCells (Sn.pad44 (l.take k))).setIfInBounds k (bv c) = byteCells (Sn.pad44 (l.take (k + 1))) := by
  rw [← Sn.pad44_set hk h]
  unfold byteCells
  rw [List.setIfInBounds_toArray, List.map_set]
  rfl
set_option maxRecDepth 100000 in
set_option maxHeartbeats 4000000 in
theorem rsbytes_any (a : Option Addr) (l : List Nat) (cap : Nat) (w : World) (hI : Bytes w a l) (hl : l.length ≤ 44) :
    Calls Try.prog 61 #[.slice a l.length cap] w fun e w' => e = .returned (.agg (byteCells (Sn.pad44 l))) ∧ Below w.heap.size w w' := by
  have hz := (zero_of_info Try.infoBody).1
  have HI := Lib.hid (fun m (h : m ≤ l.length) => size_body (Sn.pad44_length (l := l.take m) (by rw [List.length_take]; omega)))
  have HONE := Lib.hid (fun m => one_byteCells (Sn.pad44 (l.take m)))
  have HBY := Lib.hid hI
  have HPC := Lib.hid (fun k c (hk : l[k]? = some c) => pad_cells hk hl)
  have hbn : ∀ k c : Nat, l[k]? = some c → c < 256 := fun k c h => hI.1 c (List.mem_of_getElem? h)
  have h00 : byteCells (Sn.pad44 (l.take 0)) = byteCells (List.replicate 44 0) := rfl
  rw [← h00] at hz
  clear hI h00
  obtain ⟨Z, hZ⟩ : ∃ Z, byteCells (Sn.pad44 (l.take 0)) = Z := ⟨_, rfl⟩
  rw [hZ] at hz
  have HZ := Lib.hid hZ
  clear hZ
  have hB0 : Below w.heap.size w ((w.alloc (.cells Z 40)).alloc (.cells Z 40)) := ((Below.refl _ _).alloc (Nat.le_refl _) _).alloc (by simp) _
  obtain ⟨W0, hW0⟩ : ∃ W0, (w.alloc (.cells Z 40)).alloc (.cells Z 40) = W0 := ⟨_, rfl⟩
  have hS0 : W0.heap[w.heap.size]? = some (.cells Z 40 (0, 0)) := by rw [← hW0]; exact heap_alloc2_old w _ _
  have hO0 : W0.heap[w.heap.size + 1]? = some (.cells Z 40 (0, 0)) := by rw [← hW0]; exact heap_alloc2_new w _ _
  rw [hW0] at hB0
  have HW0 := Lib.hid hW0
  clear hW0
  go_enter Try.func61, Try.ntmps61
  go_wp2
  rw [HW0.out]
  go_loopw [4] (fun u wr => ∃ k : Nat, k ≤ l.length ∧ u = .int .i64 k ∧ wr.heap[w.heap.size]? = some (.cells Z 40 (0, 0)) ∧ wr.heap[w.heap.size + 1]? = some (.cells (byteCells (Sn.pad44 (l.take k))) 40 (0, 0)) ∧ Below w.heap.size w wr) (fun u _ => l.length - (intOf u).toNat)
  case atStart => exact ⟨0, by omega, rfl, hS0, by rw [HZ.out]; exact hO0, hB0⟩
  case round =>
    obtain ⟨k, hk, rfl, hS, hO, hB⟩ := hrel
    have zO : w.heap.size + 1 < wr.heap.size := (Array.getElem?_eq_some_iff.1 hO).1
    by_cases hlt : k < l.length
    · obtain ⟨b, o, c, rfl, hb, hc, hcb, hck⟩ := (HBY.out.below hB).at hlt
      have hsz : (byteCells (Sn.pad44 (l.take k))).size = 44 := by rw [size_byteCells, Sn.pad44_length (by rw [List.length_take]; omega)]
      obtain ⟨v, hv⟩ : ∃ v, (byteCells (Sn.pad44 (l.take k)))[k]? = some v := ⟨_, Array.getElem?_eq_getElem (by omega)⟩
      have d0 : wr.cell? ⟨w.heap.size + 1, k, none⟩ = some v := (cell_of_row _ _ _ _ _ _ hO).trans hv
      have d1 := frozen_of_row _ (w.heap.size + 1) k _ _ hO
      have h1 := heap_setCell_same wr (w.heap.size + 1) k _ _ (bv c) hO
      rw [HPC.out k c hck] at h1
      obtain ⟨W1, hW1⟩ : ∃ W1, wr.setCell ⟨w.heap.size + 1, k, none⟩ (bv c) = W1 := ⟨_, rfl⟩
      rw [hW1] at h1
      have hO1 : Only [w.heap.size + 1] wr W1 := by rw [← hW1]; exact (Only.refl _ _).setCell (.inl (by simp)) _
      have HS1 := Lib.hid (hO1.get hS (by simp))
      have HO1 := Lib.hid h1
      have HB1 := Lib.hid (hB.trans (hO1.below (B := w.heap.size) (by simp) hB.size))
      have HW1 := Lib.hid hW1
      have k44 : k < 44 := by omega
      clear h1 hW1 hO1 hS hO hB hv hsz hck
      go_wp2
      rw [show wr.setCell ⟨w.heap.size + 1, k, none⟩ (.int .u8 (c : Nat)) = W1 from HW1.out]
      exact ⟨⟨k + 1, by omega, by go_num, HS1.out, HO1.out, HB1.out⟩, by simp [intOf]; omega⟩
    · obtain rfl : k = l.length := by omega
      rw [List.take_length] at hO
      have hi : (Try.prog.info? 40).map (·.size) = some (byteCells (Sn.pad44 l)).size := size_body (Sn.pad44_length hl)
      have hzs : Z.size = (byteCells (Sn.pad44 l)).size := by rw [← HZ.out, size_byteCells, size_byteCells, Sn.pad44_length hl]; rfl
      have hS10 := hS
      have hone := one_byteCells (Sn.pad44 l)
      have HIX := Lib.hid hi
      have HZS := Lib.hid hzs
      have HONE1 := Lib.hid hone
      clear hi hzs hone
      go_wp2_with (first | (refine wpList_load_row rfl 40 _ rfl (w.heap.size + 1) rfl 40 _ _ _ hO Try.underlying40 rfl HIX.out ?_) | (refine wpList_store_row rfl 40 _ _ rfl w.heap.size (byteCells (Sn.pad44 l)) rfl rfl 40 Z hS HIX.out HZS.out HONE1.out ?_))
      refine bodyPost_ret (res_row rfl _ _ w.heap.size 40 (byteCells (Sn.pad44 l)) _ _ rfl (setRow_heap _ _ _ _ _ _ hS10) Try.underlying40 rfl HIX.out) rfl ?_
      exact ⟨rfl, below_setRow hB (by omega) _⟩
end Go.Proofs.Ytjnneoejnpephaa
namespace Go.Proofs.Ytjnneoejnpephaa
open Go.RowKit Go.Rv
set_option linter.unusedVariables false
attribute [local go_sem] Oper.semAt_some
set_option maxRecDepth 100000 in
set_option maxHeartbeats 4000000 in
theorem rsentry_any (e : BE) (w : World) (he : Sn.Room e) :
    Calls Try.prog 62 #[.agg (BEC e)] w fun x w' => ∃ v, x = .returned v ∧ OwnB w' 5 w.heap.size v (Sn.entB e) ∧ Below w.heap.size w w' := by
  obtain ⟨st, z, m, o, q, s⟩ := e
  obtain ⟨⟨a0, b0⟩, ⟨a1, b1⟩, ⟨a2, b2⟩, ⟨a3, b3⟩, ⟨a4, b4⟩, ⟨a5, b5⟩⟩ := he
  simp only at a0 a1 a2 a3 a4 a5 b0 b1 b2 b3 b4 b5
  obtain ⟨st, rfl⟩ := Int.eq_ofNat_of_zero_le a0
  obtain ⟨z, rfl⟩ := Int.eq_ofNat_of_zero_le a1
  obtain ⟨m, rfl⟩ := Int.eq_ofNat_of_zero_le a2
  obtain ⟨o, rfl⟩ := Int.eq_ofNat_of_zero_le a3
  obtain ⟨q, rfl⟩ := Int.eq_ofNat_of_zero_le a4
  obtain ⟨s, rfl⟩ := Int.eq_ofNat_of_zero_le a5
  have hE : Sn.entB ⟨st, z, m, o, q, s⟩ = [st] ++ Cod.leN 2 z ++ Cod.leN 2 m ++ [o] ++ Cod.leN 6 q ++ Cod.leN 4 s := by
    have e1 : Cod.leN 1 st = [st] := by simp [Cod.leN]; omega
    have e2 : Cod.leN 1 o = [o] := by simp [Cod.leN]; omega
    simp [Sn.entB, e1, e2]
  obtain ⟨q1, hq1⟩ : ∃ q, q = [st] := ⟨_, rfl⟩
  obtain ⟨q2, hq2⟩ : ∃ y, y = q1 ++ Cod.leN 2 z := ⟨_, rfl⟩
  obtain ⟨q3, hq3⟩ : ∃ y, y = q2 ++ Cod.leN 2 m := ⟨_, rfl⟩
  obtain ⟨q4, hq4⟩ : ∃ y, y = q3 ++ [o] := ⟨_, rfl⟩
  obtain ⟨q5, hq5⟩ : ∃ y, y = q4 ++ Cod.leN 6 q := ⟨_, rfl⟩
  obtain ⟨q6, hq6⟩ : ∃ y, y = q5 ++ Cod.leN 4 s := ⟨_, rfl⟩
  have l1 : q1.length = 1 := by rw [hq1]; rfl
  have l2 : q2.length = 3 := by rw [hq2]; simp [l1, Cod.leN_length]
  have l3 : q3.length = 5 := by rw [hq3]; simp [l2, Cod.leN_length]
  have l4 : q4.length = 6 := by rw [hq4]; simp [l3]
  have l5 : q5.length = 12 := by rw [hq5]; simp [l4, Cod.leN_length]
  rw [hE, ← hq1, ← hq2, ← hq3, ← hq4, ← hq5, ← hq6]
  have L1 := Lib.hid l1
  have L2 := Lib.hid l2
  have L3 := Lib.hid l3
  have L4 := Lib.hid l4
  have L5 := Lib.hid l5
  have Q1 := Lib.hid hq1
  have Q2 := Lib.hid hq2
  have Q3 := Lib.hid hq3
  have Q4 := Lib.hid hq4
  have Q5 := Lib.hid hq5
  have Q6 := Lib.hid hq6
  have HN1 := Lib.hid (fun W => rnum_any 2 z (by omega) (by omega) W)
  have HN2 := Lib.hid (fun W => rnum_any 2 m (by omega) (by omega) W)
  have HN3 := Lib.hid (fun W => rnum_any 6 q (by omega) (by omega) W)
  have HN4 := Lib.hid (fun W => rnum_any 4 s (by omega) (by omega) W)
  have hst : st < 256 := by omega
  have ho : o < 256 := by omega
  clear hE l1 l2 l3 l4 l5 hq1 hq2 hq3 hq4 hq5 hq6 a0 a1 a2 a3 a4 a5 b0 b1 b2 b3 b4 b5
  have HCE : Hid (∀ W : World, W.heap[w.heap.size]? = some (.cells (BEC ⟨st, z, m, o, q, s⟩) 104 (0, 0)) → W.cell? ⟨w.heap.size, 0, none⟩ = some (.int .i64 st) ∧ W.cell? ⟨w.heap.size, 1, none⟩ = some (.int .i64 z) ∧ W.cell? ⟨w.heap.size, 2, none⟩ = some (.int .i64 m) ∧ W.cell? ⟨w.heap.size, 3, none⟩ = some (.int .i64 o) ∧ W.cell? ⟨w.heap.size, 4, none⟩ = some (.int .i64 q) ∧ W.cell? ⟨w.heap.size, 5, none⟩ = some (.int .i64 s)) := Lib.hid (fun W hh => ⟨(cell_of_row _ _ _ _ _ _ hh).trans rfl, (cell_of_row _ _ _ _ _ _ hh).trans rfl, (cell_of_row _ _ _ _ _ _ hh).trans rfl, (cell_of_row _ _ _ _ _ _ hh).trans rfl, (cell_of_row _ _ _ _ _ _ hh).trans rfl, (cell_of_row _ _ _ _ _ _ hh).trans rfl⟩)
  generalize BEC ⟨st, z, m, o, q, s⟩ = C at *
  have hB0 : Below w.heap.size w (w.alloc (.cells C 104)) := (Below.refl _ _).alloc (Nat.le_refl _) _
  have hF0 := heap_alloc_new w (.cells C 104)
  have z0 : (w.alloc (.cells C 104)).heap.size = w.heap.size + 1 := by simp
  obtain ⟨W0, hW0⟩ : ∃ W0, w.alloc (.cells C 104) = W0 := ⟨_, rfl⟩
  rw [hW0] at hB0 hF0 z0
  obtain ⟨d0, d1, d2, d3, d4, d5⟩ := HCE.out _ hF0
  have hg1 := heap_alloc_new W0 (.cells (byteCells q1) 5)
  have hq1b : byteCells q1 = #[.int .u8 (st : Nat)] := by rw [Q1.out]; rfl
  have hba := (Below.refl W0.heap.size W0).alloc (Nat.le_refl _) (.cells (byteCells q1) 5)
  have zz1 : (W0.alloc (.cells (byteCells q1) 5)).heap.size = W0.heap.size + 1 := by simp
  rw [hq1b] at hba zz1
  have hown1 : OwnB (W0.alloc (.cells #[.int .u8 (st : Nat)] 5)) 5 (w.heap.size + 1) (.slice (some ⟨w.heap.size + 1, 0, none⟩) 1 1) q1 := by
    have := OwnB.row (e := 5) (base := w.heap.size + 1) (g := W0.heap.size) (by omega) hg1 (by rw [Q1.out]; intro c hc; simp at hc; omega) (by rw [L1.out]; unfold maxLen; omega)
    rwa [L1.out, hq1b, z0] at this
  obtain ⟨W1, hW1⟩ : ∃ W1, W0.alloc (.cells #[.int .u8 (st : Nat)] 5) = W1 := ⟨_, rfl⟩
  rw [hW1] at hown1 hba zz1
  have HW0 := Lib.hid hW0
  have HW1 := Lib.hid hW1
  have hF1 := (hba.block w.heap.size (by omega)).trans hF0
  have hBw1 := hB0.trans (hba.mono (by omega))
  have hsz1 : w.heap.size + 1 ≤ W1.heap.size := by omega
  clear hg1 hq1b hba hW1 hW0 zz1
  clear hF0 hB0
  go_enter Try.func62, Try.ntmps62
  go_upto_region 1 with (fail)
  rw [HW0.out]
  go_wp2_with fail
  try rw [HW1.out]
  refine (HN1.out _).mono ?_
  rintro x w2 ⟨v2, rfl, ho2, hB2⟩
  obtain ⟨a2, c2, rfl, hb2, hn2, -⟩ := ho2.bytes
  have hFx := (hB2.block w.heap.size (by omega)).trans hF1
  have hownx := hown1.below hB2
  have hBwx := hBw1.trans (hB2.mono (by omega))
  have hszx : w.heap.size + 1 ≤ w2.heap.size := Nat.le_trans hsz1 hB2.size
  clear hF1 hown1 hBw1 hsz1
  go_wp2_with (at_builtin; refine wpList_append_bytes rfl (.tmp 8) (.tmp 11) 94 rfl 5 Try.underlying94 Try.infoU8 (w.heap.size + 1) _ q1 rfl hownx a2 c2 (Cod.leN 2 z) rfl hb2 hn2 (by rw [L1.out, Cod.leN_length]; omega) hszx ?_; intro v3 w3 hv3 hg3; have hb3 := hownx.grown hg3 hszx; have hF2 := (hb3.block w.heap.size (by omega)).trans hFx; have hBw2 := hBwx.trans (hb3.mono (by omega)); have hsz2 := Nat.le_trans hszx hb3.size; rw [← Q2.out] at hv3; have hown2 := hv3; obtain ⟨d0, d1, d2, d3, d4, d5⟩ := HCE.out _ hF2)
  clear hb3 hFx hownx hBwx hszx ho2 hB2 hb2 hn2 hg3 hv3
  refine (HN2.out _).mono ?_
  rintro x w2 ⟨v2, rfl, ho2, hB2⟩
  obtain ⟨a2, c2, rfl, hb2, hn2, -⟩ := ho2.bytes
  have hFx := (hB2.block w.heap.size (by omega)).trans hF2
  have hownx := hown2.below hB2
  have hBwx := hBw2.trans (hB2.mono (by omega))
  have hszx : w.heap.size + 1 ≤ w2.heap.size := Nat.le_trans hsz2 hB2.size
  clear hF2 hown2 hBw2 hsz2
  go_upto_region 4 with (at_builtin; refine wpList_append_bytes rfl (.tmp 13) (.tmp 16) 94 rfl 5 Try.underlying94 Try.infoU8 (w.heap.size + 1) _ q2 rfl hownx a2 c2 (Cod.leN 2 m) rfl hb2 hn2 (by rw [L2.out, Cod.leN_length]; omega) hszx ?_; intro v3 w3 hv3 hg3; have hb3 := hownx.grown hg3 hszx; have hF3 := (hb3.block w.heap.size (by omega)).trans hFx; have hBw3 := hBwx.trans (hb3.mono (by omega)); have hsz3 := Nat.le_trans hszx hb3.size; rw [← Q3.out] at hv3; have hown3 := hv3; obtain ⟨d0, d1, d2, d3, d4, d5⟩ := HCE.out _ hF3)
  clear hb3 hFx hownx hBwx hszx ho2 hB2 hb2 hn2 hg3 hv3
  have hal : Below w3.heap.size w3 (w3.alloc (.cells #[.int .u8 (o : Nat)] 5)) := (Below.refl _ _).alloc (Nat.le_refl _) _
  have hrow : Bytes (w3.alloc (.cells #[.int .u8 (o : Nat)] 5)) (some ⟨w3.heap.size, 0, none⟩) [o] := byteCells_row (l := [o]) (heap_alloc_new _ _) (by intro c hc; simp at hc; omega)
  have hFx := (hal.block w.heap.size (by omega)).trans hF3
  have hownx := hown3.below hal
  have hBwx := hBw3.trans (hal.mono (by omega))
  have hszx : w.heap.size + 1 ≤ (w3.alloc (.cells #[.int .u8 (o : Nat)] 5)).heap.size := Nat.le_trans hsz3 hal.size
  clear hF3 hown3 hBw3 hsz3
  go_wp2_with (at_builtin; refine wpList_append_bytes rfl (.tmp 18) (.tmp 22) 94 rfl 5 Try.underlying94 Try.infoU8 (w.heap.size + 1) _ q3 rfl hownx (some ⟨w3.heap.size, 0, none⟩) 1 [o] rfl hrow (fun e => by cases e) (by rw [L3.out]; simp) hszx ?_; intro v3 w3' hv3 hg3; have hb3 := hownx.grown hg3 hszx; have hF4 := (hb3.block w.heap.size (by omega)).trans hFx; have hBw4 := hBwx.trans (hb3.mono (by omega)); have hsz4 := Nat.le_trans hszx hb3.size; rw [← Q4.out] at hv3; have hown4 := hv3; obtain ⟨d0, d1, d2, d3, d4, d5⟩ := HCE.out _ hF4)
  clear hb3 hFx hownx hBwx hszx hal hrow hg3 hv3
  refine (HN3.out _).mono ?_
  rintro x w2 ⟨v2, rfl, ho2, hB2⟩
  obtain ⟨a2, c2, rfl, hb2, hn2, -⟩ := ho2.bytes
  have hFx := (hB2.block w.heap.size (by omega)).trans hF4
  have hownx := hown4.below hB2
  have hBwx := hBw4.trans (hB2.mono (by omega))
  have hszx : w.heap.size + 1 ≤ w2.heap.size := Nat.le_trans hsz4 hB2.size
  clear hF4 hown4 hBw4 hsz4
  go_wp2_with (at_builtin; refine wpList_append_bytes rfl (.tmp 24) (.tmp 27) 94 rfl 5 Try.underlying94 Try.infoU8 (w.heap.size + 1) _ q4 rfl hownx a2 c2 (Cod.leN 6 q) rfl hb2 hn2 (by rw [L4.out, Cod.leN_length]; omega) hszx ?_; intro v3 w3 hv3 hg3; have hb3 := hownx.grown hg3 hszx; have hF5 := (hb3.block w.heap.size (by omega)).trans hFx; have hBw5 := hBwx.trans (hb3.mono (by omega)); have hsz5 := Nat.le_trans hszx hb3.size; rw [← Q5.out] at hv3; have hown5 := hv3; obtain ⟨d0, d1, d2, d3, d4, d5⟩ := HCE.out _ hF5)
  clear hb3 hFx hownx hBwx hszx ho2 hB2 hb2 hn2 hg3 hv3
  refine (HN4.out _).mono ?_
  rintro x w2 ⟨v2, rfl, ho2, hB2⟩
  obtain ⟨a2, c2, rfl, hb2, hn2, -⟩ := ho2.bytes
  have hFx := (hB2.block w.heap.size (by omega)).trans hF5
  have hownx := hown5.below hB2
  have hBwx := hBw5.trans (hB2.mono (by omega))
  have hszx : w.heap.size + 1 ≤ w2.heap.size := Nat.le_trans hsz5 hB2.size
  clear hF5 hown5 hBw5 hsz5
  go_wp2_with (at_builtin; refine wpList_append_bytes rfl (.tmp 29) (.tmp 32) 94 rfl 5 Try.underlying94 Try.infoU8 (w.heap.size + 1) _ q5 rfl hownx a2 c2 (Cod.leN 4 s) rfl hb2 hn2 (by rw [L5.out, Cod.leN_length]; omega) hszx ?_; intro v3 w3 hv3 hg3; have hb3 := hownx.grown hg3 hszx; have hF6 := (hb3.block w.heap.size (by omega)).trans hFx; have hBw6 := hBwx.trans (hb3.mono (by omega)); have hsz6 := Nat.le_trans hszx hb3.size; rw [← Q6.out] at hv3; have hown6 := hv3)
  clear hb3 hFx hownx hBwx hszx ho2 hB2 hb2 hn2 hg3 hv3
  go_ret
  exact ⟨_, rfl, hown6.mono (by omega), hBw6⟩
end Go.Proofs.Ytjnneoejnpephaa
namespace Sn
open Go.Proofs.Ytjnneoejnpephaa
theorem pad44_zeros (l : List Nat) {k : Nat} (h : l.length + k ≤ 44) : pad44 (l ++ List.replicate k 0) = pad44 l := by
  unfold pad44
  rw [List.append_assoc, List.length_append, List.length_replicate, List.replicate_append_replicate, show k + (44 - (l.length + k)) = 44 - l.length by omega]
theorem entB_zero : entB BE.zero = List.replicate 16 0 := by decide
theorem doc_two {es : List BE} {j : Nat} (hj : j + 1 < 256) : pad44 ([j + 1] ++ entB (entAt es (2 * j)) ++ entB (entAt es (2 * j + 1))) = pad44 (partB es (j + 1)) := by
  rw [partB_eq]
  have e1 : Cod.leN 1 (j + 1) = [j + 1] := by simp [Cod.leN]; omega
  rw [e1]
theorem doc_one {es : List BE} {j : Nat} (hj : j + 1 < 256) (h : es.length ≤ 2 * j + 1) : pad44 ([j + 1] ++ entB (entAt es (2 * j))) = pad44 (partB es (j + 1)) := by
  rw [← doc_two hj]
  have e2 : entAt es (2 * j + 1) = BE.zero := by unfold entAt; rw [List.getElem?_eq_none (by omega)]; rfl
  rw [e2, entB_zero, pad44_zeros _ (by simp [entB_length])]
theorem entAt_eq {es : List BE} {k : Nat} {x : BE} (h : es[k]? = some x) : entAt es k = x := by unfold entAt; rw [h]; rfl
end Sn
namespace Go.Proofs.Ytjnneoejnpephaa
open Go.RowKit Go.Rv Frm
set_option linter.unusedVariables false
attribute [local go_sem] Oper.semAt_some
def Fact.rowSl (B : Nat) (C : Array Value) (t : TypeId) : Fact := ⟨fun u w => ∃ g, u = .slice (some ⟨g, 0, none⟩) 1 1 ∧ B ≤ g ∧ w.heap[g]? = some (.cells C t (0, 0)), fun u w w' ⟨g, e, hb, h⟩ hB => ⟨g, e, hb, (hB.block g (Array.getElem?_eq_some_iff.1 h).1).trans h⟩⟩
theorem Try.infoF3 : (Try.prog.info? 65).map (fun i => (i.zero, i.size)) = some (some (.agg (FC Fr.zero)), 49) := by kernel_rfl
theorem Try.infoE11 : (Try.prog.info? 104).map (·.size) = some 6 := by kernel_rfl
set_option maxRecDepth 100000 in
theorem built_headr (z e s : Int) (b : List Nat) (hl : b.length = 44) : Try.prog.built 65 [(0, .int .i64 4), (1, .int .i64 z), (3, .int .i64 e), (4, .int .i64 s), (5, .agg (byteCells b))] = some (FC ⟨4, z, 0, e, s, b⟩) := by
  obtain ⟨f, rfl⟩ := list_fn b 44 hl
  kernel_rfl
set_option maxRecDepth 100000 in
theorem built_partr (z o e s : Int) (b : List Nat) (hl : b.length = 44) : Try.prog.built 65 [(0, .int .i64 5), (1, .int .i64 z), (2, .int .i64 o), (3, .int .i64 e), (4, .int .i64 s), (5, .agg (byteCells b))] = some (FC ⟨5, z, o, e, s, b⟩) := by
  obtain ⟨f, rfl⟩ := list_fn b 44 hl
  kernel_rfl
/-- a slice of one of the document's frames is made -/
theorem wpList_slice1r {w : World} {ops : Array Oper} {rest : List Oper} {o : Oper} {a : Act} {Q : Exit → Act → World → Prop} (hg : o.guard = none) (x : Operand) (ho : o.op = .buildSlice 63 1 #[(0, x)]) (f : Fr) (hf : f.body.length = 44) (hx : a.eval x = .agg (FC f))
    (h : wpList Try.prog ops Q rest (a.put o.dst (.slice (some ⟨w.heap.size, 0, none⟩) 1 1)) (w.alloc (.cells (FC f) 65))) : wpList Try.prog ops Q (o :: rest) a w := by
  have hi := Try.infoF3
  cases hie : Try.prog.info? 65 with
  | none => rw [hie] at hi; cases hi
  | some ie =>
    rw [hie, Option.map_some, Option.some.injEq, Prod.mk.injEq] at hi
    obtain ⟨hz, hs⟩ := hi
    refine wpList_buildSlice hg 63 65 1 #[(0, x)] ho (FC f) ie (.agg (FC Fr.zero)) Try.underlying63 hie hz (by rw [hs]; decide) (by rw [hs]; decide) ?_ h
    rw [hs]
    obtain ⟨k, z, o, e, s, b⟩ := f
    have h1 := filled_frame k z o e s b hf _ rfl
    simp only [List.map_toArray, List.map_cons, List.map_nil, hx]
    exact h1
set_option maxRecDepth 100000 in
set_option maxHeartbeats 16000000 in
theorem rsframes_core (w : World) (gen epoch : Int) (nx dd z s b p o : Nat) (a : Option Addr) (cap : Nat) (es : List BE) (hr : RowOf w 6 BEC (fun _ => True) a es) (hrm : ∀ e ∈ es, Sn.Room e) (hn : nx < 281474976710656) (hd : dd < 256) (hz : z < 256) (hs : s < 256) (hb : b < 65536) (hp : p < 256) (ho : o < 256) (he : es.length ≤ 256) (zone : Int) (n : Nat) (hnn : n = 1 + (es.length + 1) / 2) :
    Calls Try.prog 31 #[.agg (RC gen epoch nx ⟨dd, z, s, b, p, o⟩ (.slice a es.length cap)), .int .i64 zone] w fun x w' => ∃ v, x = .returned v ∧ OwnM w' 65 49 FC (fun f => f.body.length = 44) w.heap.size v (Sn.frames gen epoch nx ⟨dd, z, s, b, p, o⟩ es zone n) ∧ Below w.heap.size w w' := by
  obtain ⟨q1, hq1⟩ : ∃ y, y = Cod.leN 6 nx := ⟨_, rfl⟩
  obtain ⟨q2, hq2⟩ : ∃ y, y = q1 ++ [dd, z, s] := ⟨_, rfl⟩
  obtain ⟨q3, hq3⟩ : ∃ y, y = q2 ++ Cod.leN 2 b := ⟨_, rfl⟩
  obtain ⟨q4, hq4⟩ : ∃ y, y = q3 ++ [p, o] := ⟨_, rfl⟩
  have hE : Sn.headB nx ⟨dd, z, s, b, p, o⟩ = q4 := by
    have e0 : ∀ c : Nat, c < 256 → Cod.leN 1 c = [c] := fun c h => by simp [Cod.leN]; omega
    rw [hq4, hq3, hq2, hq1]
    simp [Sn.headB, e0 dd hd, e0 z hz, e0 s hs, e0 p hp, e0 o ho]
  have l1 : q1.length = 6 := by rw [hq1]; simp [Cod.leN_length]
  have l2 : q2.length = 9 := by rw [hq2]; simp [l1]
  have l3 : q3.length = 11 := by rw [hq3]; simp [l2, Cod.leN_length]
  have l4 : q4.length = 13 := by rw [hq4]; simp [l3]
  have L1 := Lib.hid l1
  have L2 := Lib.hid l2
  have L3 := Lib.hid l3
  have L4 := Lib.hid l4
  have Q1 := Lib.hid hq1
  have Q2 := Lib.hid hq2
  have Q3 := Lib.hid hq3
  have Q4 := Lib.hid hq4
  have HN1 := Lib.hid (fun W => rnum_any 6 nx (by omega) (by omega) W)
  have HN2 := Lib.hid (fun W => rnum_any 2 b (by omega) (by omega) W)
  have HRB := Lib.hid (fun (ac : Option Addr) (l : List Nat) (c : Nat) (W : World) (h : Bytes W ac l) (hl : l.length ≤ 44) => rsbytes_any ac l c W h hl)
  have HRE := Lib.hid (fun (e : BE) (W : World) (h : Sn.Room e) => rsentry_any e W h)
  have HRM := Lib.hid hrm
  have HR0 := Lib.hid hr
  obtain ⟨F0, hF0⟩ : ∃ F0 : Fr, Sn.headF gen epoch nx ⟨dd, z, s, b, p, o⟩ zone = F0 := ⟨_, rfl⟩
  have hbh := built_headr zone epoch gen (Sn.pad44 q4) (Sn.pad44_length (by omega))
  have hf0 : (⟨4, zone, 0, epoch, gen, Sn.pad44 q4⟩ : Fr) = F0 := by rw [← hF0]; unfold Sn.headF; rw [hE]
  have hl0 : F0.body.length = 44 := by rw [← hf0]; exact Sn.pad44_length (by omega)
  rw [hf0] at hbh
  have HL0 := Lib.hid hl0
  have HBH := Lib.hid hbh
  have HF1 : Hid (Sn.frames gen epoch nx ⟨dd, z, s, b, p, o⟩ es zone 1 = [F0]) := Lib.hid (by rw [← hF0]; simp [Sn.frames])
  have HFS := Lib.hid (fun (i : Nat) (h : 1 ≤ i) => Sn.frames_succ gen epoch nx ⟨dd, z, s, b, p, o⟩ es zone h)
  have HFL := Lib.hid (fun (i : Nat) (h : 1 ≤ i) => Sn.frames_length gen epoch nx ⟨dd, z, s, b, p, o⟩ es zone h)
  have HIR : Hid ((Try.prog.info? 65).map (fun i => (i.zero, i.size, i.bytes)) = some (some (.agg (FC Fr.zero)), 49, 88)) := Lib.hid (by kernel_rfl)
  have HIE := Lib.hid Try.infoE11
  generalize Sn.frames gen epoch nx ⟨dd, z, s, b, p, o⟩ es zone = FRS at *
  clear hE l1 l2 l3 l4 hq1 hq2 hq3 hq4 hrm hr hF0 hf0 hbh hl0
  have HCE : Hid (∀ W : World, W.heap[w.heap.size]? = some (.cells (RC gen epoch nx ⟨dd, z, s, b, p, o⟩ (.slice a es.length cap)) 32 (0, 0)) → W.cell? ⟨w.heap.size, 0, none⟩ = some (.int .i64 gen) ∧ W.cell? ⟨w.heap.size, 1, none⟩ = some (.int .i64 epoch) ∧ W.cell? ⟨w.heap.size, 2, none⟩ = some (.int .i64 (nx : Nat)) ∧ W.cell? ⟨w.heap.size, 3, none⟩ = some (.int .i64 (dd : Nat)) ∧ W.cell? ⟨w.heap.size, 4, none⟩ = some (.int .i64 (z : Nat)) ∧ W.cell? ⟨w.heap.size, 5, none⟩ = some (.int .i64 (s : Nat)) ∧ W.cell? ⟨w.heap.size, 6, none⟩ = some (.int .i64 (b : Nat)) ∧ W.cell? ⟨w.heap.size, 7, none⟩ = some (.int .i64 (p : Nat)) ∧ W.cell? ⟨w.heap.size, 8, none⟩ = some (.int .i64 (o : Nat)) ∧ W.cell? ⟨w.heap.size, 9, none⟩ = some (.slice a es.length cap)) := Lib.hid (fun W hh => ⟨(cell_of_row _ _ _ _ _ _ hh).trans rfl, (cell_of_row _ _ _ _ _ _ hh).trans rfl, (cell_of_row _ _ _ _ _ _ hh).trans rfl, (cell_of_row _ _ _ _ _ _ hh).trans rfl, (cell_of_row _ _ _ _ _ _ hh).trans rfl, (cell_of_row _ _ _ _ _ _ hh).trans rfl, (cell_of_row _ _ _ _ _ _ hh).trans rfl, (cell_of_row _ _ _ _ _ _ hh).trans rfl, (cell_of_row _ _ _ _ _ _ hh).trans rfl, (cell_of_row _ _ _ _ _ _ hh).trans rfl⟩)
  generalize RC gen epoch nx ⟨dd, z, s, b, p, o⟩ (.slice a es.length cap) = C at *
  have hB0 : Below w.heap.size w (w.alloc (.cells C 32)) := (Below.refl _ _).alloc (Nat.le_refl _) _
  have hF0 := heap_alloc_new w (.cells C 32)
  have z0 : (w.alloc (.cells C 32)).heap.size = w.heap.size + 1 := by simp
  obtain ⟨W0, hW0⟩ : ∃ W0, w.alloc (.cells C 32) = W0 := ⟨_, rfl⟩
  rw [hW0] at hB0 hF0 z0
  obtain ⟨d0, d1, d2, d3, d4, d5, d6, d7, d8, d9⟩ := HCE.out _ hF0
  have HW0 := Lib.hid hW0
  clear hW0
  go_enter Try.func31, Try.ntmps31
  go_upto_region 1 with (fail)
  rw [HW0.out]
  go_wp2_with fail
  refine (HN1.out _).mono ?_
  rintro x w3 ⟨v2, rfl, ho2, hB2⟩
  have hF1 := (hB2.block w.heap.size (by omega)).trans hF0
  have hown1 := ho2.mono (show w.heap.size + 1 ≤ W0.heap.size by omega)
  rw [← Q1.out] at hown1
  have hBw1 := hB0.trans (hB2.mono (by omega))
  have hsz1 : w.heap.size + 1 ≤ w3.heap.size := Nat.le_trans (by omega) hB2.size
  clear hF0 hB0 z0 ho2 hB2 d0 d1 d2 d3 d4 d5 d6 d7 d8 d9
  obtain ⟨d0, d1, d2, d3, d4, d5, d6, d7, d8, d9⟩ := HCE.out _ hF1
  have hal : Below w3.heap.size w3 (w3.alloc (.cells #[.int .u8 (dd : Nat), .int .u8 (z : Nat), .int .u8 (s : Nat)] 5)) := (Below.refl _ _).alloc (Nat.le_refl _) _
  have hrow : Bytes (w3.alloc (.cells #[.int .u8 (dd : Nat), .int .u8 (z : Nat), .int .u8 (s : Nat)] 5)) (some ⟨w3.heap.size, 0, none⟩) [dd, z, s] := byteCells_row (l := [dd, z, s]) (heap_alloc_new _ _) (by intro c hc; simp at hc; omega)
  have hFx := (hal.block w.heap.size (by omega)).trans hF1
  have hownx := hown1.below hal
  have hBwx := hBw1.trans (hal.mono (by omega))
  have hszx : w.heap.size + 1 ≤ (w3.alloc (.cells #[.int .u8 (dd : Nat), .int .u8 (z : Nat), .int .u8 (s : Nat)] 5)).heap.size := Nat.le_trans hsz1 hal.size
  clear hF1 hown1 hBw1 hsz1
  go_wp2_with (at_builtin; refine wpList_append_bytes rfl (.tmp 12) (.tmp 25) 94 rfl 5 Try.underlying94 Try.infoU8 (w.heap.size + 1) _ q1 rfl hownx (some ⟨w3.heap.size, 0, none⟩) 3 [dd, z, s] rfl hrow (fun e => by cases e) (by rw [L1.out]; simp) hszx ?_; intro v3 w3' hv3 hg3; have hb3 := hownx.grown hg3 hszx; have hF2 := (hb3.block w.heap.size (by omega)).trans hFx; have hBw2 := hBwx.trans (hb3.mono (by omega)); have hsz2 := Nat.le_trans hszx hb3.size; rw [← Q2.out] at hv3; have hown2 := hv3; obtain ⟨d0, d1, d2, d3, d4, d5, d6, d7, d8, d9⟩ := HCE.out _ hF2)
  clear hb3 hFx hownx hBwx hszx hal hrow hg3 hv3
  refine (HN2.out _).mono ?_
  rintro x w2 ⟨v2, rfl, ho2, hB2⟩
  obtain ⟨a2, c2, rfl, hb2, hn2, -⟩ := ho2.bytes
  have hFx := (hB2.block w.heap.size (by omega)).trans hF2
  have hownx := hown2.below hB2
  have hBwx := hBw2.trans (hB2.mono (by omega))
  have hszx : w.heap.size + 1 ≤ w2.heap.size := Nat.le_trans hsz2 hB2.size
  clear hF2 hown2 hBw2 hsz2
  go_upto_region 4 with (at_builtin; refine wpList_append_bytes rfl (.tmp 27) (.tmp 31) 94 rfl 5 Try.underlying94 Try.infoU8 (w.heap.size + 1) _ q2 rfl hownx a2 c2 (Cod.leN 2 b) rfl hb2 hn2 (by rw [L2.out, Cod.leN_length]; omega) hszx ?_; intro v3 w3 hv3 hg3; have hb3 := hownx.grown hg3 hszx; have hF3 := (hb3.block w.heap.size (by omega)).trans hFx; have hBw3 := hBwx.trans (hb3.mono (by omega)); have hsz3 := Nat.le_trans hszx hb3.size; rw [← Q3.out] at hv3; have hown3 := hv3; obtain ⟨d0, d1, d2, d3, d4, d5, d6, d7, d8, d9⟩ := HCE.out _ hF3)
  clear hb3 hFx hownx hBwx hszx ho2 hB2 hb2 hn2 hg3 hv3
  have hal : Below w3.heap.size w3 (w3.alloc (.cells #[.int .u8 (p : Nat), .int .u8 (o : Nat)] 5)) := (Below.refl _ _).alloc (Nat.le_refl _) _
  have hrow : Bytes (w3.alloc (.cells #[.int .u8 (p : Nat), .int .u8 (o : Nat)] 5)) (some ⟨w3.heap.size, 0, none⟩) [p, o] := byteCells_row (l := [p, o]) (heap_alloc_new _ _) (by intro c hc; simp at hc; omega)
  have hFx := (hal.block w.heap.size (by omega)).trans hF3
  have hownx := hown3.below hal
  have hBwx := hBw3.trans (hal.mono (by omega))
  have hszx : w.heap.size + 1 ≤ (w3.alloc (.cells #[.int .u8 (p : Nat), .int .u8 (o : Nat)] 5)).heap.size := Nat.le_trans hsz3 hal.size
  clear hF3 hown3 hBw3 hsz3
  go_wp2_with (at_builtin; refine wpList_append_bytes rfl (.tmp 33) (.tmp 42) 94 rfl 5 Try.underlying94 Try.infoU8 (w.heap.size + 1) _ q3 rfl hownx (some ⟨w3.heap.size, 0, none⟩) 2 [p, o] rfl hrow (fun e => by cases e) (by rw [L3.out]; simp) hszx ?_; intro v3 w3' hv3 hg3; have hb3 := hownx.grown hg3 hszx; have hF4 := (hb3.block w.heap.size (by omega)).trans hFx; have hBw4 := hBwx.trans (hb3.mono (by omega)); have hsz4 := Nat.le_trans hszx hb3.size; rw [← Q4.out] at hv3; have hown4 := hv3; obtain ⟨d0, d1, d2, d3, d4, d5, d6, d7, d8, d9⟩ := HCE.out _ hF4)
  clear hb3 hFx hownx hBwx hszx hal hrow hg3 hv3
  obtain ⟨ac, cc, rfl, hbc, hnc, -⟩ := hown4.bytes
  rw [L4.out]
  obtain ⟨W4, hW4⟩ : ∃ W4 : World, W4 = w3' := ⟨_, rfl⟩
  rw [← hW4] at hF4 hBw4 hsz4 hbc ⊢
  have HF4 := Lib.hid hF4
  have HB4 := Lib.hid hBw4
  have HBC := Lib.hid hbc
  obtain ⟨X0, hX0⟩ : ∃ X0, FC F0 = X0 := ⟨_, rfl⟩
  rw [hX0] at HBH
  have HX0 := Lib.hid hX0
  obtain ⟨BH, hBH⟩ : ∃ BH, byteCells (Sn.pad44 q4) = BH := ⟨_, rfl⟩
  rw [hBH] at HBH
  have HRH : Hid (∀ W, Below W4.heap.size W4 W → Calls Try.prog 61 #[.slice ac 13 cc] W fun e w' => e = .returned (.agg BH) ∧ Below W.heap.size W w') := Lib.hid (fun W hW => by have := HRB.out ac q4 cc W (HBC.out.below hW) (by rw [L4.out]; omega); rwa [L4.out, hBH] at this)
  clear hF4 hBw4 hown4 hbc hW4 hX0 hBH d0 d1 d2 d3 d4 d5 d6 d7 d8 d9
  refine wp_region_conf2 9 [Fact.eq (.int .i64 zone), Fact.eq (.pointer (some ⟨w.heap.size, 1, none⟩)), Fact.eq (.int .i64 epoch), Fact.eq (.pointer (some ⟨w.heap.size, 0, none⟩)), Fact.eq (.int .i64 gen), Fact.eq (.slice ac 13 cc), Fact.eq (.agg BH), Fact.eq (.agg X0), Fact.rowSl W4.heap.size X0 65] ?raA (by kernel_rfl) (by kernel_rfl) ?rahA ?raho ?rahend
  case rahA =>
    intro vv
    simp only [putRules, Nat.reduceAdd]
    rfl
  case raho =>
    refine ⟨?_, ?_, ?_, ?_, ?_, ?_, ?_, ?_, ?_, trivial⟩
    · intro vv W K hB hd HK
      simp only [confRules] at HK
      clear hd
      go_wp2
      refine HK.out _ _ (Below.refl _ _) ?_
      rfl
    · intro vv W K hB hd HK
      simp only [confRules] at HK
      clear hd
      go_wp2
      refine HK.out _ _ (Below.refl _ _) ?_
      rfl
    · intro vv W K hB hd HK
      simp only [confRules] at hd HK
      have h1 := hd
      clear hd
      simp only [h1] at HK ⊢
      clear h1
      have hT := HCE.out _ ((hB.block w.heap.size (by omega)).trans HF4.out)
      obtain ⟨d0, d1, d2, d3, d4, d5, d6, d7, d8, d9⟩ := hT
      clear d0 d2 d3 d4 d5 d6 d7 d8 d9
      go_wp2
      refine HK.out _ _ (Below.refl _ _) ?_
      rfl
    · intro vv W K hB hd HK
      simp only [confRules] at HK
      clear hd
      go_wp2
      refine HK.out _ _ (Below.refl _ _) ?_
      rfl
    · intro vv W K hB hd HK
      simp only [confRules] at hd HK
      have h3 := hd
      clear hd
      simp only [h3] at HK ⊢
      clear h3
      have hT := HCE.out _ ((hB.block w.heap.size (by omega)).trans HF4.out)
      obtain ⟨d0, d1, d2, d3, d4, d5, d6, d7, d8, d9⟩ := hT
      clear d1 d2 d3 d4 d5 d6 d7 d8 d9
      go_wp2
      refine HK.out _ _ (Below.refl _ _) ?_
      rfl
    · intro vv W K hB hd HK
      simp only [confRules] at HK
      clear hd
      go_wp2
      refine HK.out _ _ (Below.refl _ _) ?_
      rfl
    · intro vv W K hB hd HK
      simp only [confRules] at hd HK
      have h5 := hd
      clear hd
      simp only [h5] at HK ⊢
      clear h5
      go_wp2_with (refine (HRH.out _ hB).mono ?_; rintro e w9 ⟨rfl, hB9⟩)
      refine HK.out _ _ hB9 ?_
      rfl
    · intro vv W K hB hd HK
      simp only [confRules] at hd HK
      obtain ⟨h0, h2, h4, h6⟩ := hd
      simp only [h0, h2, h4, h6] at HK ⊢
      clear h0 h2 h4 h6
      go_wp2_with (refine wpList_build_on (by rfl) 65 _ rfl #[(0, .int .i64 4), (1, .int .i64 zone), (3, .int .i64 epoch), (4, .int .i64 gen), (5, .agg BH)] (by simp [Act.eval, Act.put]) X0 HBH.out ?_)
      refine HK.out _ _ (Below.refl _ _) ?_
      rfl
    · intro vv W K hB hd HK
      simp only [confRules] at hd HK
      have h7 := hd
      clear hd
      simp only [h7] at HK ⊢
      clear h7
      go_wp2_with (refine wpList_slice1r rfl (.tmp 51) rfl F0 HL0.out (congrArg Value.agg HX0.out.symm) ?_; rw [HX0.out])
      refine HK.out _ _ ((Below.refl _ _).alloc (Nat.le_refl _) _) ?_
      exact ⟨_, rfl, hB.size, heap_alloc_new _ _⟩
  case rahend =>
    intro vv W hB hf
    obtain ⟨g8, e8, l8, r8⟩ := hf 8 (by decide)
    simp only [e8, dropRules]
    clear hf e8
    have zW := hB.size
    have HX := Lib.hid ((hB.block w.heap.size (by omega)).trans HF4.out)
    have HBW := Lib.hid (HB4.out.trans (hB.mono HB4.out.size))
    have HOWN : Hid (OwnM W 65 49 FC (fun f => f.body.length = 44) (w.heap.size + 1) (.slice (some ⟨g8, 0, none⟩) 1 1) (FRS 1)) := Lib.hid (by
      rw [HF1.out]
      refine ⟨⟨by rw [flatM_one, Array.length_toList, FC_size, HL0.out]; rfl, .inr ⟨g8, 1, X0, rfl, by omega, r8, Nat.le_refl _, by unfold maxLen; omega, ?_, ?_⟩⟩, by simpa using HL0.out⟩
      · rw [← HX0.out, FC_size, HL0.out]
      · rw [flatM_one, HX0.out, List.take_of_length_le]
        rw [Array.length_toList, ← HX0.out, FC_size, HL0.out]
        simp)
    clear hB r8 l8
    go_wp2
    go_loopw [6, 7] (fun v u wr => ∃ k : Nat, 1 ≤ k ∧ k ≤ n ∧ u = .int .i64 k ∧ OwnM wr 65 49 FC (fun f => f.body.length = 44) (w.heap.size + 1) v (FRS k) ∧ wr.heap[w.heap.size]? = some (.cells C 32 (0, 0)) ∧ Below w.heap.size w wr) (fun _ u _ => n - (intOf u).toNat)
    case atStart => exact ⟨1, by omega, by omega, rfl, HOWN.out, HX.out, HBW.out⟩
    case round =>
      obtain ⟨k, hk1, hk2, rfl, hown, hF, hBr⟩ := hrel
      have zr := hBr.size
      have zx : w.heap.size < wr.heap.size := (Array.getElem?_eq_some_iff.1 hF).1
      obtain ⟨j, hj⟩ : ∃ j, k = j + 1 := ⟨k - 1, by omega⟩
      have hj1 : k ≤ j + 1 := by omega
      have hj2 : j + 1 ≤ k := by omega
      have HJ := Lib.hid hj
      clear hj
      have HF := Lib.hid hF
      have HB := Lib.hid hBr
      have HOW := Lib.hid hown
      have HKS := Lib.hid (HFS.out k hk1)
      have HLK := Lib.hid (HFL.out k hk1)
      obtain ⟨FR, hFR⟩ : ∃ FR, FRS k = FR := ⟨_, rfl⟩
      rw [hFR] at HOW HKS HLK
      obtain ⟨d0, d1, d2, d3, d4, d5, d6, d7, d8, d9⟩ := HCE.out _ hF
      have HFR := Lib.hid hFR
      clear hF hBr hown hFR
      by_cases hlt : 2 * j < es.length
      · obtain ⟨x1, hx1⟩ : ∃ x, es[2 * j]? = some x := ⟨_, List.getElem?_eq_getElem hlt⟩
        have ex1 := Sn.entAt_eq hx1
        have hr1 := HRM.out x1 (List.mem_of_getElem? hx1)
        obtain ⟨bb, oo, rfl, hbl, -, -⟩ := HR0.out.at hx1
        have hg1 : ∀ W, Below w.heap.size w W → W.rangeAt bb (oo + (2 * k - 2) * 6) (BEC x1).toList := fun W hW => by rw [show 2 * k - 2 = 2 * j by omega]; exact (HR0.out.below hW).range hx1 rfl
        have hc1 : ∀ W, Calls Try.prog 62 #[.agg (BEC x1).toList.toArray] W fun x w' => ∃ v, x = .returned v ∧ OwnB w' 5 W.heap.size v (Sn.entB x1) ∧ Below W.heap.size W w' := fun W => HRE.out x1 W hr1
        have hi1 : (Try.prog.info? 104).map (·.size) = some (BEC x1).toList.length := HIE.out
        obtain ⟨X1, hX1⟩ : ∃ X, (BEC x1).toList = X := ⟨_, rfl⟩
        rw [hX1] at hg1 hc1 hi1
        have HG1 := Lib.hid hg1
        have HC1 := Lib.hid hc1
        have HI1 := Lib.hid hi1
        have LE1 := Lib.hid (Sn.entB_length x1)
        obtain ⟨W1, hW1⟩ : ∃ W1, wr.alloc (.cells #[.int .u8 (k : Nat)] 5) = W1 := ⟨_, rfl⟩
        have hb1 : Below wr.heap.size wr W1 := by rw [← hW1]; exact (Below.refl _ _).alloc (Nat.le_refl _) _
        have hown1 : OwnB W1 5 wr.heap.size (.slice (some ⟨wr.heap.size, 0, none⟩) 1 1) [k] := by
          rw [← hW1]
          exact OwnB.row (l := [k]) (Nat.le_refl _) (heap_alloc_new _ _) (by intro c hc; simp at hc; omega) (by unfold maxLen; simp)
        have HW1 := Lib.hid hW1
        clear hX1 hg1 hc1 hi1 hW1 hr1 hx1 hbl
        by_cases hlt2 : 2 * j + 1 < es.length
        · obtain ⟨x2, hx2⟩ : ∃ x, es[2 * j + 1]? = some x := ⟨_, List.getElem?_eq_getElem hlt2⟩
          have ex2 := Sn.entAt_eq hx2
          have hr2 := HRM.out x2 (List.mem_of_getElem? hx2)
          have hg2 : ∀ W, Below w.heap.size w W → W.rangeAt bb (oo + (2 * k - 1) * 6) (BEC x2).toList := fun W hW => by rw [show 2 * k - 1 = 2 * j + 1 by omega]; exact (HR0.out.below hW).range hx2 rfl
          have hc2 : ∀ W, Calls Try.prog 62 #[.agg (BEC x2).toList.toArray] W fun x w' => ∃ v, x = .returned v ∧ OwnB w' 5 W.heap.size v (Sn.entB x2) ∧ Below W.heap.size W w' := fun W => HRE.out x2 W hr2
          have hi2 : (Try.prog.info? 104).map (·.size) = some (BEC x2).toList.length := HIE.out
          obtain ⟨X2, hX2⟩ : ∃ X, (BEC x2).toList = X := ⟨_, rfl⟩
          rw [hX2] at hg2 hc2 hi2
          have HG2 := Lib.hid hg2
          have HC2 := Lib.hid hc2
          have HI2 := Lib.hid hi2
          have LE2 := Lib.hid (Sn.entB_length x2)
          have hpad : Sn.pad44 ([k] ++ Sn.entB x1 ++ Sn.entB x2) = Sn.pad44 (Sn.partB es k) := by
            have := Sn.doc_two (es := es) (j := j) (by omega)
            rw [ex1, ex2, ← HJ.out] at this
            exact this
          have HPAD := Lib.hid hpad
          clear hX2 hg2 hc2 hi2 hr2 hx2 hpad
          go_upto_region 10 with (fail)
          rw [HW1.out]
          clear d0 d1 d2 d3 d4 d5 d6 d7 d8 d9
          obtain ⟨d0, d1, d2, d3, d4, d5, d6, d7, d8, d9⟩ := HCE.out _ ((hb1.block w.heap.size zx).trans HF.out)
          go_wp2_with (refine wpList_load_mid rfl 104 _ rfl bb (oo + (2 * k - 2) * 6) rfl X1 _ (HG1.out _ (HB.out.trans (hb1.mono HB.out.size))) Try.underlying104 rfl HI1.out ?_)
          refine (HC1.out _).mono ?_
          rintro y1 w2 ⟨v2, rfl, ho2, hB2⟩
          obtain ⟨a2, c2, rfl, hb2', hn2, -⟩ := ho2.bytes
          have hownx := hown1.below hB2
          have hbx := hb1.trans (hB2.mono hb1.size)
          have hszx := hbx.size
          clear hown1 ho2 hB2
          go_upto_region 12 with (at_builtin; refine wpList_append_bytes rfl (.tmp 65) (.tmp 73) 94 rfl 5 Try.underlying94 Try.infoU8 wr.heap.size _ [k] rfl hownx a2 c2 (Sn.entB x1) rfl hb2' hn2 (by simp [LE1.out]) hszx ?_; intro v2 W2 hown2 hg3; have hb2 := hbx.trans (hownx.grown hg3 hszx); obtain ⟨d0, d1, d2, d3, d4, d5, d6, d7, d8, d9⟩ := HCE.out _ ((hb2.block w.heap.size zx).trans HF.out); clear hg3 hb2' hn2 hownx hbx)
          go_wp2_with (refine wpList_load_mid rfl 104 _ rfl bb (oo + (2 * k - 1) * 6) rfl X2 _ (HG2.out _ (HB.out.trans (hb2.mono HB.out.size))) Try.underlying104 rfl HI2.out ?_)
          refine (HC2.out _).mono ?_
          rintro y2 w2 ⟨v2, rfl, ho2, hB2⟩
          obtain ⟨a2, c2, rfl, hb2', hn2, -⟩ := ho2.bytes
          have hownx := hown2.below hB2
          have hbx := hb2.trans (hB2.mono hb2.size)
          have hszx := hbx.size
          clear hown2 ho2 hB2
          go_upto_region 13 with (at_builtin; refine wpList_append_bytes rfl (.tmp 82) (.tmp 90) 94 rfl 5 Try.underlying94 Try.infoU8 wr.heap.size _ ([k] ++ Sn.entB x1) rfl hownx a2 c2 (Sn.entB x2) rfl hb2' hn2 (by simp [LE1.out, LE2.out]) hszx ?_; intro v3 W3 hown3 hg3; have hb3 := hbx.trans (hownx.grown hg3 hszx); obtain ⟨d0, d1, d2, d3, d4, d5, d6, d7, d8, d9⟩ := HCE.out _ ((hb3.block w.heap.size zx).trans HF.out); clear hg3 hb2' hn2 hownx hbx)
          obtain ⟨ac', cc', rfl, hbc, hnc, -⟩ := hown3.bytes
          have hql : ([k] ++ Sn.entB x1 ++ Sn.entB x2).length = 33 := by simp [LE1.out, LE2.out]
          have HBC := Lib.hid hbc
          have HBN := Lib.hid hb3
          have HOWN' := Lib.hid (HOW.out.below hb3)
          have HFn := Lib.hid ((hb3.block w.heap.size zx).trans HF.out)
          have zn := hb3.size
          obtain ⟨NF, hNF⟩ : ∃ NF, Sn.partF gen epoch es zone k = NF := ⟨_, rfl⟩
          have hnl : NF.body.length = 44 := by rw [← hNF]; exact Sn.pad44_length (by rw [Sn.partB_length]; omega)
          have hbp := built_partr zone k epoch gen (Sn.pad44 ([k] ++ Sn.entB x1 ++ Sn.entB x2)) (Sn.pad44_length (by rw [hql]; omega))
          rw [show (⟨5, zone, (k : Nat), epoch, gen, Sn.pad44 ([k] ++ Sn.entB x1 ++ Sn.entB x2)⟩ : Fr) = NF by rw [HPAD.out]; exact hNF] at hbp
          rw [hNF] at HKS
          have HRH' : Hid (∀ W, Below W3.heap.size W3 W → Calls Try.prog 61 #[.slice ac' 33 cc'] W fun e w' => e = .returned (.agg (byteCells (Sn.pad44 ([k] ++ Sn.entB x1 ++ Sn.entB x2)))) ∧ Below W.heap.size W w') := Lib.hid (fun W hW => by have := HRB.out ac' ([k] ++ Sn.entB x1 ++ Sn.entB x2) cc' W (HBC.out.below hW) (by rw [hql]; omega); rwa [hql] at this)
          obtain ⟨XP, hXP⟩ : ∃ XP, FC NF = XP := ⟨_, rfl⟩
          obtain ⟨BQ, hBQ⟩ : ∃ BQ, byteCells (Sn.pad44 ([k] ++ Sn.entB x1 ++ Sn.entB x2)) = BQ := ⟨_, rfl⟩
          rw [hXP, hBQ] at hbp
          rw [hBQ] at HRH'
          rw [hql]
          have HBP := Lib.hid hbp
          have HXP := Lib.hid hXP
          have HNL := Lib.hid hnl
          clear hbp hXP hBQ hNF hnl hql hown3 hb3 hbc hnc d0 d1 d2 d3 d4 d5 d6 d7 d8 d9
          refine wp_region_conf2 11 [Fact.eq u6, Fact.eq (.int .i64 zone), Fact.eq (.int .i64 (k : Nat)), Fact.eq (.pointer (some ⟨w.heap.size, 1, none⟩)), Fact.eq (.int .i64 epoch), Fact.eq (.pointer (some ⟨w.heap.size, 0, none⟩)), Fact.eq (.int .i64 gen), Fact.eq (.slice ac' 33 cc'), Fact.eq (.agg BQ), Fact.eq (.agg XP), Fact.rowSl W3.heap.size XP 65] ?rbA (by kernel_rfl) (by kernel_rfl) ?rbhA ?rbho ?rbhend
          case rbhA =>
            intro vv
            simp only [putRules, Nat.reduceAdd]
            rfl
          case rbho =>
            refine ⟨?_, ?_, ?_, ?_, ?_, ?_, ?_, ?_, ?_, ?_, ?_, trivial⟩
            · intro vv W K hB hd HK
              simp only [confRules] at HK
              clear hd
              go_wp2
              refine HK.out _ _ (Below.refl _ _) ?_
              rfl
            · intro vv W K hB hd HK
              simp only [confRules] at HK
              clear hd
              go_wp2
              refine HK.out _ _ (Below.refl _ _) ?_
              rfl
            · intro vv W K hB hd HK
              simp only [confRules] at HK
              clear hd
              go_wp2
              refine HK.out _ _ (Below.refl _ _) ?_
              rfl
            · intro vv W K hB hd HK
              simp only [confRules] at HK
              clear hd
              go_wp2
              refine HK.out _ _ (Below.refl _ _) ?_
              rfl
            · intro vv W K hB hd HK
              simp only [confRules] at hd HK
              have h3 := hd
              clear hd
              simp only [h3] at HK ⊢
              clear h3
              have hT := HCE.out _ ((hB.block w.heap.size (by omega)).trans HFn.out)
              obtain ⟨d0, d1, d2, d3, d4, d5, d6, d7, d8, d9⟩ := hT
              clear d0 d2 d3 d4 d5 d6 d7 d8 d9
              go_wp2
              refine HK.out _ _ (Below.refl _ _) ?_
              rfl
            · intro vv W K hB hd HK
              simp only [confRules] at HK
              clear hd
              go_wp2
              refine HK.out _ _ (Below.refl _ _) ?_
              rfl
            · intro vv W K hB hd HK
              simp only [confRules] at hd HK
              have h5 := hd
              clear hd
              simp only [h5] at HK ⊢
              clear h5
              have hT := HCE.out _ ((hB.block w.heap.size (by omega)).trans HFn.out)
              obtain ⟨d0, d1, d2, d3, d4, d5, d6, d7, d8, d9⟩ := hT
              clear d1 d2 d3 d4 d5 d6 d7 d8 d9
              go_wp2
              refine HK.out _ _ (Below.refl _ _) ?_
              rfl
            · intro vv W K hB hd HK
              simp only [confRules] at HK
              clear hd
              go_wp2
              refine HK.out _ _ (Below.refl _ _) ?_
              rfl
            · intro vv W K hB hd HK
              simp only [confRules] at hd HK
              have h7 := hd
              clear hd
              simp only [h7] at HK ⊢
              clear h7
              go_wp2_with (refine (HRH'.out _ hB).mono ?_; rintro e w9 ⟨rfl, hB9⟩)
              refine HK.out _ _ hB9 ?_
              rfl
            · intro vv W K hB hd HK
              simp only [confRules] at hd HK
              obtain ⟨h1, h2, h4, h6, h8⟩ := hd
              simp only [h1, h2, h4, h6, h8] at HK ⊢
              clear h1 h2 h4 h6 h8
              go_wp2_with (refine wpList_build_on (by rfl) 65 _ rfl #[(0, .int .i64 5), (1, .int .i64 zone), (2, .int .i64 k), (3, .int .i64 epoch), (4, .int .i64 gen), (5, .agg BQ)] (by simp [Act.eval, Act.put]) XP HBP.out ?_)
              refine HK.out _ _ (Below.refl _ _) ?_
              rfl
            · intro vv W K hB hd HK
              simp only [confRules] at hd HK
              have h9 := hd
              clear hd
              simp only [h9] at HK ⊢
              clear h9
              go_wp2_with (refine wpList_slice1r rfl (.tmp 101) rfl NF HNL.out (congrArg Value.agg HXP.out.symm) ?_; rw [HXP.out])
              refine HK.out _ _ ((Below.refl _ _).alloc (Nat.le_refl _) _) ?_
              exact ⟨_, rfl, hB.size, heap_alloc_new _ _⟩
          case rbhend =>
            intro vv W hB hf
            have e0 := hf 0 (by decide)
            obtain ⟨g10, e10, l10, r10⟩ := hf 10 (by decide)
            simp only [endRules] at e0
            simp only [e0, e10, dropRules]
            clear hf e0 e10
            have zW2 := hB.size
            have hO := HOWN'.out.below hB
            have hBt := HBN.out.trans (hB.mono zn)
            have hrow : RowOf W 49 FC (fun f => f.body.length = 44) (some ⟨g10, 0, none⟩) [NF] := one_rowOf (t := 65) (fr := (0, 0)) (by rw [HXP.out]; exact r10) HNL.out
            have hbase : w.heap.size + 1 ≤ W.heap.size := by omega
            go_wp2_with (at_builtin; refine wpList_appendM rfl (.tmp 92) (.tmp 102) 63 rfl 65 49 FC (fun f => f.body.length = 44) kinF (by decide) (.agg (FC Fr.zero)) 88 Try.underlying63 HIR.out rfl (w.heap.size + 1) _ FR rfl hO (some ⟨g10, 0, none⟩) 1 [NF] (by rfl) hrow (by simp) (by have := HLK.out; simp; unfold maxLen; omega) (by have := HLK.out; simp; omega) hbase ?_; intro v12 w12 hv12 hg12 _)
            have hO12 := hO.grown hg12 hbase
            have HF12 := Lib.hid ((hO12.block w.heap.size (by omega)).trans ((hBt.block w.heap.size zx).trans HF.out))
            have HB12 := Lib.hid ((HB.out.trans (hBt.mono HB.out.size)).trans (hO12.mono (by omega)))
            have HV12 := Lib.hid hv12
            clear hv12 hg12 hO12 hO hBt hrow hB
            go_roundw
            case rel => exact ⟨k + 1, by omega, by omega, by go_num, by rw [HKS.out]; exact HV12.out, HF12.out, HB12.out⟩
            case measure => simp [intOf]; omega
        · have hpad : Sn.pad44 ([k] ++ Sn.entB x1) = Sn.pad44 (Sn.partB es k) := by
            have := Sn.doc_one (es := es) (j := j) (by omega) (by omega)
            rw [ex1, ← HJ.out] at this
            exact this
          have HPAD := Lib.hid hpad
          clear hpad
          go_upto_region 10 with (fail)
          rw [HW1.out]
          clear d0 d1 d2 d3 d4 d5 d6 d7 d8 d9
          obtain ⟨d0, d1, d2, d3, d4, d5, d6, d7, d8, d9⟩ := HCE.out _ ((hb1.block w.heap.size zx).trans HF.out)
          go_wp2_with (refine wpList_load_mid rfl 104 _ rfl bb (oo + (2 * k - 2) * 6) rfl X1 _ (HG1.out _ (HB.out.trans (hb1.mono HB.out.size))) Try.underlying104 rfl HI1.out ?_)
          refine (HC1.out _).mono ?_
          rintro y1 w2 ⟨v2, rfl, ho2, hB2⟩
          obtain ⟨a2, c2, rfl, hb2', hn2, -⟩ := ho2.bytes
          have hownx := hown1.below hB2
          have hbx := hb1.trans (hB2.mono hb1.size)
          have hszx := hbx.size
          clear hown1 ho2 hB2
          go_upto_region 13 with (at_builtin; refine wpList_append_bytes rfl (.tmp 65) (.tmp 73) 94 rfl 5 Try.underlying94 Try.infoU8 wr.heap.size _ [k] rfl hownx a2 c2 (Sn.entB x1) rfl hb2' hn2 (by simp [LE1.out]) hszx ?_; intro v2 W2 hown2 hg3; have hb2 := hbx.trans (hownx.grown hg3 hszx); obtain ⟨d0, d1, d2, d3, d4, d5, d6, d7, d8, d9⟩ := HCE.out _ ((hb2.block w.heap.size zx).trans HF.out); clear hg3 hb2' hn2 hownx hbx)
          obtain ⟨ac', cc', rfl, hbc, hnc, -⟩ := hown2.bytes
          have hql : ([k] ++ Sn.entB x1).length = 17 := by simp [LE1.out]
          have HBC := Lib.hid hbc
          have HBN := Lib.hid hb2
          have HOWN' := Lib.hid (HOW.out.below hb2)
          have HFn := Lib.hid ((hb2.block w.heap.size zx).trans HF.out)
          have zn := hb2.size
          obtain ⟨NF, hNF⟩ : ∃ NF, Sn.partF gen epoch es zone k = NF := ⟨_, rfl⟩
          have hnl : NF.body.length = 44 := by rw [← hNF]; exact Sn.pad44_length (by rw [Sn.partB_length]; omega)
          have hbp := built_partr zone k epoch gen (Sn.pad44 ([k] ++ Sn.entB x1)) (Sn.pad44_length (by rw [hql]; omega))
          rw [show (⟨5, zone, (k : Nat), epoch, gen, Sn.pad44 ([k] ++ Sn.entB x1)⟩ : Fr) = NF by rw [HPAD.out]; exact hNF] at hbp
          rw [hNF] at HKS
          have HRH' : Hid (∀ W, Below W2.heap.size W2 W → Calls Try.prog 61 #[.slice ac' 17 cc'] W fun e w' => e = .returned (.agg (byteCells (Sn.pad44 ([k] ++ Sn.entB x1)))) ∧ Below W.heap.size W w') := Lib.hid (fun W hW => by have := HRB.out ac' ([k] ++ Sn.entB x1) cc' W (HBC.out.below hW) (by rw [hql]; omega); rwa [hql] at this)
          obtain ⟨XP, hXP⟩ : ∃ XP, FC NF = XP := ⟨_, rfl⟩
          obtain ⟨BQ, hBQ⟩ : ∃ BQ, byteCells (Sn.pad44 ([k] ++ Sn.entB x1)) = BQ := ⟨_, rfl⟩
          rw [hXP, hBQ] at hbp
          rw [hBQ] at HRH'
          rw [hql]
          have HBP := Lib.hid hbp
          have HXP := Lib.hid hXP
          have HNL := Lib.hid hnl
          clear hbp hXP hBQ hNF hnl hql hown2 hb2 hbc hnc d0 d1 d2 d3 d4 d5 d6 d7 d8 d9
          refine wp_region_conf2 11 [Fact.eq u6, Fact.eq (.int .i64 zone), Fact.eq (.int .i64 (k : Nat)), Fact.eq (.pointer (some ⟨w.heap.size, 1, none⟩)), Fact.eq (.int .i64 epoch), Fact.eq (.pointer (some ⟨w.heap.size, 0, none⟩)), Fact.eq (.int .i64 gen), Fact.eq (.slice ac' 17 cc'), Fact.eq (.agg BQ), Fact.eq (.agg XP), Fact.rowSl W2.heap.size XP 65] ?rcA (by kernel_rfl) (by kernel_rfl) ?rchA ?rcho ?rchend
          case rchA =>
            intro vv
            simp only [putRules, Nat.reduceAdd]
            rfl
          case rcho =>
            refine ⟨?_, ?_, ?_, ?_, ?_, ?_, ?_, ?_, ?_, ?_, ?_, trivial⟩
            · intro vv W K hB hd HK
              simp only [confRules] at HK
              clear hd
              go_wp2
              refine HK.out _ _ (Below.refl _ _) ?_
              rfl
            · intro vv W K hB hd HK
              simp only [confRules] at HK
              clear hd
              go_wp2
              refine HK.out _ _ (Below.refl _ _) ?_
              rfl
            · intro vv W K hB hd HK
              simp only [confRules] at HK
              clear hd
              go_wp2
              refine HK.out _ _ (Below.refl _ _) ?_
              rfl
            · intro vv W K hB hd HK
              simp only [confRules] at HK
              clear hd
              go_wp2
              refine HK.out _ _ (Below.refl _ _) ?_
              rfl
            · intro vv W K hB hd HK
              simp only [confRules] at hd HK
              have h3 := hd
              clear hd
              simp only [h3] at HK ⊢
              clear h3
              have hT := HCE.out _ ((hB.block w.heap.size (by omega)).trans HFn.out)
              obtain ⟨d0, d1, d2, d3, d4, d5, d6, d7, d8, d9⟩ := hT
              clear d0 d2 d3 d4 d5 d6 d7 d8 d9
              go_wp2
              refine HK.out _ _ (Below.refl _ _) ?_
              rfl
            · intro vv W K hB hd HK
              simp only [confRules] at HK
              clear hd
              go_wp2
              refine HK.out _ _ (Below.refl _ _) ?_
              rfl
            · intro vv W K hB hd HK
              simp only [confRules] at hd HK
              have h5 := hd
              clear hd
              simp only [h5] at HK ⊢
              clear h5
              have hT := HCE.out _ ((hB.block w.heap.size (by omega)).trans HFn.out)
              obtain ⟨d0, d1, d2, d3, d4, d5, d6, d7, d8, d9⟩ := hT
              clear d1 d2 d3 d4 d5 d6 d7 d8 d9
              go_wp2
              refine HK.out _ _ (Below.refl _ _) ?_
              rfl
            · intro vv W K hB hd HK
              simp only [confRules] at HK
              clear hd
              go_wp2
              refine HK.out _ _ (Below.refl _ _) ?_
              rfl
            · intro vv W K hB hd HK
              simp only [confRules] at hd HK
              have h7 := hd
              clear hd
              simp only [h7] at HK ⊢
              clear h7
              go_wp2_with (refine (HRH'.out _ hB).mono ?_; rintro e w9 ⟨rfl, hB9⟩)
              refine HK.out _ _ hB9 ?_
              rfl
            · intro vv W K hB hd HK
              simp only [confRules] at hd HK
              obtain ⟨h1, h2, h4, h6, h8⟩ := hd
              simp only [h1, h2, h4, h6, h8] at HK ⊢
              clear h1 h2 h4 h6 h8
              go_wp2_with (refine wpList_build_on (by rfl) 65 _ rfl #[(0, .int .i64 5), (1, .int .i64 zone), (2, .int .i64 k), (3, .int .i64 epoch), (4, .int .i64 gen), (5, .agg BQ)] (by simp [Act.eval, Act.put]) XP HBP.out ?_)
              refine HK.out _ _ (Below.refl _ _) ?_
              rfl
            · intro vv W K hB hd HK
              simp only [confRules] at hd HK
              have h9 := hd
              clear hd
              simp only [h9] at HK ⊢
              clear h9
              go_wp2_with (refine wpList_slice1r rfl (.tmp 101) rfl NF HNL.out (congrArg Value.agg HXP.out.symm) ?_; rw [HXP.out])
              refine HK.out _ _ ((Below.refl _ _).alloc (Nat.le_refl _) _) ?_
              exact ⟨_, rfl, hB.size, heap_alloc_new _ _⟩
          case rchend =>
            intro vv W hB hf
            have e0 := hf 0 (by decide)
            obtain ⟨g10, e10, l10, r10⟩ := hf 10 (by decide)
            simp only [endRules] at e0
            simp only [e0, e10, dropRules]
            clear hf e0 e10
            have zW2 := hB.size
            have hO := HOWN'.out.below hB
            have hBt := HBN.out.trans (hB.mono zn)
            have hrow : RowOf W 49 FC (fun f => f.body.length = 44) (some ⟨g10, 0, none⟩) [NF] := one_rowOf (t := 65) (fr := (0, 0)) (by rw [HXP.out]; exact r10) HNL.out
            have hbase : w.heap.size + 1 ≤ W.heap.size := by omega
            go_wp2_with (at_builtin; refine wpList_appendM rfl (.tmp 92) (.tmp 102) 63 rfl 65 49 FC (fun f => f.body.length = 44) kinF (by decide) (.agg (FC Fr.zero)) 88 Try.underlying63 HIR.out rfl (w.heap.size + 1) _ FR rfl hO (some ⟨g10, 0, none⟩) 1 [NF] (by rfl) hrow (by simp) (by have := HLK.out; simp; unfold maxLen; omega) (by have := HLK.out; simp; omega) hbase ?_; intro v12 w12 hv12 hg12 _)
            have hO12 := hO.grown hg12 hbase
            have HF12 := Lib.hid ((hO12.block w.heap.size (by omega)).trans ((hBt.block w.heap.size zx).trans HF.out))
            have HB12 := Lib.hid ((HB.out.trans (hBt.mono HB.out.size)).trans (hO12.mono (by omega)))
            have HV12 := Lib.hid hv12
            clear hv12 hg12 hO12 hO hBt hrow hB
            go_roundw
            case rel => exact ⟨k + 1, by omega, by omega, by go_num, by rw [HKS.out]; exact HV12.out, HF12.out, HB12.out⟩
            case measure => simp [intOf]; omega
      · have hkn : k = n := by omega
        have HKN := Lib.hid hkn
        clear hkn
        go_wp2
        go_ret
        obtain rfl : k = n := HKN.out
        rw [HFR.out]
        exact ⟨_, rfl, HOW.out.mono (show w.heap.size ≤ w.heap.size + 1 by omega), HB.out⟩
theorem rsframes_any (w : World) (gen epoch next : Int) (g : Geo.G) (v : Value) (base : Nat) (es : List BE) (h : OwnM w 104 6 BEC (fun _ => True) base v es) (hg : Geo.right g = true) (hM : MapOk g es) (hn : 1 ≤ next ∧ next ≤ 281474976710655) (zone : Int) :
    Calls Try.prog 31 #[.agg (RC gen epoch next g v), .int .i64 zone] w fun x w' => ∃ u, x = .returned u ∧ OwnM w' 65 49 FC (fun f => f.body.length = 44) w.heap.size u (Sn.frames gen epoch next g es zone (Sn.nParts g)) ∧ Below w.heap.size w w' := by
  obtain ⟨a, cap, rfl, hr, -⟩ := h.shape kinR
  have hs := ((Geo.right_iff g).1 hg).1
  have hrm : ∀ e ∈ es, Sn.Room e := fun e he => Sn.room_of_right hs (hM.ok e he).1
  have hl : (es.length : Int) = g.b := hM.len
  have hp := Sn.nParts_eq hs
  generalize Sn.nParts g = n at hp ⊢
  obtain ⟨dd, z, s, b, p, o⟩ := g
  obtain ⟨⟨s1, s2⟩, ⟨s3, s4⟩, ⟨s5, s6⟩, ⟨s7, s8⟩, ⟨s9, s10⟩, ⟨s11, s12⟩⟩ := hs
  simp only at s1 s2 s3 s4 s5 s6 s7 s8 s9 s10 s11 s12 hl hp
  obtain ⟨dd, rfl⟩ := Int.eq_ofNat_of_zero_le (show 0 ≤ dd by omega)
  obtain ⟨z, rfl⟩ := Int.eq_ofNat_of_zero_le (show 0 ≤ z by omega)
  obtain ⟨s, rfl⟩ := Int.eq_ofNat_of_zero_le (show 0 ≤ s by omega)
  obtain ⟨b, rfl⟩ := Int.eq_ofNat_of_zero_le (show 0 ≤ b by omega)
  obtain ⟨p, rfl⟩ := Int.eq_ofNat_of_zero_le (show 0 ≤ p by omega)
  obtain ⟨o, rfl⟩ := Int.eq_ofNat_of_zero_le (show 0 ≤ o by omega)
  obtain ⟨nx, rfl⟩ := Int.eq_ofNat_of_zero_le (show 0 ≤ next by omega)
  exact rsframes_core w gen epoch nx dd z s b p o a cap es hr hrm (by omega) (by omega) (by omega) (by omega) (by omega) (by omega) (by omega) (by omega) zone n (by omega)
end Go.Proofs.Ytjnneoejnpephaa
namespace Go.Proofs.Ytjnneoejnpephaa
open Go.RowKit Go.Rv
set_option linter.unusedVariables false
attribute [local go_sem] Oper.semAt_some
set_option maxRecDepth 100000 in
set_option maxHeartbeats 8000000 in
theorem rsright_core (w : World) (gen epoch next : Int) (g : Geo.G) (a : Option Addr) (cap : Nat) (es : List BE) (hr : RowOf w 6 BEC (fun _ => True) a es) (hn : es.length ≤ 100000) :
    Calls Try.prog 22 #[.agg (RC gen epoch next g (.slice a es.length cap))] w fun e w' => e = .returned (.bool (Sn.right gen epoch next es)) ∧ Below w.heap.size w w' := by
  have hB0 := (Below.refl w.heap.size w).alloc (Nat.le_refl _) (.cells (RC gen epoch next g (.slice a es.length cap)) 32)
  have hX0 := heap_alloc_new w (.cells (RC gen epoch next g (.slice a es.length cap)) 32)
  have HCC : Hid (∀ W : World, W.heap[w.heap.size]? = some (.cells (RC gen epoch next g (.slice a es.length cap)) 32 (0, 0)) → W.cell? ⟨w.heap.size, 0, none⟩ = some (.int .i64 gen) ∧ W.cell? ⟨w.heap.size, 1, none⟩ = some (.int .i64 epoch) ∧ W.cell? ⟨w.heap.size, 2, none⟩ = some (.int .i64 next) ∧ W.cell? ⟨w.heap.size, 9, none⟩ = some (.slice a es.length cap)) := Lib.hid (fun W h => ⟨(cell_of_row _ _ _ _ _ _ h).trans rfl, (cell_of_row _ _ _ _ _ _ h).trans rfl, (cell_of_row _ _ _ _ _ _ h).trans rfl, (cell_of_row _ _ _ _ _ _ h).trans rfl⟩)
  have HRO := Lib.hid (hr.below hB0)
  obtain ⟨C, hC⟩ : ∃ C, RC gen epoch next g (.slice a es.length cap) = C := ⟨_, rfl⟩
  rw [hC] at hB0 hX0 HCC HRO ⊢
  clear hC hr
  obtain ⟨W0, hW0⟩ : ∃ W0, w.alloc (.cells C 32) = W0 := ⟨_, rfl⟩
  rw [hW0] at hB0 hX0 HRO
  have HW0 := Lib.hid hW0
  have HB0 := Lib.hid hB0
  have HX0 := Lib.hid hX0
  have z0 : w.heap.size < W0.heap.size := (Array.getElem?_eq_some_iff.1 hX0).1
  obtain ⟨c0, c1, c2, c9⟩ := HCC.out _ hX0
  clear hW0 hB0 hX0
  have hcase : (Sn.right gen epoch next es = false ∧ (decide (gen < 1) = true ∨ (decide (gen < 1) = false ∧ decide (281474976710655 < gen) = true) ∨ (decide (gen < 1) = false ∧ decide (281474976710655 < gen) = false ∧ decide (epoch < 1) = true) ∨ (decide (gen < 1) = false ∧ decide (281474976710655 < gen) = false ∧ decide (epoch < 1) = false ∧ decide (4294967295 < epoch) = true) ∨ (decide (gen < 1) = false ∧ decide (281474976710655 < gen) = false ∧ decide (epoch < 1) = false ∧ decide (4294967295 < epoch) = false ∧ decide (next < 1) = true) ∨ (decide (gen < 1) = false ∧ decide (281474976710655 < gen) = false ∧ decide (epoch < 1) = false ∧ decide (4294967295 < epoch) = false ∧ decide (next < 1) = false ∧ decide (281474976710655 < next) = true))) ∨ ((Sn.right gen epoch next es = es.all fun e => decide (e.q < next)) ∧ decide (gen < 1) = false ∧ decide (281474976710655 < gen) = false ∧ decide (epoch < 1) = false ∧ decide (4294967295 < epoch) = false ∧ decide (next < 1) = false ∧ decide (281474976710655 < next) = false) := by
    simp only [decide_eq_true_eq, decide_eq_false_iff_not]
    by_cases h : Sn.nums gen epoch next = true
    · right
      obtain ⟨⟨a1, a2⟩, ⟨b1, b2⟩, n1, n2⟩ := Sn.nums_iff.1 h
      refine ⟨by unfold Sn.right; rw [h]; rfl, ?_⟩
      omega
    · left
      refine ⟨by unfold Sn.right; rw [Bool.eq_false_iff.2 h]; rfl, ?_⟩
      rw [Sn.nums_iff] at h
      omega
  obtain ⟨r, hrr⟩ : ∃ r, Sn.right gen epoch next es = r := ⟨_, rfl⟩
  rw [hrr] at hcase ⊢
  clear hrr
  go_enter Try.func22, Try.ntmps22
  go_upto_region 1 with (fail)
  rw [HW0.out]
  rcases hcase with ⟨hf, hc⟩ | ⟨hf, t1, t2, t3, t4, t5, t6⟩
  · subst hf
    rcases hc with t1 | ⟨t1, t2⟩ | ⟨t1, t2, t3⟩ | ⟨t1, t2, t3, t4⟩ | ⟨t1, t2, t3, t4, t5⟩ | ⟨t1, t2, t3, t4, t5, t6⟩
    all_goals
      go_wp2
      go_ret
      exact ⟨rfl, HB0.out⟩
  · have HF := Lib.hid hf
    clear hf
    go_upto_region 3 with (fail)
    clear t1 t2 t3 t4 t5 t6 c0 c1 c2 c9
    go_wp2
    go_loopw [3] (fun u wr => ∃ k : Nat, k ≤ es.length ∧ u = .int .i64 k ∧ (∀ e ∈ es.take k, e.q < next) ∧ Below W0.heap.size W0 wr) (fun u _ => es.length - (intOf u).toNat)
    case atStart => exact ⟨0, Nat.zero_le _, rfl, by simp, Below.refl _ _⟩
    case round =>
      obtain ⟨k, hk, rfl, hall, hBr⟩ := hrel
      have HALL := Lib.hid hall
      have HBR := Lib.hid hBr
      have zr := hBr.size
      have HXr := Lib.hid ((hBr.block w.heap.size z0).trans HX0.out)
      obtain ⟨c0, c1, c2, c9⟩ := HCC.out _ HXr.out
      clear hall hBr
      by_cases hlt : k < es.length
      · obtain ⟨x, hx⟩ : ∃ x, es[k]? = some x := ⟨_, List.getElem?_eq_getElem hlt⟩
        obtain ⟨b, o, rfl, hbl, -, -, -, -, -, d4, -⟩ := (HRO.out.below HBR.out).ent6 hx
        have HTK : Hid (x.q < next → ∀ e ∈ es.take (k + 1), e.q < next) := Lib.hid (fun h e he => by
          rw [List.take_add_one, hx] at he
          rcases List.mem_append.1 he with he | he
          · exact HALL.out e he
          · have : e = x := by simpa using he
            rw [this]; exact h)
        have HNO : Hid (¬ x.q < next → (es.all fun e => decide (e.q < next)) = false) := Lib.hid (fun h => by
          rw [List.all_eq_false]
          exact ⟨x, List.mem_of_getElem? hx, by simpa using h⟩)
        have HD4 : Hid (∀ W : World, Below wr.heap.size wr W → W.cell? ⟨b, o + k * 6 + 4, none⟩ = some (.int .i64 x.q)) := Lib.hid (fun W hW => (hW.cell (p := ⟨b, o + k * 6 + 4, none⟩) hbl).trans d4)
        have t0 : decide ((k : Int) < (es.length : Int)) = true := decide_eq_true (by omega)
        clear hx d4 hbl
        go_upto_region 6 with (fail)
        clear t0 c0 c1 c2 c9
        refine wp_region_conf2 8 [Fact.eq (.pointer (some ⟨w.heap.size, 9, none⟩)), Fact.eq (.slice (some ⟨b, o, none⟩) es.length cap), Fact.eq (.int .i64 (k : Nat)), Fact.eq (.pointer (some ⟨b, o + k * 6, none⟩)), Fact.eq (.pointer (some ⟨b, o + k * 6 + 4, none⟩)), Fact.eq (.int .i64 x.q), Fact.eq (.pointer (some ⟨w.heap.size, 2, none⟩)), Fact.eq (.int .i64 next)] ?raA (by kernel_rfl) (by kernel_rfl) ?rahA ?raho ?rahend
        case rahA =>
          intro vv
          simp only [putRules, Nat.reduceAdd]
          rfl
        case raho =>
          refine ⟨?_, ?_, ?_, ?_, ?_, ?_, ?_, ?_, trivial⟩
          · intro vv W K hB hd HK
            simp only [confRules] at HK
            clear hd
            go_wp2
            refine HK.out _ _ (Below.refl _ _) ?_
            rfl
          · intro vv W K hB hd HK
            simp only [confRules] at hd HK
            have h0 := hd
            clear hd
            simp only [h0] at HK ⊢
            clear h0
            obtain ⟨c0, c1, c2, c9⟩ := HCC.out _ ((hB.block w.heap.size (by omega)).trans HXr.out)
            clear c0 c1 c2
            go_wp2
            refine HK.out _ _ (Below.refl _ _) ?_
            rfl
          · intro vv W K hB hd HK
            simp only [confRules] at HK
            clear hd
            go_wp2
            refine HK.out _ _ (Below.refl _ _) ?_
            rfl
          · intro vv W K hB hd HK
            simp only [confRules] at hd HK
            obtain ⟨h1, h2⟩ := hd
            simp only [h1, h2] at HK ⊢
            clear h1 h2
            go_wp2
            refine HK.out _ _ (Below.refl _ _) ?_
            rfl
          · intro vv W K hB hd HK
            simp only [confRules] at hd HK
            have h3 := hd
            clear hd
            simp only [h3] at HK ⊢
            clear h3
            go_wp2
            refine HK.out _ _ (Below.refl _ _) ?_
            rfl
          · intro vv W K hB hd HK
            simp only [confRules] at hd HK
            have h4 := hd
            clear hd
            simp only [h4] at HK ⊢
            clear h4
            have d4 := HD4.out _ hB
            go_wp2
            refine HK.out _ _ (Below.refl _ _) ?_
            rfl
          · intro vv W K hB hd HK
            simp only [confRules] at HK
            clear hd
            go_wp2
            refine HK.out _ _ (Below.refl _ _) ?_
            rfl
          · intro vv W K hB hd HK
            simp only [confRules] at hd HK
            have h6 := hd
            clear hd
            simp only [h6] at HK ⊢
            clear h6
            obtain ⟨c0, c1, c2, c9⟩ := HCC.out _ ((hB.block w.heap.size (by omega)).trans HXr.out)
            clear c0 c1 c9
            go_wp2
            refine HK.out _ _ (Below.refl _ _) ?_
            rfl
        case rahend =>
          intro vv W hB hf
          have e5 := hf 5 (by decide)
          have e7 := hf 7 (by decide)
          simp only [endRules] at e5 e7
          simp only [e5, e7, dropRules]
          clear hf e5 e7
          have HBW := Lib.hid (HBR.out.trans (hB.mono HBR.out.size))
          clear hB
          by_cases hq : x.q < next
          · have t1 : decide (next ≤ x.q) = false := decide_eq_false (by omega)
            have HT := Lib.hid (HTK.out hq)
            clear hq
            go_wp2
            go_roundw
            case rel => exact ⟨k + 1, by omega, by go_num, HT.out, HBW.out⟩
            case measure => simp [intOf]; omega
          · have t1 : decide (next ≤ x.q) = true := decide_eq_true (by omega)
            obtain rfl : r = false := HF.out.trans (HNO.out hq)
            clear hq
            go_wp2
            go_ret
            exact ⟨rfl, HB0.out.trans (HBW.out.mono HB0.out.size)⟩
      · obtain rfl : k = es.length := by omega
        have HT : Hid ((es.all fun e => decide (e.q < next)) = true) := Lib.hid (by
          rw [List.all_eq_true]
          intro e he
          have := HALL.out e (by rw [List.take_length]; exact he)
          exact decide_eq_true this)
        obtain rfl : r = true := HF.out.trans HT.out
        go_wp2
        go_ret
        exact ⟨rfl, HB0.out.trans (HBR.out.mono HB0.out.size)⟩
theorem rsright_any (w : World) (gen epoch next : Int) (g : Geo.G) (v : Value) (base : Nat) (es : List BE) (h : OwnM w 104 6 BEC (fun _ => True) base v es) (hn : es.length ≤ 100000) :
    Calls Try.prog 22 #[.agg (RC gen epoch next g v)] w fun e w' => e = .returned (.bool (Sn.right gen epoch next es)) ∧ Below w.heap.size w w' := by
  obtain ⟨a, cap, rfl, hr, -⟩ := h.shape kinR
  exact rsright_core w gen epoch next g a cap es hr hn
end Go.Proofs.Ytjnneoejnpephaa
namespace Go.Proofs.Ytjnneoejnpephaa
open Go.RowKit Go.Rv Frm
set_option linter.unusedVariables false
attribute [local go_sem] Oper.semAt_some
theorem lits_rf (f : Fr) (hb : Body f.body) (hn : Num64 f) : Try.prog.keyLits 3 65 (FC f).toList = some (frLits f) := by
  obtain ⟨n0, n1, n2, n3, n4⟩ := hn
  have k1 : Try.prog.cellsOf 3 = 1 := by kernel_rfl
  have k44 : Try.prog.cellsOf 40 = 44 := by kernel_rfl
  have k49 : Try.prog.cellsOf 65 = 49 := by kernel_rfl
  have hlen : (FC f).toList.length = 49 := by rw [Array.length_toList, FC_size, hb.1]
  have c0 : ((FC f).toList.drop 0).take 1 = [.int .i64 f.kind] := by simp [FC]
  have c1 : ((FC f).toList.drop 1).take 1 = [.int .i64 f.zone] := by simp [FC]
  have c2 : ((FC f).toList.drop 2).take 1 = [.int .i64 f.off] := by simp [FC]
  have c3 : ((FC f).toList.drop 3).take 1 = [.int .i64 f.epoch] := by simp [FC]
  have c4 : ((FC f).toList.drop 4).take 1 = [.int .i64 f.seq] := by simp [FC]
  have c5 : ((FC f).toList.drop 5).take 44 = (byteCells f.body).toList := by
    simp [FC]
    rw [List.take_of_length_le (by rw [Array.length_toList, size_byteCells, hb.1]; omega)]
  have i : ∀ n : Int, (Lit.int .i64 n).wf = true → Try.prog.keyLits 2 3 [.int .i64 n] = some [.int .i64 n] := by
    intro n hn
    simp only [Program.keyLits, Try.underlying3, hn, and_self, if_true]
  have hB := lits_bytes Try.underlying40 Try.underlying5 (by kernel_rfl) k44 f.body hb.1 hb.2 0
  unfold Program.keyLits
  simp only [Try.underlying65, k49, hlen]
  rw [if_pos ⟨trivial, by decide +kernel⟩]
  simp only [List.mapM_cons, List.mapM_nil, k1, k44, c0, c1, c2, c3, c4, c5, i _ n0, i _ n1, i _ n2, i _ n3, i _ n4, hB]
  simp [frLits]
theorem eq_rf (f g : Fr) (hf : Body f.body) (hg : Body g.body) (nf : Num64 f) (ng : Num64 g) (b : Bool) (hb : b = true ↔ f = g) (w : World) :
    (Op.equalIn 10000 65 (.agg (FC f)) (.agg (FC g))).run Try.prog w = .ok b w := by
  have hF : ∀ f : Fr, Body f.body → (Value.agg (FC f)).formed Try.prog 65 = true := by
    intro l hl
    simp only [Value.formed, Try.underlying65, FC_size, hl.1]
    kernel_rfl
  exact eq_deep (by kernel_rfl) (hF f hf) (hF g hg) (lits_rf f hf nf) (lits_rf g hg ng) b (hb.trans ⟨fun h => by rw [h], frLits_inj⟩) w
theorem _root_.Go.Rv.RowOf.take {α : Type} {w : World} {n : Nat} {X : α → Array Value} {Q : α → Prop} {a : Option Addr} {xs : List α} (h : RowOf w n X Q a xs) (q : Nat) : RowOf w n X Q a (xs.take q) := by
  rcases h with h | ⟨b, o, e, hb, hc⟩
  · exact .inl (by simp [h])
  · refine .inr ⟨b, o, e, hb, fun k x hk => hc k x ?_⟩
    rw [List.getElem?_take] at hk
    split at hk
    · exact hk
    · cases hk
theorem sok_cases (s : Sn.S) (zone : Int) (hg : Geo.right s.g = true) : (s.right = false ∧ s.er zone = 10 ∧ s.fr zone = []) ∨ (s.right = true ∧ s.er zone = 10 ∧ s.fr zone = [] ∧ decide (zone < 0) = true) ∨ (s.right = true ∧ s.er zone = 10 ∧ s.fr zone = [] ∧ decide (zone < 0) = false ∧ decide (s.g.d * s.g.z ≤ zone) = true) ∨ (s.right = true ∧ s.er zone = 0 ∧ s.fr zone = s.frames zone ∧ s.ok zone = true ∧ decide (zone < 0) = false ∧ decide (s.g.d * s.g.z ≤ zone) = false) := by
  have hsm := ((Geo.right_iff _).1 hg).1
  have hs4 := hsm.2.2.1
  have hok : s.ok zone = (s.right && (decide (0 ≤ zone) && decide (zone < s.g.d * s.g.z))) := by
    unfold Sn.S.ok holdsG
    rw [hg, Bool.true_and]
    congr 1
    rw [Bool.eq_iff_iff]
    simp only [Bool.and_eq_true, Geo.inB_iff, decide_eq_true_eq]
    omega
  unfold Sn.S.er Sn.S.fr
  rw [hok]
  simp only [decide_eq_true_eq, decide_eq_false_iff_not]
  cases hr : s.right
  · left; simp
  · right
    by_cases h1 : zone < 0
    · left
      have : decide (0 ≤ zone) = false := decide_eq_false (by omega)
      simp [this, h1]
    · right
      have e1 : decide (0 ≤ zone) = true := decide_eq_true (by omega)
      by_cases h2 : zone < s.g.d * s.g.z
      · right
        have e2 : decide (zone < s.g.d * s.g.z) = true := decide_eq_true h2
        simp only [e1, e2, Bool.and_self, if_true, true_and]
        omega
      · left
        have e2 : decide (zone < s.g.d * s.g.z) = false := decide_eq_false h2
        simp only [e1, e2, Bool.and_false, Bool.false_eq_true, if_false, true_and]
        omega
set_option maxRecDepth 100000 in
set_option maxHeartbeats 32000000 in
theorem sn_frames_walk (w : World) (g : Geo.G) (a1 : Option Addr) (l1 : List (Int × BE)) (c1 : Nat) (gen epoch next zone cut : Int) (hI1 : RowOf w 7 opC Op64 a1 l1) :
    Calls Try.prog 8 #[.agg (GC g), .slice a1 l1.length c1, .int .i64 gen, .int .i64 epoch, .int .i64 next, .int .i64 zone, .int .i64 cut] w fun e w' => e = .returned (.bool true) ∧ Below w.heap.size w w' := by
  have HA := Lib.hid (fun W => sn_anchor W)
  have HGI := Lib.hid (gsize (g := g))
  have HMA : Hid (∀ W, Below w.heap.size w W → Calls Try.prog 16 #[.agg (GC g), .slice a1 l1.length c1, .int .i64 gen, .int .i64 epoch, .int .i64 next] W (MadePost W g l1 gen epoch next)) := Lib.hid (fun W hW => made12_any g a1 l1 c1 gen epoch next W (hI1.below hW))
  have HGRI := Lib.hid (fun (W : World) => gright_any g W)
  have HGC : Hid (∀ W : World, W.heap[w.heap.size]? = some (.cells (GC g) 23 (0, 0)) → W.cell? ⟨w.heap.size, 0, none⟩ = some (.int .i64 g.d) ∧ W.cell? ⟨w.heap.size, 1, none⟩ = some (.int .i64 g.z)) := Lib.hid (fun W h => ⟨(cell_of_row _ _ _ _ _ _ h).trans rfl, (cell_of_row _ _ _ _ _ _ h).trans rfl⟩)
  have hzs := (zero_of_info Try.infoSnz).1
  have hzr := (zero_of_info Try.infoRS).1
  have hzf := (zero_of_info Try.infoFrame).1
  have HIR : Hid ((Try.prog.info? 42).map (fun i => (i.zero, i.size, i.bytes)) = some (some (.agg (FC Fr.zero)), 49, 88)) := Lib.hid (by kernel_rfl)
  have hal := (Below.refl w.heap.size w).alloc (Nat.le_refl _) (.cells (GC g) 23)
  have hnew := heap_alloc_new w (.cells (GC g) 23)
  clear hI1
  obtain ⟨GX, hGX⟩ : ∃ GX, GC g = GX := ⟨_, rfl⟩
  rw [hGX] at HGI HMA HGRI HGC hal hnew ⊢
  clear hGX
  go_enter Try.func8, Try.ntmps8
  go_wp2_with fail
  refine (HA.out _).mono ?_
  rintro e w0 ⟨rfl, hB0⟩
  have HG0 := Lib.hid ((hB0.block w.heap.size (by simp)).trans hnew)
  have HB0 := Lib.hid (hal.trans (hB0.mono hal.size))
  have zw0 : w.heap.size < w0.heap.size := (Array.getElem?_eq_some_iff.1 HG0.out).1
  clear hal hnew hB0
  go_wp2_with (refine wpList_row_on (by rfl) 23 _ rfl w.heap.size rfl 23 _ _ _ HG0.out Try.underlying23 rfl HGI.out ?_)
  refine (HMA.out _ HB0.out).mono ?_
  rintro eaA waA ⟨SA, TA, okA, rfl, ⟨i1, i2, i3⟩, ⟨j1, j2, j3⟩, hBA, hcA⟩
  have HIA := Lib.hid i1
  have HOA := Lib.hid i2
  have HZA := Lib.hid i3
  have HJA := Lib.hid j1
  have HPA := Lib.hid j2
  have HYA := Lib.hid j3
  have HCA := Lib.hid hcA
  have zbA := hBA.size
  obtain ⟨VA, hVA⟩ : ∃ V, (waA.alloc (.cells SZ 28)).alloc (.cells RZ 32) = V := ⟨_, rfl⟩
  have hvA : VA.heap[waA.heap.size]? = some (.cells SZ 28 (0, 0)) := by rw [← hVA]; exact heap_alloc2_old _ _ _
  have huA : VA.heap[waA.heap.size + 1]? = some (.cells RZ 32 (0, 0)) := by rw [← hVA]; exact heap_alloc2_new _ _ _
  have hbA : Below waA.heap.size waA VA := by rw [← hVA]; exact ((Below.refl _ _).alloc (Nat.le_refl _) _).alloc (by simp) _
  obtain ⟨UA, hUA⟩ : ∃ U, VA.setRow waA.heap.size SA = U := ⟨_, rfl⟩
  have hsA : Only [waA.heap.size] VA UA := by rw [← hUA]; exact only_setRow _ _ _
  have hrA : UA.heap[waA.heap.size]? = some (.cells SA 28 (0, 0)) := by rw [← hUA]; exact setRow_heap _ _ _ _ _ _ hvA
  have hqA := hsA.get huA (by simp)
  obtain ⟨WA, hWA⟩ : ∃ W, UA.setRow (waA.heap.size + 1) TA = W := ⟨_, rfl⟩
  have htA : Only [waA.heap.size + 1] UA WA := by rw [← hWA]; exact only_setRow _ _ _
  have HQAwA := Lib.hid (htA.get hrA (by simp))
  have HTTA : Hid (WA.heap[waA.heap.size + 1]? = some (.cells TA 32 (0, 0))) := Lib.hid (by rw [← hWA]; exact setRow_heap _ _ _ _ _ _ hqA)
  have hxA : Below waA.heap.size waA WA := hbA.trans ((hsA.below (B := waA.heap.size) (by simp) hbA.size).trans (htA.below (B := waA.heap.size) (by simp) (by have := hsA.size; have := hbA.size; omega)))
  have hyA := hBA.trans (hxA.mono zbA)
  have HGA := Lib.hid ((hyA.block w.heap.size (by omega)).trans HG0.out)
  have HBA := Lib.hid (HB0.out.trans (hyA.mono HB0.out.size))
  have HXA := Lib.hid hxA
  have HYYA := Lib.hid hyA
  have HVA := Lib.hid hVA
  have HUA := Lib.hid hUA
  have HWA := Lib.hid hWA
  have HH1A := Lib.hid hvA
  have HH2A := Lib.hid hqA
  have zzA : waA.heap.size + 1 < WA.heap.size := (Array.getElem?_eq_some_iff.1 HTTA.out).1
  clear i1 i2 i3 j1 j2 j3 hBA hcA hVA hvA huA hbA hUA hsA hrA hqA hWA htA hxA hyA
  go_upto_region 4 with (first | (rw [show (waA.alloc (.cells SZ 28)).alloc (.cells RZ 32) = VA from HVA.out]; refine wpList_store_row rfl 28 _ _ rfl waA.heap.size SA rfl rfl 28 SZ HH1A.out HIA.out HZA.out HOA.out ?_; rw [HUA.out]) | (refine wpList_store_row rfl 32 _ _ rfl (waA.heap.size + 1) TA rfl rfl 32 RZ HH2A.out HJA.out HYA.out HPA.out ?_; rw [HWA.out]))
  have hca := HCA.out
  rcases hca with ⟨rfl, hno⟩ | ⟨rfl, hgr, hla, pa, lea, lla, va, hSA, hTA, hsa, hown, qa1, qa2, qa3⟩
  · have hno' : Geo.right g = false ∨ (Geo.right g = true ∧ decide ((60 : Int) < (l1.length : Int)) = true) := by
      cases h : Geo.right g
      · exact .inl rfl
      · rcases hno with h' | h'
        · rw [h] at h'; cases h'
        · exact .inr ⟨rfl, decide_eq_true (by omega)⟩
    obtain ⟨rg, hrg⟩ : ∃ rg, Geo.right g = rg := ⟨_, rfl⟩
    rw [hrg] at HGRI hno'
    clear hno hrg
    go_wp2_with (refine wpList_row_on (by rfl) 23 _ rfl w.heap.size rfl 23 _ _ _ HGA.out Try.underlying23 rfl HGI.out ?_)
    refine (HGRI.out _).mono ?_
    rintro e5 w5 ⟨rfl, hB5⟩
    have HB5 := Lib.hid (HBA.out.trans (hB5.mono HBA.out.size))
    clear hB5
    rcases hno' with rfl | ⟨rfl, t0⟩
    · go_wp2
      go_ret
      exact ⟨rfl, HB5.out⟩
    · go_wp2
      go_ret
      exact ⟨rfl, HB5.out⟩
  obtain ⟨sa, hsaE⟩ : ∃ sa, Sn.made g l1 gen epoch next = sa := ⟨_, rfl⟩
  have hag : sa.g = g ∧ sa.gen = gen ∧ sa.epoch = epoch ∧ sa.next = next := by rw [← hsaE]; exact ⟨rfl, rfl, rfl, rfl⟩
  rw [hsaE] at hSA hsa hown
  have hsm := ((Geo.right_iff _).1 hgr).1
  have hlen : sa.es.length ≤ 100000 := by have h3 := hsa.ok.len; have := ((Geo.right_iff _).1 hsa.hg).1.2.2.2.1.2; omega
  have HSA := Lib.hid (hsa.below HXA.out)
  have HRA : Hid (∀ W, SnIs W pa lea lla g.b.toNat (nz g) sa → Calls Try.prog 18 #[.agg SA] W fun e w' => e = .returned (.bool sa.right) ∧ Below W.heap.size W w') := Lib.hid (fun W h => by rw [hSA]; exact sright_any W pa lea lla _ _ sa.g sa.es _ h.bm hlen sa.gen sa.epoch sa.next)
  have HFA : Hid (∀ W, SnIs W pa lea lla g.b.toNat (nz g) sa → Calls Try.prog 17 #[.agg SA, .int .i64 zone] W (FramesPost W sa zone)) := Lib.hid (fun W h => by rw [hSA]; exact sframes_any W pa lea lla _ _ sa h zone)
  have HSM : Hid (∀ (W : World) (p' le' ll' ce' cl' : Nat), SnIs W pa lea lla g.b.toNat (nz g) sa → SnIs W p' le' ll' ce' cl' sa → Calls Try.prog 26 #[.agg (SC sa p'), .agg SA] W fun e w' => e = .returned (.bool true) ∧ Below W.heap.size W w') := Lib.hid (fun W p' le' ll' ce' cl' h h' => by rw [hSA]; have := ssame_any W p' le' ll' ce' cl' pa lea lla _ _ sa sa h' h; simpa using this)
  have HRR : Hid (∀ W, Below waA.heap.size waA W → Calls Try.prog 22 #[.agg TA] W fun e w' => e = .returned (.bool sa.right) ∧ Below W.heap.size W w') := Lib.hid (fun W hW => by
    rw [hTA]
    have := rsright_any W gen epoch next g va w0.heap.size sa.es (hown.below hW) hlen
    unfold Sn.S.right
    rw [hag.2.1, hag.2.2.1, hag.2.2.2]
    exact this)
  have HFF : Hid (sa.right = true → ∀ W, Below waA.heap.size waA W → Calls Try.prog 31 #[.agg TA, .int .i64 zone] W fun x w' => ∃ u, x = .returned u ∧ OwnM w' 65 49 FC (fun f => f.body.length = 44) W.heap.size u (sa.frames zone) ∧ Below W.heap.size W w') := Lib.hid (fun hr W hW => by
    rw [hTA]
    have hn := (Sn.nums_iff.1 (Sn.right_iff.1 (show Sn.right sa.gen sa.epoch sa.next sa.es = true from hr)).1).2.2
    rw [hag.2.2.2] at hn
    have := rsframes_any W gen epoch next g va w0.heap.size sa.es (hown.below hW) hgr (by have := hsa.ok; rwa [hag.1] at this) hn zone
    unfold Sn.S.frames
    rw [hag.1, hag.2.1, hag.2.2.1, hag.2.2.2]
    exact this)
  have HGR := Lib.hid hgr
  have HAG := Lib.hid hag.1
  have hdz : 0 ≤ g.d * g.z ∧ g.d * g.z ≤ 512 := by have := Geo.dz_bd hsm; omega
  have hcase := sok_cases sa zone hsa.hg
  rw [hag.1] at hcase
  have HCASE := Lib.hid hcase
  have HSAE := Lib.hid hSA
  clear hgr hla hSA hTA hsa hown hlen hsaE hag hsm hcase
  go_wp2_with (refine wpList_row_on (by rfl) 28 _ rfl waA.heap.size rfl 28 _ _ _ HQAwA.out Try.underlying28 rfl HIA.out ?_)
  refine (HFA.out _ HSA.out).mono ?_
  rintro e7 w7 ⟨v7, rfl, ho7, hB7⟩
  have z7 := hB7.size
  have HSA7 := Lib.hid (HSA.out.below hB7)
  have HTA7 := Lib.hid ((hB7.block waA.heap.size (by omega)).trans HQAwA.out)
  have HTR7 := Lib.hid ((hB7.block (waA.heap.size + 1) (by omega)).trans HTTA.out)
  have HG7 := Lib.hid ((hB7.block w.heap.size (by omega)).trans HGA.out)
  have HB7 := Lib.hid (HBA.out.trans (hB7.mono HBA.out.size))
  have HX7 := Lib.hid (HXA.out.trans (hB7.mono HXA.out.size))
  have HO7 := Lib.hid ho7
  have hcase := HCASE.out
  obtain ⟨r, hr⟩ : ∃ r, sa.right = r := ⟨_, rfl⟩
  obtain ⟨er, her⟩ : ∃ er, sa.er zone = er := ⟨_, rfl⟩
  obtain ⟨fr, hfr⟩ : ∃ fr, sa.fr zone = fr := ⟨_, rfl⟩
  rw [hr] at HRA HRR HFF hcase
  rw [hfr] at HO7 hcase
  rw [her] at hcase ⊢
  have HSR := Lib.hid hr
  clear ho7 hB7 hr her hfr
  go_upto_region 7 with (fail)
  refine wp_region_conf2 4 [Fact.eq (.agg SA), Fact.eq (.bool r), Fact.eq (.agg TA), Fact.eq (.bool r)] ?raA (by kernel_rfl) (by kernel_rfl) ?rahA ?raho ?rahend
  case rahA =>
    intro vv
    simp only [putRules, Nat.reduceAdd]
    rfl
  case raho =>
    refine ⟨?_, ?_, ?_, ?_, trivial⟩
    · intro vv W K hB hd HK
      simp only [confRules] at HK
      clear hd
      have hT := (hB.block waA.heap.size (by omega)).trans HTA7.out
      go_wp2_with (refine wpList_row_on (by rfl) 28 _ rfl waA.heap.size rfl 28 _ _ _ hT Try.underlying28 rfl HIA.out ?_)
      refine HK.out _ _ (Below.refl _ _) ?_
      rfl
    · intro vv W K hB hd HK
      simp only [confRules] at hd HK
      have h0 := hd
      clear hd
      simp only [h0] at HK ⊢
      clear h0
      have hT := HSA7.out.below hB
      go_wp2_with (refine (HRA.out _ hT).mono ?_; rintro e w9 ⟨rfl, hB9⟩)
      refine HK.out _ _ hB9 ?_
      rfl
    · intro vv W K hB hd HK
      simp only [confRules] at HK
      clear hd
      have hT := (hB.block (waA.heap.size + 1) (by omega)).trans HTR7.out
      go_wp2_with (refine wpList_row_on (by rfl) 32 _ rfl (waA.heap.size + 1) rfl 32 _ _ _ hT Try.underlying32 rfl HJA.out ?_)
      refine HK.out _ _ (Below.refl _ _) ?_
      rfl
    · intro vv W K hB hd HK
      simp only [confRules] at hd HK
      obtain ⟨h2, h1⟩ := hd
      simp only [h2, h1] at HK ⊢
      clear h2 h1
      have hT := HX7.out.trans (hB.mono HX7.out.size)
      go_wp2_with (refine (HRR.out _ hT).mono ?_; rintro e w9 ⟨rfl, hB9⟩)
      refine HK.out _ _ hB9 ?_
      rfl
  case rahend =>
    intro vv W hB hf
    have e1 := hf 1 (by decide)
    have e3 := hf 3 (by decide)
    simp only [endRules] at e1 e3
    simp only [e1, e3, dropRules]
    clear hf e1 e3
    have z8 := hB.size
    have HSA8 := Lib.hid (HSA7.out.below hB)
    have HTA8 := Lib.hid ((hB.block waA.heap.size (by omega)).trans HTA7.out)
    have HTR8 := Lib.hid ((hB.block (waA.heap.size + 1) (by omega)).trans HTR7.out)
    have HG8 := Lib.hid ((hB.block w.heap.size (by omega)).trans HG7.out)
    have HB8 := Lib.hid (HB7.out.trans (hB.mono HB7.out.size))
    have HX8 := Lib.hid (HX7.out.trans (hB.mono HX7.out.size))
    have HO8 := Lib.hid (HO7.out.below hB)
    have t1 : (r != r) = false := by simp
    clear hB
    obtain ⟨ad7, cp7, rfl, -, -, -, -, -⟩ := HO8.out.shape kinF
    rcases hcase with ⟨rfl, rfl, rfl⟩ | ⟨rfl, rfl, rfl, t2⟩ | ⟨rfl, rfl, rfl, t2, t3⟩ | ⟨rfl, rfl, rfl, hok, t2, t3⟩
    · go_wp2_with (refine wpList_row_on (by rfl) 32 _ rfl (waA.heap.size + 1) rfl 32 _ _ _ HTR8.out Try.underlying32 rfl HJA.out ?_)
      refine (HRR.out _ HX8.out).mono ?_
      rintro e9 w9 ⟨rfl, hB9⟩
      have HB9 := Lib.hid (HB8.out.trans (hB9.mono HB8.out.size))
      clear hB9
      go_wp2
      go_ret
      exact ⟨rfl, HB9.out⟩
    · go_wp2_with (refine wpList_row_on (by rfl) 32 _ rfl (waA.heap.size + 1) rfl 32 _ _ _ HTR8.out Try.underlying32 rfl HJA.out ?_)
      refine (HRR.out _ HX8.out).mono ?_
      rintro e9 w9 ⟨rfl, hB9⟩
      have HB9 := Lib.hid (HB8.out.trans (hB9.mono HB8.out.size))
      clear hB9
      go_wp2
      go_ret
      exact ⟨rfl, HB9.out⟩
    · go_wp2_with (refine wpList_row_on (by rfl) 32 _ rfl (waA.heap.size + 1) rfl 32 _ _ _ HTR8.out Try.underlying32 rfl HJA.out ?_)
      refine (HRR.out _ HX8.out).mono ?_
      rintro e9 w9 ⟨rfl, hB9⟩
      have HB9 := Lib.hid (HB8.out.trans (hB9.mono HB8.out.size))
      obtain ⟨c0, c1'⟩ := HGC.out _ ((hB9.block w.heap.size (by omega)).trans HG8.out)
      clear hB9
      go_wp2
      go_ret
      exact ⟨rfl, HB9.out⟩
    · have hga : Geo.right sa.g = true := by rw [HAG.out]; exact HGR.out
      have hlx := Sn.S.frames_length sa ((Geo.right_iff _).1 hga).1 zone
      rw [HAG.out] at hlx
      have hm64 := Sn.nParts_64 HGR.out
      have hm2 := (Sn.nParts_two ((Geo.right_iff _).1 HGR.out).1).1
      have HQX : Hid (∀ f ∈ sa.frames zone, FrQ f) := Lib.hid (fun f hf => ⟨(Sn.frames_right hga hok f hf).1, (Sn.frames_right hga hok f hf).2.1⟩)
      have HRD : Hid (∀ r, Sn.readS (sa.frames zone ++ r) = some sa) := Lib.hid (fun r => Sn.read_frames hga HSA.out.ok hok r)
      have HCUT : Hid (∀ k, k < Sn.nParts g → Sn.readS ((sa.frames zone).take k) = none) := Lib.hid (fun k hk => Sn.read_cut hga HSR.out (by rw [HAG.out]; exact hk))
      obtain ⟨fx, hfx⟩ : ∃ l, sa.frames zone = l := ⟨_, rfl⟩
      rw [hfx] at HO8 hlx HQX HRD HCUT HFF ⊢
      obtain ⟨m, hm⟩ : ∃ m, Sn.nParts g = m := ⟨_, rfl⟩
      rw [hm] at hlx hm64 hm2 HCUT
      have HLX := Lib.hid hlx
      obtain ⟨ax', cx', e8', hrx, hnx, hcx, hcmx, -⟩ := HO8.out.shape kinF
      cases e8'
      have HRX8 := Lib.hid hrx
      have HNX := Lib.hid hnx
      have HCX := Lib.hid hcx
      clear hga hok hfx hm hlx hrx hnx hcx
      go_wp2_with (refine wpList_row_on (by rfl) 32 _ rfl (waA.heap.size + 1) rfl 32 _ _ _ HTR8.out Try.underlying32 rfl HJA.out ?_)
      refine (HRR.out _ HX8.out).mono ?_
      rintro e9 w9 ⟨rfl, hB9⟩
      have z9 := hB9.size
      have HTR9 := Lib.hid ((hB9.block (waA.heap.size + 1) (by omega)).trans HTR8.out)
      have HTA9 := Lib.hid ((hB9.block waA.heap.size (by omega)).trans HTA8.out)
      have HSA9 := Lib.hid (HSA8.out.below hB9)
      have HX9 := Lib.hid (HX8.out.trans (hB9.mono HX8.out.size))
      have HB9 := Lib.hid (HB8.out.trans (hB9.mono HB8.out.size))
      have HRX9 := Lib.hid (HRX8.out.below hB9)
      obtain ⟨c0, c1'⟩ := HGC.out _ ((hB9.block w.heap.size (by omega)).trans HG8.out)
      clear hB9
      go_wp2_with (refine wpList_row_on (by rfl) 32 _ rfl (waA.heap.size + 1) rfl 32 _ _ _ HTR9.out Try.underlying32 rfl HJA.out ?_)
      refine (HFF.out (by first | rfl | trivial) _ HX9.out).mono ?_
      rintro e10 w10 ⟨v10, rfl, ho10, hB10⟩
      have z10 := hB10.size
      have HTA10 := Lib.hid ((hB10.block waA.heap.size (by omega)).trans HTA9.out)
      have HSA10 := Lib.hid (HSA9.out.below hB10)
      have HB10 := Lib.hid (HB9.out.trans (hB10.mono HB9.out.size))
      have HRX10 := Lib.hid (HRX9.out.below hB10)
      obtain ⟨ad10, cp10, rfl, hrw10, -, -, -, -⟩ := ho10.shape kinF
      have HRW10 := Lib.hid hrw10
      rw [HLX.out]
      clear c0 c1' t1 t2 t3 ho10 hB10 hrw10
      go_wp2
      go_loopw [99] (fun u wr => ∃ j : Nat, j ≤ m ∧ u = .int .i64 j ∧ Below w10.heap.size w10 wr) (fun u _ => m - (intOf u).toNat)
      case atStart => exact ⟨0, Nat.zero_le _, rfl, Below.refl _ _⟩
      case round =>
        obtain ⟨j, hj, rfl, hBr⟩ := hrel
        have zr := hBr.size
        have HBR := Lib.hid hBr
        clear hBr
        by_cases hjt : j < m
        · obtain ⟨x, hx⟩ : ∃ x, fx[j]? = some x := ⟨_, List.getElem?_eq_getElem (by rw [HLX.out]; exact hjt)⟩
          have hqx := HQX.out x (List.mem_of_getElem? hx)
          obtain ⟨bx, ox, rfl, -, -, -⟩ := HRX10.out.at hx
          obtain ⟨bY, oY, rfl, -, -, -⟩ := HRW10.out.at hx
          have hgx := (HRX10.out.below HBR.out).range hx (by rw [FC_size, hqx.1.1])
          have hgy : ∀ W', Below wr.heap.size wr W' → W'.rangeAt bY (oY + j * 49) (FC x).toList := fun W' hW => ((HRW10.out.below HBR.out).below hW).range hx (by rw [FC_size, hqx.1.1])
          have hix : (Try.prog.info? 42).map (·.size) = some (FC x).toList.length := by rw [FC_len hqx.1.1]; exact (zero_of_info Try.infoFrame).2
          have hi3 : (Try.prog.info? 65).map (·.size) = some (FC x).toList.length := by rw [FC_len hqx.1.1]; exact (zero_of_info Try.infoF3).2
          have hicx := size_frq hqx.1.1
          have hocx := FC_one x
          have hzcx : (FC Fr.zero).size = (FC x).size := by rw [FC_size, FC_size]; show 5 + 44 = 5 + x.body.length; rw [hqx.1.1]
          have HEQ := Lib.hid (fun W => eq_rf x x hqx.1 hqx.1 hqx.2 hqx.2 true (by simp) W)
          obtain ⟨XL, hXL⟩ : ∃ XL, (FC x).toList = XL := ⟨_, rfl⟩
          have hXC : FC x = XL.toArray := by rw [← hXL]
          rw [hXL] at hgx hgy hix hi3
          rw [hXC] at hicx HEQ hocx hzcx
          have HGX := Lib.hid hgx
          have HGY := Lib.hid hgy
          have HIXL := Lib.hid hix
          have HI3 := Lib.hid hi3
          have HICX := Lib.hid hicx
          have HOCX := Lib.hid hocx
          have HZCX := Lib.hid hzcx
          obtain ⟨W9, hW9⟩ : ∃ W9, wr.alloc (.cells XL.toArray 42) = W9 := ⟨_, rfl⟩
          have hb9 : Below wr.heap.size wr W9 := by rw [← hW9]; exact (Below.refl _ _).alloc (Nat.le_refl _) _
          have hF9 : W9.heap[wr.heap.size]? = some (.cells XL.toArray 42 (0, 0)) := by rw [← hW9]; exact heap_alloc_new wr _
          have zF9 : wr.heap.size < W9.heap.size := (Array.getElem?_eq_some_iff.1 hF9).1
          have HB9' := Lib.hid hb9
          have HF9 := Lib.hid hF9
          have HW9 := Lib.hid hW9
          have t0 : decide ((j : Int) < (m : Int)) = true := decide_eq_true (by omega)
          clear hx hqx hgx hgy hix hi3 hicx hocx hzcx hXL hXC hW9 hb9 hF9
          go_upto_region 17 with (first | (refine wpList_load_mid rfl 42 _ rfl bx (ox + j * 49) rfl XL _ HGX.out Try.underlying42 rfl HIXL.out ?_) | (refine wpList_store_row rfl 42 _ _ rfl wr.heap.size XL.toArray rfl rfl 42 (FC Fr.zero) (heap_alloc_new wr _) HICX.out HZCX.out HOCX.out ?_; rw [World.setRow_alloc_new]))
          rw [HW9.out]
          clear t0
          rw [put_none]
          refine wp_region_conf2 5 [Fact.eq (.agg XL.toArray), Fact.eq (.slice (some ⟨bY, oY, none⟩) m cp10), Fact.eq (.int .i64 (j : Nat)), Fact.eq (.pointer (some ⟨bY, oY + j * 49, none⟩)), Fact.eq (.agg XL.toArray)] ?rbA (by kernel_rfl) (by kernel_rfl) ?rbhA ?rbho ?rbhend
          case rbhA =>
            intro vv
            simp only [putRules, Nat.reduceAdd]
            rfl
          case rbho =>
            refine ⟨?_, ?_, ?_, ?_, ?_, trivial⟩
            · intro vv W K hB hd HK
              simp only [confRules] at HK
              clear hd
              have hT := (hB.block wr.heap.size zF9).trans HF9.out
              go_wp2_with (refine wpList_row_on (by rfl) 42 _ rfl wr.heap.size rfl 42 _ _ _ hT Try.underlying42 rfl HICX.out ?_)
              refine HK.out _ _ (Below.refl _ _) ?_
              rfl
            · intro vv W K hB hd HK
              simp only [confRules] at HK
              clear hd
              go_wp2
              refine HK.out _ _ (Below.refl _ _) ?_
              rfl
            · intro vv W K hB hd HK
              simp only [confRules] at HK
              clear hd
              go_wp2
              refine HK.out _ _ (Below.refl _ _) ?_
              rfl
            · intro vv W K hB hd HK
              simp only [confRules] at hd HK
              obtain ⟨h1, h2⟩ := hd
              simp only [h1, h2] at HK ⊢
              clear h1 h2
              go_wp2
              refine HK.out _ _ (Below.refl _ _) ?_
              rfl
            · intro vv W K hB hd HK
              simp only [confRules] at hd HK
              have h3 := hd
              clear hd
              simp only [h3] at HK ⊢
              clear h3
              have hT := HGY.out _ (HB9'.out.trans (hB.mono HB9'.out.size))
              go_wp2_with (refine wpList_load_mid rfl 65 _ rfl bY (oY + j * 49) rfl XL _ hT Try.underlying65 rfl HI3.out ?_)
              refine HK.out _ _ (Below.refl _ _) ?_
              rfl
          case rbhend =>
            intro vv W hB hf
            have e0 := hf 0 (by decide)
            have e4 := hf 4 (by decide)
            simp only [endRules] at e0 e4
            simp only [e0, e4, dropRules]
            clear hf e0 e4
            have HBW := Lib.hid (HB9'.out.trans (hB.mono HB9'.out.size))
            clear hB
            go_wp2_with (refine wpList_neq_on (by rfl) 65 65 _ _ rfl XL.toArray XL.toArray rfl rfl (by kernel_rfl) true HEQ.out ?_)
            go_roundw
            case rel => exact ⟨j + 1, by omega, by go_num, HBR.out.trans (HBW.out.mono HBR.out.size)⟩
            case measure => simp [intOf]; omega
        · obtain rfl : j = m := by omega
          have HTAr := Lib.hid ((HBR.out.block waA.heap.size (by omega)).trans HTA10.out)
          have HSAr := Lib.hid (HSA10.out.below HBR.out)
          have HBr := Lib.hid (HB10.out.trans (HBR.out.mono HB10.out.size))
          have HRXr := Lib.hid (HRX10.out.below HBR.out)
          have HRDW : Hid (Calls Try.prog 27 #[.slice ad7 j cp7] wr (ReadPost wr fx)) := Lib.hid (by
            have := sread_any wr ad7 fx cp7 (HRXr.out.imp HQX.out) (by rw [HLX.out]; omega) HCX.out hcmx
            rwa [HLX.out] at this)
          have HSI : Hid (∀ p, (Try.prog.info? 28).map (·.size) = some (SC sa p).size) := Lib.hid (fun p => snsize _ _ _ _)
          have HSO : Hid (∀ p, (SC sa p).all (·.oneCell') = true) := Lib.hid (fun p => by simp [SC, SnC, Value.oneCell'])
          have HSZ : Hid (∀ p, SZ.size = (SC sa p).size) := Lib.hid (fun p => rfl)
          go_wp2_with fail
          refine HRDW.out.mono ?_
          rintro e11 w11 ⟨hB11, ⟨s', p1, le1, ll1, ce1, cl1, hs', rfl, hsn, -, -, -⟩ | ⟨hs', -⟩⟩
          rotate_left
          · exfalso
            have := HRD.out []
            rw [List.append_nil, hs'] at this
            cases this
          obtain rfl : s' = sa := by
            have := HRD.out []
            rw [List.append_nil, hs'] at this
            exact Option.some.inj this
          have z11 := hB11.size
          obtain ⟨W12, hW12⟩ : ∃ W12, w11.alloc (.cells (SC s' p1) 28) = W12 := ⟨_, rfl⟩
          have hb12 : Below w11.heap.size w11 W12 := by rw [← hW12]; exact (Below.refl _ _).alloc (Nat.le_refl _) _
          have HT12 : Hid (W12.heap[w11.heap.size]? = some (.cells (SC s' p1) 28 (0, 0))) := Lib.hid (by rw [← hW12]; exact heap_alloc_new w11 _)
          have zT12 : w11.heap.size < W12.heap.size := (Array.getElem?_eq_some_iff.1 HT12.out).1
          have hb := hB11.trans (hb12.mono z11)
          have HSN12 := Lib.hid (hsn.below hb12)
          have HTA12 := Lib.hid ((hb.block waA.heap.size (by omega)).trans HTAr.out)
          have HSA12 := Lib.hid (HSAr.out.below hb)
          have HB12 := Lib.hid (HBr.out.trans (hb.mono HBr.out.size))
          have HRX12 := Lib.hid (HRXr.out.below hb)
          have HW12 := Lib.hid hW12
          obtain ⟨W13, hW13⟩ : ∃ W13, W12.alloc (.cells #[] 42) = W13 := ⟨_, rfl⟩
          have hb13 : Below W12.heap.size W12 W13 := by rw [← hW13]; exact (Below.refl _ _).alloc (Nat.le_refl _) _
          have hz13 : W13.heap[W12.heap.size]? = some (.cells #[] 42 (0, 0)) := by rw [← hW13]; exact heap_alloc_new W12 _
          have HF13 := Lib.hid (OwnM.fresh W13 42 49 FC (fun f => f.body.length = 44) (Nat.le_refl W12.heap.size) hz13)
          have HRX13 := Lib.hid (HRX12.out.below hb13)
          have HB13 := Lib.hid hb13
          have HW13 := Lib.hid hW13
          have z13 := hb13.size
          clear hs' hsn hB11 hW12 hb12 hb hW13 hb13 hz13
          obtain ⟨L2, hL2⟩ : ∃ l, l = fx ++ fx := ⟨_, rfl⟩
          obtain ⟨q2, hq2⟩ : ∃ q, L2.length = q := ⟨_, rfl⟩
          have HL2 := Lib.hid hL2
          have HQ2 := Lib.hid hq2
          have hq100 : L2.length ≤ 100000 := by rw [hL2, List.length_append, HLX.out]; omega
          have HRD2 : Hid (∀ a c W, RowOf W 49 FC (fun f => f.body.length = 44) a L2 → L2.length ≤ c → c ≤ 9223372036854775807 → Calls Try.prog 27 #[.slice a q2 c] W (ReadPost W L2)) := Lib.hid (fun a c W hR hc hm => by
            have := sread_any W a L2 c (hR.imp (fun f hf => HQX.out f (by rw [hL2] at hf; simpa using hf))) hq100 hc hm
            rwa [hq2] at this)
          clear hL2 hq2 hq100
          go_upto_region 21 with (refine wpList_store_row rfl 28 _ _ rfl w11.heap.size (SC s' p1) rfl rfl 28 SZ (heap_alloc_new w11 _) (HSI.out _) (HSZ.out _) (HSO.out _) ?_; rw [World.setRow_alloc_new])
          rw [HW12.out]
          go_wp2_with (at_builtin; rw [HW13.out]; refine wpList_appendM rfl (.tmp 117) (.tmp 118) 35 rfl 42 49 FC (fun f => f.body.length = 44) kinF (by decide) (.agg (FC Fr.zero)) 88 Try.underlying35 HIR.out rfl W12.heap.size (.slice (some ⟨W12.heap.size, 0, none⟩) 0 0) [] rfl HF13.out ad7 cp7 fx (by rw [HLX.out]; rfl) HRX13.out HNX.out (by have := HLX.out; unfold maxLen; simp; omega) (by have := HLX.out; simp; omega) z13 ?_; intro v14 w14 hv14 hg14 _; rw [List.nil_append] at hv14; have hb14 := HB13.out.trans (HF13.out.grown hg14 z13); have hr14 := HRX12.out.below hb14; have z14 := hb14.size; go_wp2_with (at_builtin; refine wpList_appendM rfl (.tmp 119) (.tmp 120) 35 rfl 42 49 FC (fun f => f.body.length = 44) kinF (by decide) (.agg (FC Fr.zero)) 88 Try.underlying35 HIR.out rfl W12.heap.size v14 fx rfl hv14 ad7 cp7 fx (by rw [HLX.out]; rfl) hr14 HNX.out (by unfold maxLen; rw [HLX.out]; omega) (by rw [HLX.out]; omega) z14 ?_; intro v15 w15 hv15 hg15 _; have hb15 := hb14.trans (hv14.grown hg15 z14); rw [← HL2.out] at hv15; obtain ⟨a15, c15, e15, hr15, hn15, hc15, hm15, -⟩ := hv15.shape kinF; rw [HQ2.out] at e15; subst e15))
          have HB15 := Lib.hid hb15
          clear hb14 hr14 hv14 hg14 hv15 hg15 hb15
          refine (HRD2.out a15 c15 _ hr15 hc15 hm15).mono ?_
          rintro e16 w16 ⟨hB16, ⟨s'', p2, le2, ll2, ce2, cl2, hs2, rfl, hsn2, -, -, -⟩ | ⟨hs2, -⟩⟩
          rotate_left
          · exfalso
            have := HRD.out fx
            rw [← HL2.out, hs2] at this
            cases this
          obtain rfl : s' = s'' := by
            have := HRD.out fx
            rw [← HL2.out, hs2] at this
            exact (Option.some.inj this).symm
          have z15 := HB15.out.size
          have z16 := hB16.size
          obtain ⟨W17, hW17⟩ : ∃ W17, w16.alloc (.cells (SC s' p2) 28) = W17 := ⟨_, rfl⟩
          have hb17 : Below w16.heap.size w16 W17 := by rw [← hW17]; exact (Below.refl _ _).alloc (Nat.le_refl _) _
          have HT17 : Hid (W17.heap[w16.heap.size]? = some (.cells (SC s' p2) 28 (0, 0))) := Lib.hid (by rw [← hW17]; exact heap_alloc_new w16 _)
          have zT17 : w16.heap.size < W17.heap.size := (Array.getElem?_eq_some_iff.1 HT17.out).1
          have hb := HB15.out.trans ((hB16.trans (hb17.mono z16)).mono z15)
          have HSY17 := Lib.hid (HSN12.out.below hb)
          have HSM17 := Lib.hid (hsn2.below hb17)
          have HTY17 := Lib.hid ((hb.block w11.heap.size zT12).trans HT12.out)
          have HTA17 := Lib.hid ((hb.block waA.heap.size (by omega)).trans HTA12.out)
          have HSA17 := Lib.hid (HSA12.out.below hb)
          have HRX17 := Lib.hid (HRX12.out.below hb)
          have HB17 := Lib.hid (HB12.out.trans (hb.mono HB12.out.size))
          have HW17 := Lib.hid hW17
          clear hs2 hsn2 hB16 hW17 hb17 hb hr15 hn15 hc15 hm15
          go_upto_region 22 with (refine wpList_store_row rfl 28 _ _ rfl w16.heap.size (SC s' p2) rfl rfl 28 SZ (heap_alloc_new w16 _) (HSI.out _) (HSZ.out _) (HSO.out _) ?_; rw [World.setRow_alloc_new])
          rw [HW17.out]
          go_wp2_with (first | (refine wpList_row_on (by rfl) 28 _ rfl w11.heap.size rfl 28 _ _ _ HTY17.out Try.underlying28 rfl (HSI.out _) ?_) | (refine wpList_row_on (by rfl) 28 _ rfl waA.heap.size rfl 28 _ _ _ HTA17.out Try.underlying28 rfl HIA.out ?_))
          refine (HSM.out _ _ _ _ _ _ HSA17.out HSY17.out).mono ?_
          rintro e18 w18 ⟨rfl, hB18⟩
          have HTA18 := Lib.hid ((hB18.block waA.heap.size (by omega)).trans HTA17.out)
          have HTM18 := Lib.hid ((hB18.block w16.heap.size zT17).trans HT17.out)
          have HSA18 := Lib.hid (HSA17.out.below hB18)
          have HSM18 := Lib.hid (HSM17.out.below hB18)
          have HRX18 := Lib.hid (HRX17.out.below hB18)
          have HB18 := Lib.hid (HB17.out.trans (hB18.mono HB17.out.size))
          clear hB18
          go_wp2_with (first | (refine wpList_row_on (by rfl) 28 _ rfl w16.heap.size rfl 28 _ _ _ HTM18.out Try.underlying28 rfl (HSI.out _) ?_) | (refine wpList_row_on (by rfl) 28 _ rfl waA.heap.size rfl 28 _ _ _ HTA18.out Try.underlying28 rfl HIA.out ?_))
          refine (HSM.out _ _ _ _ _ _ HSA18.out HSM18.out).mono ?_
          rintro e19 w19 ⟨rfl, hB19⟩
          have HRX19 := Lib.hid (HRX18.out.below hB19)
          have HB19 := Lib.hid (HB18.out.trans (hB19.mono HB18.out.size))
          clear hB19
          go_upto_region 25 with (fail)
          obtain ⟨q, hq⟩ : ∃ q : Nat, max (min cut ((j : Int) - 1)) 0 = (q : Int) := ⟨(max (min cut ((j : Int) - 1)) 0).toNat, by omega⟩
          have hqj : q < j := by omega
          rw [hq]
          have hjc : j ≤ cp7 := by rw [← HLX.out]; exact HCX.out
          have hqc : q ≤ cp7 := by omega
          obtain ⟨x0, hx0⟩ : ∃ x, fx[0]? = some x := ⟨_, List.getElem?_eq_getElem (by rw [HLX.out]; omega)⟩
          obtain ⟨bx, ox, rfl, -, -, -⟩ := HRX19.out.at hx0
          have HRD3 : Hid (Calls Try.prog 27 #[.slice (some ⟨bx, ox, none⟩) q cp7] w19 (ReadPost w19 (fx.take q))) := Lib.hid (by
            have hl : (fx.take q).length = q := by rw [List.length_take, HLX.out]; omega
            have := sread_any w19 (some ⟨bx, ox, none⟩) (fx.take q) cp7 ((HRX19.out.take q).imp (fun f hf => HQX.out f (List.mem_of_mem_take hf))) (by rw [hl]; omega) (by rw [hl]; exact hqc) hcmx
            rwa [hl] at this)
          have HSZI := Lib.hid (zero_of_info Try.infoSnz).2
          have HSZO : Hid (SZ.all (·.oneCell') = true) := Lib.hid (by simp [SZ, Value.oneCell'])
          have HQJ := Lib.hid hqj
          clear hq hx0 hqj hjc
          go_wp2_with fail
          refine HRD3.out.mono ?_
          rintro e20 w20 ⟨hB20, ⟨s3, p3, le3, ll3, ce3, cl3, hs3, -⟩ | ⟨-, rfl⟩⟩
          · exfalso
            rw [HCUT.out q HQJ.out] at hs3
            cases hs3
          have HB20 := Lib.hid (HB19.out.trans ((hB20.alloc hB20.size (.cells SZ 28)).mono HB19.out.size))
          clear hB20
          go_wp2_with (refine wpList_store_row rfl 28 _ _ rfl w20.heap.size SZ rfl rfl 28 SZ (heap_alloc_new w20 _) HSZI.out rfl HSZO.out ?_; rw [World.setRow_alloc_new])
          go_ret
          exact ⟨rfl, HB20.out⟩
end Go.Proofs.Ytjnneoejnpephaa
