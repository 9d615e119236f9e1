/- Proved here, one behind the other: Proved here: contracts of the frame's within and Right, and of the document's Right; Proved here: the walk of the law on a snapshot's frames for two zones. -/
import Derived.Test.YtjnneoejnpephaaBa
import Derived.Test.YtjnneoejnpephaaBc
import Derived.Test.YtjnneoejnpephaaBn
import Derived.Test.YtjnneoejnpephaaBs
import Derived.Test.YtjnneoejnpephaaBt
namespace Go.Proofs.Ytjnneoejnpephaa
open Go.RowKit Go.Rv Frm
set_option linter.unusedVariables false
/-- is it one from a to b? -/
def inB (n a b : Int) : Bool := decide (a ≤ n) && decide (n ≤ b)
set_option maxRecDepth 100000 in
set_option maxHeartbeats 400000 in
theorem fwithin_any (n a b : Int) (w : World) :
    Calls Try.prog 51 #[.int .i64 n, .int .i64 a, .int .i64 b] w fun e w' => e = .returned (.bool (inB n a b)) ∧ w = w' := by
  unfold inB
  cases h1 : decide (a ≤ n)
  · go_enter Try.func51, Try.ntmps51
    go_wp2
    go_ret
    exact ⟨rfl, rfl⟩
  · go_enter Try.func51, Try.ntmps51
    go_wp2
    go_ret
    exact ⟨rfl, rfl⟩
theorem right_eq (f : Fr) : rightF f = (inB f.kind 1 5 && inB f.zone 0 65535 && inB f.off 0 65535 && inB f.epoch 1 4294967295 && inB f.seq 0 281474976710655) := by
  rw [Bool.eq_iff_iff]
  simp only [rightF, inB, Bool.and_eq_true, decide_eq_true_eq]
  constructor
  · rintro ⟨h1, h2, h3, h4, h5, h6, h7, h8, h9, h10⟩
    exact ⟨⟨⟨⟨⟨h1, h2⟩, ⟨h3, h4⟩⟩, ⟨h5, h6⟩⟩, ⟨h7, h8⟩⟩, ⟨h9, h10⟩⟩
  · rintro ⟨⟨⟨⟨⟨h1, h2⟩, ⟨h3, h4⟩⟩, ⟨h5, h6⟩⟩, ⟨h7, h8⟩⟩, ⟨h9, h10⟩⟩
    exact ⟨h1, h2, h3, h4, h5, h6, h7, h8, h9, h10⟩
set_option maxRecDepth 100000 in
set_option maxHeartbeats 1000000 in
theorem fright_any (f : Fr) (w : World) :
    Calls Try.prog 20 #[.agg (FC f)] w fun e w' => e = .returned (.bool (rightF f)) ∧ Below w.heap.size w w' := by
  have hg := heap_alloc_new w (.cells (FC f) 42)
  obtain ⟨c0, c1, c2, c3, c4⟩ := frame_cells hg
  have hB : Below w.heap.size w (w.alloc (.cells (FC f) 42)) := (Below.refl _ _).alloc (Nat.le_refl _) _
  have HR := Lib.hid (right_eq f)
  have H0 := Lib.hid (fun W => fwithin_any f.kind 1 5 W)
  have H1 := Lib.hid (fun W => fwithin_any f.zone 0 65535 W)
  have H2 := Lib.hid (fun W => fwithin_any f.off 0 65535 W)
  have H3 := Lib.hid (fun W => fwithin_any f.epoch 1 4294967295 W)
  have H4 := Lib.hid (fun W => fwithin_any f.seq 0 281474976710655 W)
  generalize inB f.kind 1 5 = b0 at *
  generalize inB f.zone 0 65535 = b1 at *
  generalize inB f.off 0 65535 = b2 at *
  generalize inB f.epoch 1 4294967295 = b3 at *
  generalize inB f.seq 0 281474976710655 = b4 at *
  generalize FC f = C at *
  clear hg
  go_enter Try.func20, Try.ntmps20
  go_wp2_with fail
  refine (H0.out _).mono ?_
  rintro e w' ⟨rfl, rfl⟩
  cases b0
  · go_wp2
    go_ret
    exact ⟨by rw [HR.out]; rfl, hB⟩
  · go_wp2_with fail
    refine (H1.out _).mono ?_
    rintro e w' ⟨rfl, rfl⟩
    cases b1
    · go_wp2
      go_ret
      exact ⟨by rw [HR.out]; rfl, hB⟩
    · go_wp2_with fail
      refine (H2.out _).mono ?_
      rintro e w' ⟨rfl, rfl⟩
      cases b2
      · go_wp2
        go_ret
        exact ⟨by rw [HR.out]; rfl, hB⟩
      · go_wp2_with fail
        refine (H3.out _).mono ?_
        rintro e w' ⟨rfl, rfl⟩
        cases b3
        · go_wp2
          go_ret
          exact ⟨by rw [HR.out]; rfl, hB⟩
        · go_wp2_with fail
          refine (H4.out _).mono ?_
          rintro e w' ⟨rfl, rfl⟩
          go_wp2
          go_ret
          exact ⟨by rw [HR.out]; rfl, hB⟩
end Go.Proofs.Ytjnneoejnpephaa
namespace Sn
open Go.Proofs.Ytjnneoejnpephaa Frm
theorem frames_zone (s : S) (a b : Int) {k : Nat} {x : Fr} (h : (s.frames a)[k]? = some x) : (s.frames b)[k]? = some { x with zone := b } ∧ x.off = (k : Int) ∧ x.zone = a := by
  unfold S.frames Sn.frames at h ⊢
  cases k with
  | zero =>
    simp only [List.getElem?_cons_zero, Option.some.injEq] at h ⊢
    subst h
    exact ⟨rfl, rfl, rfl⟩
  | succ k =>
    simp only [List.getElem?_cons_succ, List.getElem?_map] at h ⊢
    cases hk : (List.range (nParts s.g - 1))[k]? with
    | none => rw [hk] at h; simp at h
    | some i =>
      have hi : i = k := by
        obtain ⟨h1, h2⟩ := List.getElem?_eq_some_iff.1 hk
        simpa using h2.symm
      subst hi
      rw [hk] at h
      simp only [Option.map_some, Option.some.injEq] at h ⊢
      subst h
      exact ⟨rfl, rfl, rfl⟩
theorem S.ok_eq (s : S) (zone : Int) : s.ok zone = (s.right && holdsG s.g zone 0) := rfl
end Sn
namespace Go.Proofs.Ytjnneoejnpephaa
open Go.RowKit Go.Rv Frm
set_option linter.unusedVariables false
attribute [local go_sem] Oper.semAt_some
theorem FC_zone (x : Fr) (a b : Int) (hz : x.zone = a) : (FC { x with zone := b }).setIfInBounds 1 (.int .i64 a) = FC x := by
  obtain ⟨k, z, o, e, s, l⟩ := x
  simp only at hz
  subst hz
  unfold FC
  simp
set_option maxRecDepth 100000 in
set_option maxHeartbeats 16000000 in
theorem sn_zones_walk (w : World) (g : Geo.G) (a1 : Option Addr) (l1 : List (Int × BE)) (c1 : Nat) (za zb : Int) (hI1 : RowOf w 7 opC Op64 a1 l1) :
    Calls Try.prog 3 #[.agg (GC g), .slice a1 l1.length c1, .int .i64 za, .int .i64 zb] w fun e w' => e = .returned (.bool true) ∧ Below w.heap.size w w' := by
  have HA := Lib.hid (fun W => sn_anchor W)
  have HGI := Lib.hid (gsize (g := g))
  have HMA : Hid (∀ W, Below w.heap.size w W → Calls Try.prog 16 #[.agg (GC g), .slice a1 l1.length c1, .int .i64 3, .int .i64 2, .int .i64 281474976710655] W (MadePost W g l1 3 2 281474976710655)) := Lib.hid (fun W hW => made12_any g a1 l1 c1 3 2 281474976710655 W (hI1.below hW))
  have HHD := Lib.hid (fun (z : Int) (W : World) => gholds_any g z 0 W)
  have HPT := Lib.hid (fun (h : Geo.Small g) (W : World) => gparts_any g W h)
  have hzs := (zero_of_info Try.infoSnz).1
  have hzr := (zero_of_info Try.infoRS).1
  have hzf := (zero_of_info Try.infoFrame).1
  have hal := (Below.refl w.heap.size w).alloc (Nat.le_refl _) (.cells (GC g) 23)
  have hnew := heap_alloc_new w (.cells (GC g) 23)
  clear hI1
  obtain ⟨GX, hGX⟩ : ∃ GX, GC g = GX := ⟨_, rfl⟩
  rw [hGX] at HGI HMA HHD HPT hal hnew ⊢
  clear hGX
  go_enter Try.func3, Try.ntmps3
  go_wp2_with fail
  refine (HA.out _).mono ?_
  rintro e w0 ⟨rfl, hB0⟩
  have HG0 := Lib.hid ((hB0.block w.heap.size (by simp)).trans hnew)
  have HB0 := Lib.hid (hal.trans (hB0.mono hal.size))
  have zw0 : w.heap.size < w0.heap.size := (Array.getElem?_eq_some_iff.1 HG0.out).1
  clear hal hnew hB0
  go_wp2_with (refine wpList_row_on (by rfl) 23 _ rfl w.heap.size rfl 23 _ _ _ HG0.out Try.underlying23 rfl HGI.out ?_)
  refine (HMA.out _ HB0.out).mono ?_
  rintro eaA waA ⟨SA, TA, okA, rfl, ⟨i1, i2, i3⟩, ⟨j1, j2, j3⟩, hBA, hcA⟩
  have HIA := Lib.hid i1
  have HOA := Lib.hid i2
  have HZA := Lib.hid i3
  have HJA := Lib.hid j1
  have HPA := Lib.hid j2
  have HYA := Lib.hid j3
  have HCA := Lib.hid hcA
  have zbA := hBA.size
  obtain ⟨VA, hVA⟩ : ∃ V, (waA.alloc (.cells SZ 28)).alloc (.cells RZ 32) = V := ⟨_, rfl⟩
  have hvA : VA.heap[waA.heap.size]? = some (.cells SZ 28 (0, 0)) := by rw [← hVA]; exact heap_alloc2_old _ _ _
  have huA : VA.heap[waA.heap.size + 1]? = some (.cells RZ 32 (0, 0)) := by rw [← hVA]; exact heap_alloc2_new _ _ _
  have hbA : Below waA.heap.size waA VA := by rw [← hVA]; exact ((Below.refl _ _).alloc (Nat.le_refl _) _).alloc (by simp) _
  obtain ⟨UA, hUA⟩ : ∃ U, VA.setRow waA.heap.size SA = U := ⟨_, rfl⟩
  have hsA : Only [waA.heap.size] VA UA := by rw [← hUA]; exact only_setRow _ _ _
  have hrA : UA.heap[waA.heap.size]? = some (.cells SA 28 (0, 0)) := by rw [← hUA]; exact setRow_heap _ _ _ _ _ _ hvA
  have hqA := hsA.get huA (by simp)
  obtain ⟨WA, hWA⟩ : ∃ W, UA.setRow (waA.heap.size + 1) TA = W := ⟨_, rfl⟩
  have htA : Only [waA.heap.size + 1] UA WA := by rw [← hWA]; exact only_setRow _ _ _
  have HQAwA := Lib.hid (htA.get hrA (by simp))
  have HTTA : Hid (WA.heap[waA.heap.size + 1]? = some (.cells TA 32 (0, 0))) := Lib.hid (by rw [← hWA]; exact setRow_heap _ _ _ _ _ _ hqA)
  have hxA : Below waA.heap.size waA WA := hbA.trans ((hsA.below (B := waA.heap.size) (by simp) hbA.size).trans (htA.below (B := waA.heap.size) (by simp) (by have := hsA.size; have := hbA.size; omega)))
  have hyA := hBA.trans (hxA.mono zbA)
  have HGA := Lib.hid ((hyA.block w.heap.size (by omega)).trans HG0.out)
  have HBA := Lib.hid (HB0.out.trans (hyA.mono HB0.out.size))
  have HXA := Lib.hid hxA
  have HYYA := Lib.hid hyA
  have HVA := Lib.hid hVA
  have HUA := Lib.hid hUA
  have HWA := Lib.hid hWA
  have HH1A := Lib.hid hvA
  have HH2A := Lib.hid hqA
  have zzA : waA.heap.size + 1 < WA.heap.size := (Array.getElem?_eq_some_iff.1 HTTA.out).1
  clear i1 i2 i3 j1 j2 j3 hBA hcA hVA hvA huA hbA hUA hsA hrA hqA hWA htA hxA hyA
  go_upto_region 4 with (first | (rw [show (waA.alloc (.cells SZ 28)).alloc (.cells RZ 32) = VA from HVA.out]; refine wpList_store_row rfl 28 _ _ rfl waA.heap.size SA rfl rfl 28 SZ HH1A.out HIA.out HZA.out HOA.out ?_; rw [HUA.out]) | (refine wpList_store_row rfl 32 _ _ rfl (waA.heap.size + 1) TA rfl rfl 32 RZ HH2A.out HJA.out HYA.out HPA.out ?_; rw [HWA.out]))
  have hca := HCA.out
  rcases hca with ⟨rfl, -⟩ | ⟨rfl, hgr, hla, pa, lea, lla, va, hSA, -, hsa, -, qa1, qa2, qa3⟩
  · go_wp2
    go_ret
    exact ⟨rfl, HBA.out⟩
  obtain ⟨sa, hsaE⟩ : ∃ sa, Sn.made g l1 3 2 281474976710655 = sa := ⟨_, rfl⟩
  have hag : sa.g = g := by rw [← hsaE]; rfl
  rw [hsaE] at hSA hsa
  have HSA := Lib.hid (hsa.below HXA.out)
  have hsm := ((Geo.right_iff _).1 hgr).1
  have hlen : sa.es.length ≤ 100000 := by have h3 := hsa.ok.len; have := ((Geo.right_iff _).1 hsa.hg).1.2.2.2.1.2; omega
  have HRA : Hid (∀ W, SnIs W pa lea lla g.b.toNat (nz g) sa → Calls Try.prog 18 #[.agg SA] W fun e w' => e = .returned (.bool sa.right) ∧ Below W.heap.size W w') := Lib.hid (fun W h => by rw [hSA]; exact sright_any W pa lea lla _ _ sa.g sa.es _ h.bm hlen sa.gen sa.epoch sa.next)
  have HFA : Hid (∀ (z : Int) W, SnIs W pa lea lla g.b.toNat (nz g) sa → Calls Try.prog 17 #[.agg SA, .int .i64 z] W (FramesPost W sa z)) := Lib.hid (fun z W h => by rw [hSA]; exact sframes_any W pa lea lla _ _ sa h z)
  have HGR := Lib.hid hgr
  have HAG := Lib.hid hag
  have HOKE : Hid (∀ z, sa.ok z = (sa.right && holdsG g z 0)) := Lib.hid (fun z => by rw [Sn.S.ok_eq, hag])
  have HPA : Hid (∀ W, Calls Try.prog 21 #[.agg GX] W fun e w' => e = .returned (.int .i64 (Sn.nParts g : Nat)) ∧ Below W.heap.size W w') := Lib.hid (fun W => by rw [Sn.nParts_cast hsm]; exact HPT.out hsm W)
  clear hgr hla hSA hsa hlen hsaE hag hsm
  go_wp2_with (refine wpList_row_on (by rfl) 28 _ rfl waA.heap.size rfl 28 _ _ _ HQAwA.out Try.underlying28 rfl HIA.out ?_)
  refine (HFA.out _ _ HSA.out).mono ?_
  rintro e7 w7 ⟨v7, rfl, ho7, hB7⟩
  have z7 := hB7.size
  have HO7 := Lib.hid ho7
  have HSA7 := Lib.hid (HSA.out.below hB7)
  have HTA7 := Lib.hid ((hB7.block waA.heap.size (by omega)).trans HQAwA.out)
  have HG7 := Lib.hid ((hB7.block w.heap.size (by omega)).trans HGA.out)
  have HB7 := Lib.hid (HBA.out.trans (hB7.mono HBA.out.size))
  obtain ⟨ad7, cp7, rfl, -, -, -, -, -⟩ := ho7.shape kinF
  clear ho7 hB7
  go_wp2_with (refine wpList_row_on (by rfl) 28 _ rfl waA.heap.size rfl 28 _ _ _ HTA7.out Try.underlying28 rfl HIA.out ?_)
  refine (HFA.out _ _ HSA7.out).mono ?_
  rintro e8 w8 ⟨v8, rfl, ho8, hB8⟩
  have z8 := hB8.size
  have HOA8 := Lib.hid (HO7.out.below hB8)
  have HOB8 := Lib.hid ho8
  have HSA8 := Lib.hid (HSA7.out.below hB8)
  have HTA8 := Lib.hid ((hB8.block waA.heap.size (by omega)).trans HTA7.out)
  have HG8 := Lib.hid ((hB8.block w.heap.size (by omega)).trans HG7.out)
  have HB8 := Lib.hid (HB7.out.trans (hB8.mono HB7.out.size))
  obtain ⟨ad8, cp8, rfl, -, -, -, -, -⟩ := ho8.shape kinF
  clear ho8 hB8
  have hcase : (sa.er za = 10 ∧ (sa.right = false ∨ (sa.right = true ∧ holdsG g za 0 = false))) ∨ (sa.er za = 0 ∧ sa.er zb = 10 ∧ sa.right = true ∧ holdsG g za 0 = true ∧ holdsG g zb 0 = false) ∨ (sa.er za = 0 ∧ sa.er zb = 0 ∧ sa.ok za = true ∧ sa.ok zb = true) := by
    have e1 := HOKE.out za
    have e2 := HOKE.out zb
    unfold Sn.S.er
    cases hr : sa.right
    · rw [hr] at e1
      left
      rw [e1]
      exact ⟨rfl, .inl rfl⟩
    · cases h1 : holdsG g za 0
      · rw [hr, h1] at e1
        left
        rw [e1]
        exact ⟨rfl, .inr ⟨rfl, rfl⟩⟩
      · rw [hr, h1] at e1
        cases h2 : holdsG g zb 0
        · rw [hr, h2] at e2
          right; left
          rw [e1, e2]
          exact ⟨rfl, rfl, rfl, rfl, rfl⟩
        · rw [hr, h2] at e2
          right; right
          rw [e1, e2]
          exact ⟨rfl, rfl, rfl, rfl⟩
  rcases hcase with ⟨e1, hc⟩ | ⟨e1, e2, hr, h1, h2⟩ | ⟨e1, e2, k1, k2⟩
  · rw [e1]
    clear e1
    go_upto_region 9 with (fail)
    go_wp2_with (refine wpList_row_on (by rfl) 28 _ rfl waA.heap.size rfl 28 _ _ _ HTA8.out Try.underlying28 rfl HIA.out ?_)
    refine (HRA.out _ HSA8.out).mono ?_
    rintro e9 w9 ⟨rfl, hB9⟩
    have z9 := hB9.size
    have HG9 := Lib.hid ((hB9.block w.heap.size (by omega)).trans HG8.out)
    have HB9 := Lib.hid (HB8.out.trans (hB9.mono HB8.out.size))
    clear hB9
    rcases hc with hr | ⟨hr, h1⟩
    · rw [hr]
      clear hr
      go_wp2
      go_ret
      exact ⟨rfl, HB9.out⟩
    · rw [hr]
      have HHA := Lib.hid (HHD.out za w9)
      rw [h1] at HHA
      clear hr h1
      go_wp2_with (refine wpList_row_on (by rfl) 23 _ rfl w.heap.size rfl 23 _ _ _ HG9.out Try.underlying23 rfl HGI.out ?_)
      refine HHA.out.mono ?_
      rintro e10 w10 ⟨rfl, hB10⟩
      have HB10 := Lib.hid (HB9.out.trans (hB10.mono HB9.out.size))
      clear hB10
      go_wp2
      go_ret
      exact ⟨rfl, HB10.out⟩
  · rw [e1, e2]
    clear e1 e2
    go_upto_region 9 with (fail)
    go_wp2_with (refine wpList_row_on (by rfl) 28 _ rfl waA.heap.size rfl 28 _ _ _ HTA8.out Try.underlying28 rfl HIA.out ?_)
    refine (HRA.out _ HSA8.out).mono ?_
    rintro e9 w9 ⟨rfl, hB9⟩
    have z9 := hB9.size
    have HG9 := Lib.hid ((hB9.block w.heap.size (by omega)).trans HG8.out)
    have HB9 := Lib.hid (HB8.out.trans (hB9.mono HB8.out.size))
    have HHA := Lib.hid (HHD.out za w9)
    rw [h1] at HHA
    rw [hr]
    clear hB9 hr h1
    go_wp2_with (refine wpList_row_on (by rfl) 23 _ rfl w.heap.size rfl 23 _ _ _ HG9.out Try.underlying23 rfl HGI.out ?_)
    refine HHA.out.mono ?_
    rintro e10 w10 ⟨rfl, hB10⟩
    have z10 := hB10.size
    have HG10 := Lib.hid ((hB10.block w.heap.size (by omega)).trans HG9.out)
    have HB10 := Lib.hid (HB9.out.trans (hB10.mono HB9.out.size))
    have HHB := Lib.hid (HHD.out zb w10)
    rw [h2] at HHB
    clear hB10 h2
    go_wp2_with (refine wpList_row_on (by rfl) 23 _ rfl w.heap.size rfl 23 _ _ _ HG10.out Try.underlying23 rfl HGI.out ?_)
    refine HHB.out.mono ?_
    rintro e11 w11 ⟨rfl, hB11⟩
    have HB11 := Lib.hid (HB10.out.trans (hB11.mono HB10.out.size))
    clear hB11
    go_wp2
    go_ret
    exact ⟨rfl, HB11.out⟩
  · have hga : Geo.right sa.g = true := by rw [HAG.out]; exact HGR.out
    have f1 : sa.fr za = sa.frames za := by unfold Sn.S.fr; rw [k1]; rfl
    have f2 : sa.fr zb = sa.frames zb := by unfold Sn.S.fr; rw [k2]; rfl
    have hlx := Sn.S.frames_length sa ((Geo.right_iff _).1 hga).1 za
    have hly := Sn.S.frames_length sa ((Geo.right_iff _).1 hga).1 zb
    rw [HAG.out] at hlx hly
    have HQX : Hid (∀ f ∈ sa.frames za, FrQ f ∧ rightF f = true) := Lib.hid (fun f hf => ⟨⟨(Sn.frames_right hga k1 f hf).1, (Sn.frames_right hga k1 f hf).2.1⟩, (Sn.frames_right hga k1 f hf).2.2⟩)
    have HZN := Lib.hid (fun (k : Nat) (x : Fr) (h : (sa.frames za)[k]? = some x) => Sn.frames_zone sa za zb h)
    rw [f1] at HOA8
    rw [f2] at HOB8
    rw [e1, e2, f1, f2]
    obtain ⟨fx, hfx⟩ : ∃ l, sa.frames za = l := ⟨_, rfl⟩
    obtain ⟨fy, hfy⟩ : ∃ l, sa.frames zb = l := ⟨_, rfl⟩
    rw [hfx] at HOA8 hlx HQX HZN
    rw [hfy] at HOB8 hly HZN
    rw [hfx, hfy, hlx, hly]
    obtain ⟨m, hm⟩ : ∃ m, Sn.nParts g = m := ⟨_, rfl⟩
    have hm64 := Sn.nParts_64 HGR.out
    rw [hm] at hlx hly HPA hm64
    rw [hm]
    have HLX := Lib.hid hlx
    obtain ⟨ax', cx', e8', hrx, -, -, -, -⟩ := HOA8.out.shape kinF
    cases e8'
    obtain ⟨ay', cy', e8', hry, -, -, -, -⟩ := HOB8.out.shape kinF
    cases e8'
    have HRX := Lib.hid hrx
    have HRY := Lib.hid hry
    clear hga f1 f2 k1 k2 e1 e2 hlx hly hfx hfy hm hrx hry
    go_wp2
    go_loopw [64] (fun u wr => ∃ j : Nat, j ≤ m ∧ u = .int .i64 j ∧ Below w8.heap.size w8 wr) (fun u _ => m - (intOf u).toNat)
    case atStart => exact ⟨0, Nat.zero_le _, rfl, Below.refl _ _⟩
    case round =>
      obtain ⟨j, hj, rfl, hBr⟩ := hrel
      have zr := hBr.size
      have HBR := Lib.hid hBr
      have HBwr := Lib.hid (HB8.out.trans (hBr.mono HB8.out.size))
      have hGr := (hBr.block w.heap.size (by omega)).trans HG8.out
      clear hBr
      by_cases hjt : j < m
      · obtain ⟨x, hx⟩ : ∃ x, fx[j]? = some x := ⟨_, List.getElem?_eq_getElem (by rw [HLX.out]; exact hjt)⟩
        obtain ⟨hy, hxo, hxz⟩ := HZN.out j x hx
        obtain ⟨hqx, hxr⟩ := HQX.out x (List.mem_of_getElem? hx)
        obtain ⟨bx, ox, rfl, -, -, -⟩ := HRX.out.at hx
        obtain ⟨bY, oY, rfl, -, -, -⟩ := HRY.out.at hy
        have HGX : Hid (∀ W, Below wr.heap.size wr W → W.rangeAt bx (ox + j * 49) (FC x).toList) := Lib.hid (fun W hW => ((HRX.out.below HBR.out).below hW).range hx (by rw [FC_size, hqx.1.1]))
        have hgy := (HRY.out.below HBR.out).range hy (by rw [FC_size]; exact congrArg (5 + ·) hqx.1.1)
        have HC1 : Hid (∀ W, Below wr.heap.size wr W → W.cell? ⟨bx, ox + j * 49 + 1, none⟩ = some (.int .i64 za) ∧ W.cell? ⟨bx, ox + j * 49 + 2, none⟩ = some (.int .i64 (j : Nat))) := Lib.hid (fun W hW => ⟨HGX.out W hW 1 _ (by rw [Array.getElem?_toList, ← hxz]; exact (FC_num x).2.1), HGX.out W hW 2 _ (by rw [Array.getElem?_toList, ← hxo]; exact (FC_num x).2.2.1)⟩)
        have hix : (Try.prog.info? 42).map (·.size) = some (FC x).toList.length := by rw [FC_len hqx.1.1]; exact (zero_of_info Try.infoFrame).2
        have hiy : (Try.prog.info? 42).map (·.size) = some (FC { x with zone := zb }).toList.length := by rw [FC_len (f := { x with zone := zb }) hqx.1.1]; exact (zero_of_info Try.infoFrame).2
        have hicx := size_frq hqx.1.1
        have hicy := size_frq (f := { x with zone := zb }) hqx.1.1
        have hocy := FC_one { x with zone := zb }
        have hzcy : (FC Fr.zero).size = (FC { x with zone := zb }).size := by rw [FC_size, FC_size]; show 5 + 44 = 5 + x.body.length; rw [hqx.1.1]
        have hset := FC_zone x za zb hxz
        have HEQ := Lib.hid (fun W => eq_frame x x hqx.1 hqx.1 hqx.2 hqx.2 true (by simp) W)
        have HFR := Lib.hid (fun W => fright_any x W)
        rw [hxr] at HFR
        have c1y : ∀ W : World, W.heap[wr.heap.size]? = some (.cells (FC { x with zone := zb }) 42 (0, 0)) → W.cell? ⟨wr.heap.size, 1, none⟩ = some (.int .i64 zb) := fun W h => (cell_of_row _ _ _ _ _ _ h).trans (FC_num _).2.1
        obtain ⟨XL, hXL⟩ : ∃ XL, (FC x).toList = XL := ⟨_, rfl⟩
        have hXC : FC x = XL.toArray := by rw [← hXL]
        obtain ⟨YL, hYL⟩ : ∃ YL, (FC { x with zone := zb }).toList = YL := ⟨_, rfl⟩
        have hYC : FC { x with zone := zb } = YL.toArray := by rw [← hYL]
        rw [hXL] at HGX hix
        rw [hYL] at hgy hiy
        rw [hXC] at hicx HEQ HFR hset
        rw [hYC] at hicy hocy hzcy hset c1y
        have HGY := Lib.hid hgy
        have HIXL := Lib.hid hix
        have HIYL := Lib.hid hiy
        have HICX := Lib.hid hicx
        have HICY := Lib.hid hicy
        have HOCY := Lib.hid hocy
        have HZCY := Lib.hid hzcy
        obtain ⟨W9, hW9⟩ : ∃ W9, wr.alloc (.cells YL.toArray 42) = W9 := ⟨_, rfl⟩
        have hb9 : Below wr.heap.size wr W9 := by rw [← hW9]; exact (Below.refl _ _).alloc (Nat.le_refl _) _
        have hF9 : W9.heap[wr.heap.size]? = some (.cells YL.toArray 42 (0, 0)) := by rw [← hW9]; exact heap_alloc_new wr _
        have d1 := c1y _ hF9
        have d1f := frozen_of_row _ wr.heap.size 1 _ _ hF9
        have hF10 := heap_setCell_same W9 wr.heap.size 1 _ _ (.int .i64 za) hF9
        rw [hset] at hF10
        obtain ⟨W10, hW10⟩ : ∃ W10, W9.setCell ⟨wr.heap.size, 1, none⟩ (.int .i64 za) = W10 := ⟨_, rfl⟩
        rw [hW10] at hF10
        have hb10 : Below wr.heap.size wr W10 := by
          have h : Only [wr.heap.size] W9 W10 := by rw [← hW10]; exact (Only.refl _ _).setCell (.inl (by simp)) _
          exact hb9.trans (h.below (B := wr.heap.size) (by simp) hb9.size)
        have HB10 := Lib.hid hb10
        have HF10 := Lib.hid hF10
        have HW9 := Lib.hid hW9
        have HW10 := Lib.hid hW10
        have zF10 : wr.heap.size < W10.heap.size := (Array.getElem?_eq_some_iff.1 hF10).1
        have t0 : decide ((j : Int) < (m : Int)) = true := decide_eq_true (by omega)
        clear hx hy hxo hxz hqx hxr hgy hix hiy hicx hicy hocy hzcy hset c1y hXL hXC hYL hYC hW9 hb9 hF9 hF10 hW10 hb10 hGr
        go_upto_region 14 with (first | (refine wpList_load_mid rfl 42 _ rfl bY (oY + j * 49) rfl YL _ HGY.out Try.underlying42 rfl HIYL.out ?_) | (refine wpList_store_row rfl 42 _ _ rfl wr.heap.size YL.toArray rfl rfl 42 (FC Fr.zero) (heap_alloc_new wr _) HICY.out HZCY.out HOCY.out ?_; rw [World.setRow_alloc_new]))
        rw [HW9.out]
        go_upto_region 15 with (fail)
        rw [HW10.out]
        clear t0 d1 d1f
        refine wp_region_conf2 31 [Fact.eq (.slice (some ⟨bx, ox, none⟩) m cp7), Fact.eq (.int .i64 (j : Nat)), Fact.eq (.pointer (some ⟨bx, ox + j * 49, none⟩)), Fact.eq (.agg XL.toArray), Fact.eq (.agg XL.toArray), Fact.eq (.bool false), Fact.eq (.bool false), Fact.eq (.slice (some ⟨bx, ox, none⟩) m cp7), Fact.eq (.int .i64 (j : Nat)), Fact.eq (.pointer (some ⟨bx, ox + j * 49, none⟩)), Fact.eq (.pointer (some ⟨bx, ox + j * 49 + 2, none⟩)), Fact.eq (.int .i64 (j : Nat)), Fact.eq (.int .i64 (j : Nat)), Fact.eq (.bool false), Fact.eq (.bool false), Fact.eq (.bool false), Fact.eq (.slice (some ⟨bx, ox, none⟩) m cp7), Fact.eq (.int .i64 (j : Nat)), Fact.eq (.pointer (some ⟨bx, ox + j * 49, none⟩)), Fact.eq (.pointer (some ⟨bx, ox + j * 49 + 1, none⟩)), Fact.eq (.int .i64 za), Fact.eq (.int .i64 za), Fact.eq (.bool false), Fact.eq (.bool false), Fact.eq (.bool false), Fact.eq (.slice (some ⟨bx, ox, none⟩) m cp7), Fact.eq (.int .i64 (j : Nat)), Fact.eq (.pointer (some ⟨bx, ox + j * 49, none⟩)), Fact.eq (.agg XL.toArray), Fact.eq (.bool true), Fact.eq (.bool false)] ?raA (by kernel_rfl) (by kernel_rfl) ?rahA ?raho ?rahend
        case rahA =>
          intro vv
          simp only [putRules, Nat.reduceAdd]
          rfl
        case raho =>
          refine ⟨?_, ?_, ?_, ?_, ?_, ?_, ?_, ?_, ?_, ?_, ?_, ?_, ?_, ?_, ?_, ?_, ?_, ?_, ?_, ?_, ?_, ?_, ?_, ?_, ?_, ?_, ?_, ?_, ?_, ?_, ?_, trivial⟩
          · intro vv W K hB hd HK
            simp only [confRules] at HK
            clear hd
            go_wp2
            refine HK.out _ _ (Below.refl _ _) ?_
            rfl
          · intro vv W K hB hd HK
            simp only [confRules] at HK
            clear hd
            go_wp2
            refine HK.out _ _ (Below.refl _ _) ?_
            rfl
          · intro vv W K hB hd HK
            simp only [confRules] at hd HK
            obtain ⟨h0, h1⟩ := hd
            simp only [h0, h1] at HK ⊢
            clear h0 h1
            go_wp2
            refine HK.out _ _ (Below.refl _ _) ?_
            rfl
          · intro vv W K hB hd HK
            simp only [confRules] at hd HK
            have h2 := hd
            clear hd
            simp only [h2] at HK ⊢
            clear h2
            have hT := HGX.out _ (HB10.out.trans (hB.mono HB10.out.size))
            go_wp2_with (refine wpList_load_mid rfl 42 _ rfl bx (ox + j * 49) rfl XL _ hT Try.underlying42 rfl HIXL.out ?_)
            refine HK.out _ _ (Below.refl _ _) ?_
            rfl
          · intro vv W K hB hd HK
            simp only [confRules] at HK
            clear hd
            have hT := (hB.block wr.heap.size zF10).trans HF10.out
            go_wp2_with (refine wpList_row_on (by rfl) 42 _ rfl wr.heap.size rfl 42 _ _ _ hT Try.underlying42 rfl HICX.out ?_)
            refine HK.out _ _ (Below.refl _ _) ?_
            rfl
          · intro vv W K hB hd HK
            simp only [confRules] at hd HK
            obtain ⟨h3, h4⟩ := hd
            simp only [h3, h4] at HK ⊢
            clear h3 h4
            go_wp2_with (refine wpList_neq_on (by rfl) 42 42 _ _ rfl XL.toArray XL.toArray rfl rfl (by kernel_rfl) true HEQ.out ?_)
            refine HK.out _ _ (Below.refl _ _) ?_
            rfl
          · intro vv W K hB hd HK
            simp only [confRules] at hd HK
            have h5 := hd
            clear hd
            simp only [h5] at HK ⊢
            clear h5
            go_wp2
            refine HK.out _ _ (Below.refl _ _) ?_
            rfl
          · intro vv W K hB hd HK
            simp only [confRules] at hd HK
            have h6 := hd
            clear hd
            simp only [h6] at HK ⊢
            clear h6
            refine wpList_guard_yes (by rfl) ?_
            go_wp2
            refine HK.out _ _ (Below.refl _ _) ?_
            rfl
          · intro vv W K hB hd HK
            simp only [confRules] at hd HK
            have h6 := hd
            clear hd
            simp only [h6] at HK ⊢
            clear h6
            refine wpList_guard_yes (by rfl) ?_
            go_wp2
            refine HK.out _ _ (Below.refl _ _) ?_
            rfl
          · intro vv W K hB hd HK
            simp only [confRules] at hd HK
            obtain ⟨h7, h8, h6⟩ := hd
            simp only [h7, h8, h6] at HK ⊢
            clear h7 h8 h6
            refine wpList_guard_yes (by rfl) ?_
            go_wp2
            refine HK.out _ _ (Below.refl _ _) ?_
            rfl
          · intro vv W K hB hd HK
            simp only [confRules] at hd HK
            obtain ⟨h9, h6⟩ := hd
            simp only [h9, h6] at HK ⊢
            clear h9 h6
            refine wpList_guard_yes (by rfl) ?_
            go_wp2
            refine HK.out _ _ (Below.refl _ _) ?_
            rfl
          · intro vv W K hB hd HK
            simp only [confRules] at hd HK
            obtain ⟨h10, h6⟩ := hd
            simp only [h10, h6] at HK ⊢
            clear h10 h6
            refine wpList_guard_yes (by rfl) ?_
            have c2 := (HC1.out _ (HB10.out.trans (hB.mono HB10.out.size))).2
            go_wp2
            refine HK.out _ _ (Below.refl _ _) ?_
            rfl
          · intro vv W K hB hd HK
            simp only [confRules] at hd HK
            have h6 := hd
            clear hd
            simp only [h6] at HK ⊢
            clear h6
            refine wpList_guard_yes (by rfl) ?_
            go_wp2
            refine HK.out _ _ (Below.refl _ _) ?_
            rfl
          · intro vv W K hB hd HK
            simp only [confRules] at hd HK
            obtain ⟨h11, h12, h6⟩ := hd
            simp only [h11, h12, h6] at HK ⊢
            clear h11 h12 h6
            refine wpList_guard_yes (by rfl) ?_
            go_wp2
            refine HK.out _ _ (Below.refl _ _) ?_
            first | rfl | exact congrArg Value.bool (by simp)
          · intro vv W K hB hd HK
            simp only [confRules] at hd HK
            obtain ⟨h6, h13⟩ := hd
            simp only [h6, h13] at HK ⊢
            clear h6 h13
            go_wp2
            refine HK.out _ _ (Below.refl _ _) ?_
            rfl
          · intro vv W K hB hd HK
            simp only [confRules] at hd HK
            obtain ⟨h14, h6⟩ := hd
            simp only [h14, h6] at HK ⊢
            clear h14 h6
            go_wp2
            refine HK.out _ _ (Below.refl _ _) ?_
            rfl
          · intro vv W K hB hd HK
            simp only [confRules] at hd HK
            have h15 := hd
            clear hd
            simp only [h15] at HK ⊢
            clear h15
            refine wpList_guard_yes (by rfl) ?_
            go_wp2
            refine HK.out _ _ (Below.refl _ _) ?_
            rfl
          · intro vv W K hB hd HK
            simp only [confRules] at hd HK
            have h15 := hd
            clear hd
            simp only [h15] at HK ⊢
            clear h15
            refine wpList_guard_yes (by rfl) ?_
            go_wp2
            refine HK.out _ _ (Below.refl _ _) ?_
            rfl
          · intro vv W K hB hd HK
            simp only [confRules] at hd HK
            obtain ⟨h16, h17, h15⟩ := hd
            simp only [h16, h17, h15] at HK ⊢
            clear h16 h17 h15
            refine wpList_guard_yes (by rfl) ?_
            go_wp2
            refine HK.out _ _ (Below.refl _ _) ?_
            rfl
          · intro vv W K hB hd HK
            simp only [confRules] at hd HK
            obtain ⟨h18, h15⟩ := hd
            simp only [h18, h15] at HK ⊢
            clear h18 h15
            refine wpList_guard_yes (by rfl) ?_
            go_wp2
            refine HK.out _ _ (Below.refl _ _) ?_
            rfl
          · intro vv W K hB hd HK
            simp only [confRules] at hd HK
            obtain ⟨h19, h15⟩ := hd
            simp only [h19, h15] at HK ⊢
            clear h19 h15
            refine wpList_guard_yes (by rfl) ?_
            have c1 := (HC1.out _ (HB10.out.trans (hB.mono HB10.out.size))).1
            go_wp2
            refine HK.out _ _ (Below.refl _ _) ?_
            rfl
          · intro vv W K hB hd HK
            simp only [confRules] at hd HK
            have h15 := hd
            clear hd
            simp only [h15] at HK ⊢
            clear h15
            refine wpList_guard_yes (by rfl) ?_
            go_wp2
            refine HK.out _ _ (Below.refl _ _) ?_
            rfl
          · intro vv W K hB hd HK
            simp only [confRules] at hd HK
            obtain ⟨h20, h21, h15⟩ := hd
            simp only [h20, h21, h15] at HK ⊢
            clear h20 h21 h15
            refine wpList_guard_yes (by rfl) ?_
            go_wp2
            refine HK.out _ _ (Below.refl _ _) ?_
            first | rfl | exact congrArg Value.bool (by simp)
          · intro vv W K hB hd HK
            simp only [confRules] at hd HK
            obtain ⟨h15, h22⟩ := hd
            simp only [h15, h22] at HK ⊢
            clear h15 h22
            go_wp2
            refine HK.out _ _ (Below.refl _ _) ?_
            rfl
          · intro vv W K hB hd HK
            simp only [confRules] at hd HK
            obtain ⟨h23, h15⟩ := hd
            simp only [h23, h15] at HK ⊢
            clear h23 h15
            go_wp2
            refine HK.out _ _ (Below.refl _ _) ?_
            rfl
          · intro vv W K hB hd HK
            simp only [confRules] at hd HK
            have h24 := hd
            clear hd
            simp only [h24] at HK ⊢
            clear h24
            refine wpList_guard_yes (by rfl) ?_
            go_wp2
            refine HK.out _ _ (Below.refl _ _) ?_
            rfl
          · intro vv W K hB hd HK
            simp only [confRules] at hd HK
            have h24 := hd
            clear hd
            simp only [h24] at HK ⊢
            clear h24
            refine wpList_guard_yes (by rfl) ?_
            go_wp2
            refine HK.out _ _ (Below.refl _ _) ?_
            rfl
          · intro vv W K hB hd HK
            simp only [confRules] at hd HK
            obtain ⟨h25, h26, h24⟩ := hd
            simp only [h25, h26, h24] at HK ⊢
            clear h25 h26 h24
            refine wpList_guard_yes (by rfl) ?_
            go_wp2
            refine HK.out _ _ (Below.refl _ _) ?_
            rfl
          · intro vv W K hB hd HK
            simp only [confRules] at hd HK
            obtain ⟨h27, h24⟩ := hd
            simp only [h27, h24] at HK ⊢
            clear h27 h24
            refine wpList_guard_yes (by rfl) ?_
            have hT := HGX.out _ (HB10.out.trans (hB.mono HB10.out.size))
            go_wp2_with (refine wpList_load_mid rfl 42 _ rfl bx (ox + j * 49) rfl XL _ hT Try.underlying42 rfl HIXL.out ?_)
            refine HK.out _ _ (Below.refl _ _) ?_
            rfl
          · intro vv W K hB hd HK
            simp only [confRules] at hd HK
            obtain ⟨h28, h24, _⟩ := hd
            simp only [h28, h24] at HK ⊢
            clear h28 h24
            refine wpList_guard_yes (by rfl) ?_
            go_wp2_with (refine (HFR.out _).mono ?_; rintro e w9 ⟨rfl, hB9⟩)
            refine HK.out _ _ hB9 ?_
            rfl
          · intro vv W K hB hd HK
            simp only [confRules] at hd HK
            obtain ⟨h29, h24⟩ := hd
            simp only [h29, h24] at HK ⊢
            clear h29 h24
            refine wpList_guard_yes (by rfl) ?_
            go_wp2
            refine HK.out _ _ (Below.refl _ _) ?_
            first | rfl | exact congrArg Value.bool (by simp)
        case rahend =>
          intro vv W hB hf
          have e24 := hf 24 (by decide)
          have e30 := hf 30 (by decide)
          simp only [endRules] at e24 e30
          simp only [e24, e30, dropRules]
          clear hf e24 e30
          have HBW := Lib.hid (HB10.out.trans (hB.mono HB10.out.size))
          clear hB
          go_wp2
          go_roundw
          case rel => exact ⟨j + 1, by omega, by go_num, HBR.out.trans (HBW.out.mono HBR.out.size)⟩
          case measure => simp [intOf]; omega
      · obtain rfl : j = m := by omega
        go_wp2_with (refine wpList_row_on (by rfl) 23 _ rfl w.heap.size rfl 23 _ _ _ hGr Try.underlying23 rfl HGI.out ?_)
        refine (HPA.out _).mono ?_
        rintro e9 w9 ⟨rfl, hB9⟩
        have HB9 := Lib.hid (HBwr.out.trans (hB9.mono HBwr.out.size))
        clear hB9
        go_wp2
        go_ret
        exact ⟨rfl, HB9.out⟩
end Go.Proofs.Ytjnneoejnpephaa
