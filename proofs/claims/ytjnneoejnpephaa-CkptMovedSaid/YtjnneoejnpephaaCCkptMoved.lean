/- Proved here, one behind the other: Laws over any program: things are appended to a row that has no room for them: nothing that was there turns; Proved here: the walk of the law on a copy's sectors that stand elsewhere. -/
import Derived.Test.YtjnneoejnpephaaBa
import Derived.Test.YtjnneoejnpephaaBc
import Derived.Test.YtjnneoejnpephaaBn
import Derived.Test.YtjnneoejnpephaaBs
import Derived.Test.YtjnneoejnpephaaBt
import Derived.Test.YtjnneoejnpephaaBk
namespace Go.Rv
open Go.RowKit
set_option linter.unusedVariables false
theorem RowOf.flat {α : Type} {w : World} {n : Nat} {X : α → Array Value} {Q : α → Prop} {ad : Addr} {ms : List α} (hm : RowOf w n X Q (some ad) ms) (hK : Kin n X Q) (h0 : 0 < n) : ∀ j u, (flatM X ms)[j]? = some u → w.cell? (ad.add j) = some u := by
  have hq : ∀ y ∈ ms, Q y := hm.all
  intro j u hu
  have hj : j < ms.length * n := by
    have := (List.getElem?_eq_some_iff.1 hu).1
    rwa [flatM_length fun y hy => hK.size y (hq y hy)] at this
  obtain ⟨y, hy⟩ : ∃ y, ms[j / n]? = some y := ⟨_, List.getElem?_eq_getElem (by rwa [Nat.div_lt_iff_lt_mul h0])⟩
  obtain ⟨b, o, e, hb, hc, -⟩ := hm.at hy
  cases e
  have h1 := hc (j % n) (Nat.mod_lt _ h0)
  have h2 := flatM_at (fun y hy => hK.size y (hq y hy)) hy (Nat.mod_lt j h0)
  rw [Nat.div_add_mod' j n] at h2
  rw [add_lit, ← hu, h2, ← h1, Nat.add_assoc, Nat.div_add_mod' j n]
/-- things are appended, for which there is no room -/
theorem wpList_appendG {α : Type} {P : Program} {w : World} {ops : Array Oper} {rest : List Oper} {o : Oper} {a : Act} {Q' : Exit → Act → World → Prop} (hgd : o.guard = none) (s x : Operand) (t : TypeId)
    (ho : o.op = .call { callee := .builtin .append, args := #[s, x], argTypes := #[t, t] })
    (e : TypeId) (n : Nat) (X : α → Array Value) (Q : α → Prop) (hK : Kin n X Q) (h0 : 0 < n) (z : Value) (bytes : Nat) (ht : P.underlying t = some (.slice e)) (hinfo : (P.info? e).map (fun i => (i.zero, i.size, i.bytes)) = some (some z, n, bytes)) (hzs : z.cells.size = n)
    (g cap0 : Nat) (xs : List α) (hs : a.eval s = .slice (some ⟨g, 0, none⟩) xs.length cap0) (hown : RowOf w n X Q (some ⟨g, 0, none⟩) xs) (ad : Addr) (cap : Nat) (ms : List α) (hx : a.eval x = .slice (some ad) ms.length cap) (hm : RowOf w n X Q (some ad) ms)
    (hroom : cap0 < xs.length + ms.length) (h63 : xs.length + ms.length ≤ maxLen) (hbytes : (xs.length + ms.length) * bytes ≤ 140737488355328)
    (h : ∀ v' w', OwnM w' e n X Q w.heap.size v' (xs ++ ms) → Below w.heap.size w w' → wpList P ops Q' rest (a.put o.dst v') w') : wpList P ops Q' (o :: rest) a w := by
  obtain ⟨i, hi, hz, hsize, hby⟩ := info_parts hinfo
  subst hsize
  subst hby
  have hqx : ∀ y ∈ xs, Q y := hown.all
  have hqm : ∀ y ∈ ms, Q y := hm.all
  have hlx : (flatM X xs).length = xs.length * i.size := flatM_length fun y hy => hK.size y (hqx y hy)
  have hlm : (flatM X ms).length = ms.length * i.size := flatM_length fun y hy => hK.size y (hqm y hy)
  have hsmall : xs.length + ms.length ≤ 9223372036854775807 := by simp only [maxLen] at h63; omega
  refine wpList_plain hgd fun K hK' => ?_
  have hr := run_append_grow (P := P) w t o.type e i z ht hi hz ⟨g, 0, none⟩ xs.length cap0 (flatM X xs) hlx (hown.flat hK h0) ad ms.length cap (flatM X ms) hlm (hm.flat hK h0) (by omega) (by omega) (growslice_fits (by omega) hbytes)
  have hge := grownCap_ge w (xs.length + ms.length) cap0 e
  have hcm : grownCap w (xs.length + ms.length) cap0 e ≤ maxLen := grownCap_le_maxLen w (xs.length + ms.length) cap0 e h63
  have hlen : (flatM X (xs ++ ms)).length = (xs ++ ms).length * i.size := by rw [flatM_app, List.length_append, hlx, hlm, List.length_append, Nat.add_mul]
  unfold Oper.wp execOp
  simp only [ho, resolve, invoke, builtin, Sem.run_bind, Sem.run_pure, Result.andThen_ok, List.map_toArray, List.map_cons, List.map_nil, hs, hx, hr]
  refine hK' _ _ (h _ _ ⟨⟨hlen, .inr ⟨w.heap.size, _, _, by rw [List.length_append], Nat.le_refl _, heap_alloc_new w.drew _, by rw [List.length_append]; exact hge, hcm, ?_, ?_⟩⟩, fun y hy => ?_⟩ ((Below.refl w.heap.size w).drew.alloc (by simp) _))
  · simp only [Array.size_append, List.size_toArray, size_zeroCells, hzs, hlx, hlm, ← Nat.add_mul]
    congr 1
    omega
  · rw [← hlen, flatM_app]
    simp only [Array.toList_append, List.append_assoc]
    rw [← List.append_assoc]
    exact List.take_left
  · rcases List.mem_append.1 hy with hy | hy
    · exact hqx y hy
    · exact hqm y hy
end Go.Rv
namespace Go.Proofs.Ytjnneoejnpephaa
open Go.RowKit Go.Rv Frm
set_option linter.unusedVariables false
attribute [local go_sem] Oper.semAt_some
def Fact.ownS (B : Nat) (L : List (List Nat)) : Fact := ⟨fun u w => ∃ a c, u = .slice a L.length c ∧ OwnM w 77 64 byteCells Sec B (.slice a L.length c) L, fun u w w' ⟨a, c, e, h⟩ hB => ⟨a, c, e, h.below hB⟩⟩
theorem cells_ne {w : World} {g g' : Nat} {C Z : Array Value} {t t' : TypeId} (h : w.heap[g]? = some (.cells C t (0, 0))) (h' : w.heap[g']? = some (.cells Z t' (0, 0))) (ht : t ≠ t') : g ≠ g' := by
  rintro rfl
  rw [h] at h'
  cases h'
  exact ht rfl
set_option maxRecDepth 100000 in
set_option maxHeartbeats 32000000 in
theorem ck_moved_walk (w : World) (g : Geo.G) (a1 : Option Addr) (l1 : List (Int × BE)) (c1 : Nat) (gen epoch next zone : Int) (ahead : List Nat) (hah : Sec ahead) (hI1 : RowOf w 7 opC Op64 a1 l1) :
    Calls Try.prog 12 #[.agg (GC g), .slice a1 l1.length c1, .int .i64 gen, .int .i64 epoch, .int .i64 next, .int .i64 zone, .agg (byteCells ahead)] w fun e w' => e = .returned (.bool true) ∧ Below w.heap.size w w' := by
  have HA := Lib.hid (fun W => ck_anchor W)
  have HGI := Lib.hid (gsize (g := g))
  have HMA : Hid (∀ W, Below w.heap.size w W → Calls Try.prog 33 #[.agg (GC g), .slice a1 l1.length c1, .int .i64 gen, .int .i64 epoch, .int .i64 next] W (MadePost13 W g l1 gen epoch next)) := Lib.hid (fun W hW => made13_any g a1 l1 c1 gen epoch next W (hI1.below hW))
  have HNW := Lib.hid (fun (W : World) => new_any W)
  have HHO := Lib.hid (fun (W : World) => gholds_any g zone 0 W)
  have hzs := (zero_of_info Try.infoSnz).1
  have hzr := (zero_of_info Try.infoRS).1
  have hzt := (zero_of_info Try.infoTab).1
  have hzf := (zero_of_info Try.infoFrame).1
  have HIT := Lib.hid size_tab
  have HST := Lib.hid (show Tb.zero.size = Tb.tabV.size by rw [Tb.size_zero, Tb.size_tabV])
  have H1T := Lib.hid Tb.one_tabV
  have HKS := Lib.hid (fun (W : World) p le ll ce cl s h z => ksectors_any W p le ll ce cl s h z)
  have HKP := Lib.hid (fun (W : World) z a l cap h hl => kparse_any W z a l cap h hl)
  have HAT := Lib.hid (fun (W : World) => at_any ahead zone 0 W hah.1 hah.2)
  have HAH := Lib.hid hah
  have HIAH := Lib.hid (size_sec hah.1)
  have HIS3 := Lib.hid Try.infoSec3
  have hSZI := Lib.hid (zero_of_info Try.infoSnz).2
  have hSZO : Hid (SZ.all (·.oneCell') = true) := Lib.hid (by simp [SZ, Value.oneCell'])
  have hal : Below w.heap.size w ((w.alloc (.cells (GC g) 23)).alloc (.cells (byteCells ahead) 77)) := ((Below.refl _ _).alloc (Nat.le_refl _) _).alloc (by simp) _
  have hnew := heap_alloc2_old w (.cells (GC g) 23) (.cells (byteCells ahead) 77)
  have hnew2 := heap_alloc2_new w (.cells (GC g) 23) (.cells (byteCells ahead) 77)
  obtain ⟨FR, hFR⟩ : ∃ R, atF ahead zone 0 = R := ⟨_, rfl⟩
  have hfl := at_len ahead zone 0 hah.1
  rw [hFR] at HAT hfl
  obtain ⟨fA, evA⟩ := FR
  unfold FrmPost at HAT
  simp only at HAT hfl
  have HIFA := Lib.hid (size_frm hfl)
  have HOFA := Lib.hid (FC_one fA)
  have HZFA : Hid ((FC Fr.zero).size = (FC fA).size) := Lib.hid (by rw [FC_size, FC_size, hfl]; rfl)
  have HFC : Hid (∀ (W : World) (b : Nat), W.heap[b]? = some (.cells (FC fA) 42 (0, 0)) → W.cell? ⟨b, 0, none⟩ = some (.int .i64 fA.kind)) := Lib.hid (fun W b h => (frame_cells h).1)
  obtain ⟨fk, hfk⟩ : ∃ k, fA.kind = k := ⟨_, rfl⟩
  rw [hfk] at HFC
  obtain ⟨FA, hFA⟩ : ∃ F, FC fA = F := ⟨_, rfl⟩
  rw [hFA] at HAT HIFA HOFA HZFA HFC
  clear hI1 hah hFR hfl hfk hFA
  obtain ⟨TV, hTV⟩ : ∃ T, Tb.tabV = T := ⟨_, rfl⟩
  rw [hTV] at HIT HST H1T HNW HKS HKP HAT
  obtain ⟨TZ, hTZ⟩ : ∃ T, Tb.zero = T := ⟨_, rfl⟩
  rw [hTZ] at hzt HST
  obtain ⟨GX, hGX⟩ : ∃ GX, GC g = GX := ⟨_, rfl⟩
  rw [hGX] at HGI HMA HHO hal hnew hnew2 ⊢
  obtain ⟨AH, hAH⟩ : ∃ A, byteCells ahead = A := ⟨_, rfl⟩
  rw [hAH] at HAT HIAH hal hnew hnew2 ⊢
  have HAHE := Lib.hid hAH
  clear hGX hTV hTZ hAH
  obtain ⟨W00, hW00⟩ : ∃ W, (w.alloc (.cells GX 23)).alloc (.cells AH 77) = W := ⟨_, rfl⟩
  rw [hW00] at hal hnew hnew2
  have zw1 : w.heap.size + 1 < W00.heap.size := (Array.getElem?_eq_some_iff.1 hnew2).1
  have HW00 := Lib.hid hW00
  clear hW00
  go_enter Try.func12, Try.ntmps12
  go_upto_region 1 with (fail)
  rw [HW00.out]
  go_wp2_with fail
  refine (HA.out _).mono ?_
  rintro e w0 ⟨rfl, hB0⟩
  have HG0 := Lib.hid ((hB0.block w.heap.size (by omega)).trans hnew)
  have HQX0 := Lib.hid ((hB0.block (w.heap.size + 1) (by omega)).trans hnew2)
  have HQXw0 := HQX0
  have HB0 := Lib.hid (hal.trans (hB0.mono hal.size))
  have zw0 : w.heap.size < w0.heap.size := (Array.getElem?_eq_some_iff.1 HG0.out).1
  have zx0 : w.heap.size + 1 < w0.heap.size := (Array.getElem?_eq_some_iff.1 HQX0.out).1
  clear hal hnew hnew2 hB0
  go_wp2_with (refine wpList_row_on (by rfl) 23 _ rfl w.heap.size rfl 23 _ _ _ HG0.out Try.underlying23 rfl HGI.out ?_)
  refine (HMA.out _ HB0.out).mono ?_
  rintro eaA waA ⟨SA, TA, okA, rfl, ⟨i1, i2, i3⟩, ⟨j1, j2, j3⟩, hBA, hcA⟩
  have HIA := Lib.hid i1
  have HOA := Lib.hid i2
  have HZA := Lib.hid i3
  have HJA := Lib.hid j1
  have HPA := Lib.hid j2
  have HYA := Lib.hid j3
  have HCA := Lib.hid hcA
  have zbA := hBA.size
  obtain ⟨VA, hVA⟩ : ∃ V, (waA.alloc (.cells SZ 28)).alloc (.cells RZ 32) = V := ⟨_, rfl⟩
  have hvA : VA.heap[waA.heap.size]? = some (.cells SZ 28 (0, 0)) := by rw [← hVA]; exact heap_alloc2_old _ _ _
  have huA : VA.heap[waA.heap.size + 1]? = some (.cells RZ 32 (0, 0)) := by rw [← hVA]; exact heap_alloc2_new _ _ _
  have hbA : Below waA.heap.size waA VA := by rw [← hVA]; exact ((Below.refl _ _).alloc (Nat.le_refl _) _).alloc (by simp) _
  obtain ⟨UA, hUA⟩ : ∃ U, VA.setRow waA.heap.size SA = U := ⟨_, rfl⟩
  have hsA : Only [waA.heap.size] VA UA := by rw [← hUA]; exact only_setRow _ _ _
  have hrA : UA.heap[waA.heap.size]? = some (.cells SA 28 (0, 0)) := by rw [← hUA]; exact setRow_heap _ _ _ _ _ _ hvA
  have hqA := hsA.get huA (by simp)
  obtain ⟨WA, hWA⟩ : ∃ W, UA.setRow (waA.heap.size + 1) TA = W := ⟨_, rfl⟩
  have htA : Only [waA.heap.size + 1] UA WA := by rw [← hWA]; exact only_setRow _ _ _
  have HQAwA := Lib.hid (htA.get hrA (by simp))
  have HTTA : Hid (WA.heap[waA.heap.size + 1]? = some (.cells TA 32 (0, 0))) := Lib.hid (by rw [← hWA]; exact setRow_heap _ _ _ _ _ _ hqA)
  have hxA : Below waA.heap.size waA WA := hbA.trans ((hsA.below (B := waA.heap.size) (by simp) hbA.size).trans (htA.below (B := waA.heap.size) (by simp) (by have := hsA.size; have := hbA.size; omega)))
  have hyA := hBA.trans (hxA.mono zbA)
  have HGA := Lib.hid ((hyA.block w.heap.size (by omega)).trans HG0.out)
  have HBA := Lib.hid (HB0.out.trans (hyA.mono HB0.out.size))
  have HXA := Lib.hid hxA
  have HYYA := Lib.hid hyA
  have HVA := Lib.hid hVA
  have HUA := Lib.hid hUA
  have HWA := Lib.hid hWA
  have HH1A := Lib.hid hvA
  have HH2A := Lib.hid hqA
  have zzA : waA.heap.size + 1 < WA.heap.size := (Array.getElem?_eq_some_iff.1 HTTA.out).1
  have HQXwA := Lib.hid ((hyA.block (w.heap.size + 1) (by omega)).trans HQXw0.out)
  clear i1 i2 i3 j1 j2 j3 hBA hcA hVA hvA huA hbA hUA hsA hrA hqA hWA htA hxA hyA
  go_upto_region 4 with (first | (rw [show (waA.alloc (.cells SZ 28)).alloc (.cells RZ 32) = VA from HVA.out]; refine wpList_store_row rfl 28 _ _ rfl waA.heap.size SA rfl rfl 28 SZ HH1A.out HIA.out HZA.out HOA.out ?_; rw [HUA.out]) | (refine wpList_store_row rfl 32 _ _ rfl (waA.heap.size + 1) TA rfl rfl 32 RZ HH2A.out HJA.out HYA.out HPA.out ?_; rw [HWA.out]))
  have hca := HCA.out
  rcases hca with rfl | ⟨rfl, hgr, hla, hra, pa, lea, lla, va, hSA, -, hsa, -, qa1, qa2, qa3⟩
  · go_wp2
    go_ret
    exact ⟨rfl, HBA.out⟩
  obtain ⟨sa, hsaE⟩ : ∃ sa, Sn.made g l1 gen epoch next = sa := ⟨_, rfl⟩
  have hag : sa.g = g := by rw [← hsaE]; rfl
  rw [hsaE] at hSA hsa hra
  have HSA := Lib.hid (hsa.below HXA.out)
  go_wp2_with (refine wpList_row_on (by rfl) 23 _ rfl w.heap.size rfl 23 _ _ _ HGA.out Try.underlying23 rfl HGI.out ?_)
  refine (HHO.out _).mono ?_
  rintro e4 w4 ⟨rfl, hB4⟩
  have z4 := hB4.size
  have HSA4 := Lib.hid (HSA.out.below hB4)
  have HQA4 := Lib.hid ((hB4.block waA.heap.size (by omega)).trans HQAwA.out)
  have HQX4 := Lib.hid ((hB4.block (w.heap.size + 1) (by omega)).trans HQXwA.out)
  have HB4 := Lib.hid (HBA.out.trans (hB4.mono HBA.out.size))
  clear hB4
  cases hho : holdsG g zone 0
  · go_wp2
    go_ret
    exact ⟨rfl, HB4.out⟩
  have hok : sa.ok zone = true := by unfold Sn.S.ok; rw [hra, hag, hho]; rfl
  have hsm := ((Geo.right_iff _).1 hgr).1
  have hz : 0 ≤ zone ∧ zone < 512 := by
    unfold holdsG at hho
    simp only [Bool.and_eq_true, Geo.inB_iff] at hho
    have := Geo.dz_bd hsm
    omega
  obtain ⟨LA, hLA⟩ : ∃ L, Ck.secs (sa.frames zone) = L := ⟨_, rfl⟩
  have hfa : Ck.secs (sa.fr zone) = LA := by rw [← hLA]; unfold Sn.S.fr; rw [if_pos hok]
  have hea : sa.er zone = 0 := by unfold Sn.S.er; rw [if_pos hok]
  obtain ⟨m, hm⟩ : ∃ m, Sn.nParts g = m := ⟨_, rfl⟩
  have hlA : LA.length = m := by rw [← hLA, Ck.secs, List.length_map, Sn.S.frames_length sa ((Geo.right_iff _).1 hsa.hg).1, hag, hm]
  have HKA : Hid (∀ W, SnIs W pa lea lla g.b.toNat (nz g) sa → Calls Try.prog 35 #[.agg TV, .agg SA, .int .i64 zone] W fun e w' => ∃ v, e = .returned (.tuple #[v, .int .i64 0]) ∧ OwnM w' 77 64 byteCells Sec W.heap.size v LA ∧ Below W.heap.size W w') := Lib.hid (fun W h => by
    have := HKS.out W _ _ _ _ _ sa h zone
    rw [hea, hfa] at this
    rw [hSA]
    exact this)
  have HLA := Lib.hid hlA
  have hm64 : m ≤ 64 := by rw [← hm]; exact Sn.nParts_64 hgr
  have hm2 : 2 ≤ m := by rw [← hm]; exact (Sn.nParts_two hsm).1
  have HP1 : Hid (Ck.parseS zone (ahead :: LA) = none) := Lib.hid (by rw [← hLA]; exact Ck.parse_moved hsa.hg hok ahead)
  have HP2 : Hid (Ck.parseS (zone + 1) LA = none) := Lib.hid (by have := Ck.parse_other hsa.hg hok (show zone + 1 ≠ zone by omega) []; rw [List.append_nil, hLA] at this; exact this)
  clear hgr hla hra hSA hsa hok hfa hea hlA hag hsaE hLA hm hsm hho
  go_wp2_with fail
  refine (HNW.out _).mono ?_
  rintro e5 w5 ⟨rfl, hB5⟩
  have z5 := hB5.size
  obtain ⟨W6, hW6⟩ : ∃ W, w5.alloc (.cells TV 71) = W := ⟨_, rfl⟩
  have hb6 : Below w5.heap.size w5 W6 := by rw [← hW6]; exact (Below.refl _ _).alloc (Nat.le_refl _) _
  have hT6 : W6.heap[w5.heap.size]? = some (.cells TV 71 (0, 0)) := by rw [← hW6]; exact heap_alloc_new w5 _
  have zT6 : w5.heap.size < W6.heap.size := (Array.getElem?_eq_some_iff.1 hT6).1
  have hb := hB5.trans (hb6.mono z5)
  have HT6 := Lib.hid hT6
  have HSA6 := Lib.hid (HSA4.out.below hb)
  have HQA6 := Lib.hid ((hb.block waA.heap.size (by omega)).trans HQA4.out)
  have HQX6 := Lib.hid ((hb.block (w.heap.size + 1) (by omega)).trans HQX4.out)
  have HB6 := Lib.hid (HB4.out.trans (hb.mono HB4.out.size))
  have HW6 := Lib.hid hW6
  clear hB5 hW6 hb6 hT6 hb
  go_upto_region 7 with (refine wpList_store_row rfl 71 _ _ rfl w5.heap.size TV rfl rfl 71 TZ (heap_alloc_new w5 _) HIT.out HST.out H1T.out ?_; rw [World.setRow_alloc_new])
  rw [HW6.out, put_none]
  go_wp2_with (first | (refine wpList_load_row rfl 71 _ rfl w5.heap.size rfl 71 _ _ _ HT6.out Try.underlying71 rfl HIT.out ?_) | (refine wpList_load_row rfl 28 _ rfl waA.heap.size rfl 28 _ _ _ HQA6.out Try.underlying28 rfl HIA.out ?_))
  refine (HKA.out _ HSA6.out).mono ?_
  rintro e7 w7 ⟨v7, rfl, ho7, hB7⟩
  have z7 := hB7.size
  have HT7 := Lib.hid ((hB7.block w5.heap.size zT6).trans HT6.out)
  have HQX7 := Lib.hid ((hB7.block (w.heap.size + 1) (by omega)).trans HQX6.out)
  have HB7 := Lib.hid (HB6.out.trans (hB7.mono HB6.out.size))
  obtain ⟨aA, cA, rfl, hrA, -, -, -, -⟩ := ho7.shape kinB
  have HRA := Lib.hid hrA
  rw [HLA.out]
  clear hB7 ho7 hrA
  obtain ⟨x0, hx0⟩ : ∃ x, LA[0]? = some x := ⟨_, List.getElem?_eq_getElem (by rw [HLA.out]; omega)⟩
  obtain ⟨bA, oA, rfl, -, -, -⟩ := HRA.out.at hx0
  obtain ⟨L5, hL5⟩ : ∃ L, ahead :: LA = L := ⟨_, rfl⟩
  have hl5 : L5.length = m + 1 := by rw [← hL5, List.length_cons, HLA.out]
  rw [hL5] at HP1
  have HL5 := Lib.hid hL5
  have HN5 := Lib.hid hl5
  have HPA : Hid (∀ W a c, RowOf W 64 byteCells Sec a L5 → Calls Try.prog 38 #[.agg TV, .int .i64 zone, .slice a L5.length c] W fun e w' => e = .returned (.tuple #[.agg SZ, .int .i64 10]) ∧ Below W.heap.size W w') := Lib.hid (fun W a c h => by
    refine (HKP.out W zone a L5 c h (by rw [HN5.out]; omega)).mono ?_
    rintro e w' ⟨hB, ⟨s, p, le, ll, ce, cl, hs, -⟩ | ⟨-, he⟩⟩
    · rw [HP1.out] at hs; cases hs
    · exact ⟨he, hB⟩)
  have HPB : Hid (∀ W a c, RowOf W 64 byteCells Sec a LA → Calls Try.prog 38 #[.agg TV, .int .i64 (zone + 1), .slice a m c] W fun e w' => e = .returned (.tuple #[.agg SZ, .int .i64 10]) ∧ Below W.heap.size W w') := Lib.hid (fun W a c h => by
    rw [← HLA.out]
    refine (HKP.out W (zone + 1) a LA c h (by rw [HLA.out]; omega)).mono ?_
    rintro e w' ⟨hB, ⟨s, p, le, ll, ce, cl, hs, -⟩ | ⟨-, he⟩⟩
    · rw [HP2.out] at hs; cases hs
    · exact ⟨he, hB⟩)
  clear hx0 hL5 hl5
  go_upto_region 10 with (fail)
  refine wp_region_conf8 12 [Fact.eq (.agg TV), Fact.eq (.int .i64 zone), Fact.eq (.agg AH), Fact.rowI w7.heap.size AH 1 77, Fact.eq (.slice (some ⟨bA, oA, none⟩) m cA), Fact.ownS w7.heap.size L5, Fact.eq (.tuple #[.agg SZ, .int .i64 10]), Fact.eq (.tuple #[.agg SZ, .int .i64 10]), Fact.eq (.agg SZ), Fact.eq (.int .i64 10), Fact.eq undef, Fact.eq undef] 10 11 SZ SZ 28 ?rcA (by kernel_rfl) (by kernel_rfl) (by kernel_rfl) ?rchA ?rchs ?rcho ?rchend
  case rchA =>
    intro vv
    simp only [putRules, Nat.reduceAdd]
    rfl
  case rchs =>
    intro j u W g hj hg hr hp
    match j, hj with
    | 0, _ => exact hp
    | 1, _ => exact hp
    | 2, _ => exact hp
    | 3, _ => obtain ⟨g3, e3, b3, r3⟩ := hp; exact ⟨g3, e3, b3, (only_setRow W g SZ).get r3 (by have := cells_ne r3 hr (by decide); simpa using this)⟩
    | 4, _ => exact hp
    | 5, _ => obtain ⟨a5, c5, e5, o5⟩ := hp; exact ⟨a5, c5, e5, o5.only (only_setRow W g SZ) (fun k hk => by obtain ⟨-, C, hC⟩ := o5.base_le hk; have := cells_ne hC hr (by decide); simpa using this)⟩
    | 6, _ => exact hp
    | 7, _ => exact hp
    | 8, _ => exact hp
    | 9, _ => exact hp
    | 10, _ => exact hp
    | 11, _ => exact hp
  case rcho =>
    refine ⟨?_, ?_, ?_, ?_, ?_, ?_, ?_, ?_, ?_, ?_, ?_, ?_, trivial⟩
    · intro vv W K hB hd HK
      simp only [confRules, conf8Rules, cond7] at HK
      clear hd
      have hT := (hB.block w5.heap.size (by omega)).trans HT7.out
      go_wp2_with (refine wpList_load_row rfl 71 _ rfl w5.heap.size rfl 71 _ _ _ hT Try.underlying71 rfl HIT.out ?_)
      refine HK.out _ _ (Below.refl _ _) ?_
      rfl
    · intro vv W K hB hd HK
      simp only [confRules, conf8Rules, cond7] at HK
      clear hd
      go_wp2
      refine HK.out _ _ (Below.refl _ _) ?_
      rfl
    · intro vv W K hB hd HK
      simp only [confRules, conf8Rules, cond7] at HK
      clear hd
      have hT := (hB.block (w.heap.size + 1) (by omega)).trans HQX7.out
      go_wp2_with (refine wpList_load_row rfl 77 _ rfl (w.heap.size + 1) rfl 77 _ _ _ hT Try.underlying77 rfl HIAH.out ?_)
      refine HK.out _ _ (Below.refl _ _) ?_
      rfl
    · intro vv W K hB hd HK
      simp only [confRules, conf8Rules, cond7] at hd HK
      have h2 := hd
      clear hd
      simp only [h2] at HK ⊢
      clear h2
      go_wp2_with (refine wpList_slice1s rfl (.tmp 60) rfl ahead HAH.out.1 (congrArg Value.agg HAHE.out.symm) ?_; rw [HAHE.out])
      refine HK.out _ _ ((Below.refl _ _).alloc (Nat.le_refl _) _) ?_
      exact ⟨_, rfl, hB.size, heap_alloc_new _ _⟩
    · intro vv W K hB hd HK
      simp only [confRules, conf8Rules, cond7] at HK
      clear hd
      go_wp2
      refine HK.out _ _ (Below.refl _ _) ?_
      rfl
    · intro vv W K hB hd HK
      simp only [confRules, conf8Rules, cond7] at hd HK
      obtain ⟨⟨g3, h3, b3, r3⟩, h4⟩ := hd
      simp only [h3, h4] at HK ⊢
      clear h3 h4
      have hr1 : RowOf W 64 byteCells Sec (some ⟨g3, 0, none⟩) [ahead] := one_rowOf (t := 77) (fr := (0, 0)) (by rw [HAHE.out]; exact r3) HAH.out
      have hr2 := HRA.out.below hB
      go_wp2_with (at_builtin; refine wpList_appendG rfl (.tmp 61) (.tmp 62) 73 rfl 77 64 byteCells Sec kinB (by decide) (.agg (byteCells (List.replicate 64 0))) 64 Try.underlying73 HIS3.out rfl g3 1 [ahead] rfl hr1 ⟨bA, oA, none⟩ cA LA (by rw [HLA.out]; rfl) hr2 (by rw [HLA.out]; simp; omega) (by rw [HLA.out]; unfold maxLen; simp; omega) (by rw [HLA.out]; simp; omega) ?_; intro v5 w5' hv5 hB5')
      obtain ⟨a5, c5, e5, -, -, -, -, -⟩ := hv5.shape kinB
      subst e5
      refine HK.out _ _ hB5' ?_
      rw [show [ahead] ++ LA = L5 from HL5.out] at hv5 ⊢
      exact ⟨a5, c5, rfl, hv5.mono hB.size⟩
    · intro vv W K hB hd HK
      simp only [confRules, conf8Rules, cond7] at hd HK
      obtain ⟨h0, h1, ⟨a5, c5, h5, o5⟩, _⟩ := hd
      simp only [h0, h1, h5] at HK ⊢
      clear h0 h1 h5
      go_wp2_with (refine (HPA.out _ _ _ (by obtain ⟨a6, c6, e6, hr6, -⟩ := o5.shape kinB; cases e6; exact hr6)).mono ?_; rintro e w9 ⟨rfl, hB9⟩)
      refine HK.out _ _ hB9 ?_
      rfl
    · intro vv W K hB hd HK
      simp only [confRules, conf8Rules, cond7] at hd HK
      have h6 := hd
      clear hd
      simp only [h6] at HK ⊢
      clear h6
      go_wp2
      refine HK.out _ _ (Below.refl _ _) ?_
      rfl
    · intro vv W K hB hd HK
      simp only [confRules, conf8Rules, cond7] at hd HK
      have h7 := hd
      clear hd
      simp only [h7] at HK ⊢
      clear h7
      go_wp2
      refine HK.out _ _ (Below.refl _ _) ?_
      rfl
    · intro vv W K hB hd HK
      simp only [confRules, conf8Rules, cond7] at hd HK
      have h7 := hd
      clear hd
      simp only [h7] at HK ⊢
      clear h7
      go_wp2
      refine HK.out _ _ (Below.refl _ _) ?_
      rfl
    · intro vv W K hB hd HK
      simp only [confRules, conf8Rules, cond7] at HK
      clear hd
      go_wp2
      refine HK.out _ _ hB.size ((Below.refl _ _).alloc (Nat.le_refl _) _) (heap_alloc_new _ _)
    · intro vv W K g hB hg hr hp hd HK
      simp only [confRules, conf8Rules, cond7] at hd HK
      obtain ⟨h8, h6, h0, h1, h2, ⟨g3, h3, b3, r3⟩, h4, ⟨a5, c5, h5, o5⟩, _, h7, _⟩ := hd
      simp only [hp, h8, h6, h0, h1, h2, h3, h4, h5, h7] at HK ⊢
      clear h8 h6 h0 h1 h2 h3 h4 h5 h7
      go_wp2_with (refine wpList_store_row rfl 28 _ _ rfl g SZ rfl rfl 28 SZ hr hSZI.out rfl hSZO.out ?_)
      refine HK.out _ _ rfl ?_
      rfl
  case rchend =>
    intro vv W g10 hB hf e10 l10 r10
    have e9 := hf 9 (by decide) (by decide)
    simp only [conf8Rules] at e9
    simp only [e9, e10, dropRules]
    clear hf e10 e9
    have HTW := Lib.hid ((hB.block w5.heap.size (by omega)).trans HT7.out)
    have HQXW := Lib.hid ((hB.block (w.heap.size + 1) (by omega)).trans HQX7.out)
    have HRAW := Lib.hid (HRA.out.below hB)
    have HBW := Lib.hid (HB7.out.trans (hB.mono HB7.out.size))
    have zW := hB.size
    clear hB r10
    go_wp2_with (refine wpList_load_row rfl 71 _ rfl w5.heap.size rfl 71 _ _ _ HTW.out Try.underlying71 rfl HIT.out ?_)
    refine (HPB.out _ _ _ HRAW.out).mono ?_
    rintro e8 w8 ⟨rfl, hB8⟩
    have z8 := hB8.size
    obtain ⟨W9, hW9⟩ : ∃ W, w8.alloc (.cells SZ 28) = W := ⟨_, rfl⟩
    have hb9 : Below w8.heap.size w8 W9 := by rw [← hW9]; exact (Below.refl _ _).alloc (Nat.le_refl _) _
    have hb := hB8.trans (hb9.mono z8)
    have HT9 := Lib.hid ((hb.block w5.heap.size (by omega)).trans HTW.out)
    have HQX9 := Lib.hid ((hb.block (w.heap.size + 1) (by omega)).trans HQXW.out)
    have HB9 := Lib.hid (HBW.out.trans (hb.mono HBW.out.size))
    have HW9 := Lib.hid hW9
    clear hB8 hb9 hb hW9
    go_upto_region 12 with (refine wpList_store_row rfl 28 _ _ rfl w8.heap.size SZ rfl rfl 28 SZ (heap_alloc_new w8 _) hSZI.out rfl hSZO.out ?_; rw [World.setRow_alloc_new])
    rw [HW9.out]
    go_wp2_with (first | (refine wpList_load_row rfl 71 _ rfl w5.heap.size rfl 71 _ _ _ HT9.out Try.underlying71 rfl HIT.out ?_) | (refine wpList_load_row rfl 77 _ rfl (w.heap.size + 1) rfl 77 _ _ _ HQX9.out Try.underlying77 rfl HIAH.out ?_))
    refine (HAT.out _).mono ?_
    rintro e10 w10 ⟨rfl, hB10⟩
    have z10 := hB10.size
    obtain ⟨W11, hW11⟩ : ∃ W, w10.alloc (.cells FA 42) = W := ⟨_, rfl⟩
    have hb11 : Below w10.heap.size w10 W11 := by rw [← hW11]; exact (Below.refl _ _).alloc (Nat.le_refl _) _
    have hF11 : W11.heap[w10.heap.size]? = some (.cells FA 42 (0, 0)) := by rw [← hW11]; exact heap_alloc_new w10 _
    have d0 := HFC.out _ _ hF11
    have HB11 := Lib.hid (HB9.out.trans ((hB10.trans (hb11.mono z10)).mono HB9.out.size))
    have HW11 := Lib.hid hW11
    clear hB10 hb11 hW11 hF11
    go_upto_region 13 with (refine wpList_store_row rfl 42 _ _ rfl w10.heap.size FA rfl rfl 42 (FC Fr.zero) (heap_alloc_new w10 _) HIFA.out HZFA.out HOFA.out ?_; rw [World.setRow_alloc_new])
    rw [HW11.out]
    by_cases hev : evA = 0
    · have t1 : (evA == 0) = true := by simp [hev]
      clear hev
      by_cases hk : fk = 4
      · have t2 : (fk == 4) = true := by simp [hk]
        clear hk
        go_wp2
        go_ret
        exact ⟨rfl, HB11.out⟩
      · have t2 : (fk == 4) = false := by simp [hk]
        clear hk
        go_wp2
        go_ret
        exact ⟨rfl, HB11.out⟩
    · have t1 : (evA == 0) = false := by simp [hev]
      clear hev
      go_wp2
      go_ret
      exact ⟨rfl, HB11.out⟩
end Go.Proofs.Ytjnneoejnpephaa
