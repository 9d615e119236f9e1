/- Proved here, one behind the other: Proved here: a snapshot is rolled on by a list (roll's Run); Laws over any program: a range over a function whose iterator reads some blocks and keeps no cells of its own from round to round; a round may write cells wherever it likes but in those blocks; Proved here: a map's entries, one by one (slices.All), for rounds that write cells of their own; Laws over any program, inside a round: things are appended to a row of the call's own; a slice is built out of its parts; Proved here: a snapshot that is made of a geometry and a list of entries, and its entries as the document has them (law 17's 'made'); A law over any program: a region that draws its order, in which one operation makes a block, one stores a row into it that a slot tells, in an open order, and the others turn nothing: with facts of all other slots; Proved here: what Run gives, as facts of a drawn region: they outlast new blocks and the store of a result; Proved here: the laws' anchor (the document's example): both copies of a group of two Data, and the first alone; Proved here: the laws' anchor: both copies of a group of two Data, and the first alone; Arguments that are frames or sectors, by their cells; Proved here: the items and the lists of the laws on what a log says, as they come in. -/
import Derived.LoopTactic
import Derived.Maps.OwnIn
import Derived.Great.BuildSlice
import Derived.WalkLawsBesides
import Derived.OpenShut
import Derived.Test.YtoiephmngdecaaaQa
import Derived.Test.YtoiephmngdecaaaQb
import Derived.Test.YtoiephmngdecaaaQc
import Derived.Test.YtoiephmngdecaaaQd
import Derived.Test.YtoiephmngdecaaaQe
import Derived.Test.YtoiephmngdecaaaQf
import Derived.Test.YtoiephmngdecaaaQg
namespace Go.Proofs.Ytoiephmngdecaaa
open Go.RowKit Go.Rv Rl Frm
set_option linter.unusedVariables false
attribute [local go_sem] Oper.semAt_some
set_option maxRecDepth 100000 in
set_option maxHeartbeats 8000000 in
theorem rrun_no (w : World) (p le ll ce cl : Nat) (g : Geo.G) (es : List BE) (lv : List Int) (h : BmIs w p le ll ce cl g es lv) (hn : es.length ≤ 100000) (gen epoch next : Int) (hr : Sn.right gen epoch next es = false) (a : Option Addr) (n cap : Nat) :
    Calls Try.prog 11 #[.agg Tb.tabV, .agg (SnC gen epoch next p), .slice a n cap] w fun e w' => e = .returned (.tuple #[.agg ResZ, .int .i64 10]) ∧ Below w.heap.size w w' := by
  have hzr := (zero_of_info Try.infoRes).1
  have HSI := Lib.hid (snsize gen epoch next p)
  have HRI := Lib.hid (zero_of_info Try.infoRes).2
  have hBR := built_resz
  have HBZ := Lib.hid hBR
  have HRIT : Hid (∀ W, Below w.heap.size w W → Calls Try.prog 26 #[.agg (SnC gen epoch next p)] W fun e w' => e = .returned (.bool false) ∧ Below W.heap.size W w') := Lib.hid (fun W hW => by have := sright_any W p le ll ce cl g es lv (h.below hW) hn gen epoch next; rwa [hr] at this)
  obtain ⟨TV, hTV⟩ : ∃ T, Tb.tabV = T := ⟨_, rfl⟩
  obtain ⟨SX, hSX⟩ : ∃ X, SnC gen epoch next p = X := ⟨_, rfl⟩
  rw [hTV]
  rw [hSX] at HSI HRIT ⊢
  obtain ⟨W1, hW1⟩ : ∃ W, w.alloc (.cells TV 41) = W := ⟨_, rfl⟩
  have hb1 : Below w.heap.size w W1 := by rw [← hW1]; exact (Below.refl _ _).alloc (Nat.le_refl _) _
  have zs1 : W1.heap.size = w.heap.size + 1 := by rw [← hW1]; simp
  obtain ⟨W2, hW2⟩ : ∃ W, W1.alloc (.cells SX 29) = W := ⟨_, rfl⟩
  have hb2 : Below W1.heap.size W1 W2 := by rw [← hW2]; exact (Below.refl _ _).alloc (Nat.le_refl _) _
  have hs2 : W2.heap[W1.heap.size]? = some (.cells SX 29 (0, 0)) := by rw [← hW2]; exact heap_alloc_new W1 _
  have zs2 : W1.heap.size < W2.heap.size := (Array.getElem?_eq_some_iff.1 hs2).1
  have ze2 : W2.heap.size = w.heap.size + 1 + 1 := by rw [← hW2, ← hW1]; simp
  obtain ⟨W3, hW3⟩ : ∃ W, W2.alloc (.cells ResZ 35) = W := ⟨_, rfl⟩
  have hb3 : Below W2.heap.size W2 W3 := by rw [← hW3]; exact (Below.refl _ _).alloc (Nat.le_refl _) _
  have hr3 : W3.heap[W2.heap.size]? = some (.cells ResZ 35 (0, 0)) := by rw [← hW3]; exact heap_alloc_new W2 _
  have hs3 := (hb3.block _ zs2).trans hs2
  have hB3 : Below w.heap.size w W3 := (hb1.trans (hb2.mono (by omega))).trans (hb3.mono (by omega))
  have zr3 : W2.heap.size < W3.heap.size := (Array.getElem?_eq_some_iff.1 hr3).1
  have HW1 := Lib.hid hW1
  have HW2 := Lib.hid hW2
  have HW3 := Lib.hid hW3
  have HS3 := Lib.hid hs3
  have HR3 := Lib.hid hr3
  have HB3 := Lib.hid hB3
  clear h hn hr hTV hSX hW1 hb1 hW2 hb2 hs2 hW3 hb3 hr3 hs3 hB3
  go_enter Try.func11, Try.ntmps11
  go_upto_region 1 with (fail)
  rw [HW1.out, HW2.out, HW3.out]
  rw [ze2] at HR3 zr3 zs2
  rw [zs1] at HS3 zs2
  clear ze2 zs1
  obtain ⟨b6, hb6⟩ : ∃ b, w.heap.size + 1 + 1 = b := ⟨_, rfl⟩
  obtain ⟨b4, hb4⟩ : ∃ b, w.heap.size + 1 = b := ⟨_, rfl⟩
  have hw4 : w.heap.size < b4 := by omega
  rw [hb6] at HR3 zr3 zs2 ⊢
  rw [hb4] at HS3 zs2 ⊢
  clear hb4 hb6
  go_wp2_with (refine wpList_load_row rfl 29 _ rfl b4 rfl 29 _ _ _ HS3.out Try.underlying29 rfl HSI.out ?_)
  refine (HRIT.out _ HB3.out).mono ?_
  rintro e1 w1 ⟨rfl, hB1⟩
  have z1 := hB1.size
  have HR1 := Lib.hid ((hB1.block _ zr3).trans HR3.out)
  have HB1 := Lib.hid (HB3.out.trans (hB1.mono HB3.out.size))
  clear hB1
  go_upto_region 2 with (fail)
  go_wp2_with (first | (refine wpList_build_on (by rfl) 35 _ rfl #[] (by simp) _ HBZ.out ?_) | (refine wpList_store_row rfl 35 _ _ rfl b6 ResZ rfl rfl 35 ResZ HR1.out HRI.out rfl (by simp [ResZ, Value.oneCell']) ?_))
  have hf := setRow_heap _ _ _ ResZ _ _ HR1.out
  refine bodyPost_ret (res_row_tmp rfl _ _ b6 35 ResZ _ _ rfl hf Try.underlying35 rfl HRI.out) rfl ?_
  exact ⟨rfl, below_setRow HB1.out (by omega) _⟩
set_option maxRecDepth 100000 in
set_option maxHeartbeats 64000000 in
theorem rrun_any (w : World) (p le ll ce cl : Nat) (g : Geo.G) (es : List BE) (hgr : Geo.right g = true) (h : BmIs w p le ll ce cl g es (liveL (nz g) es)) (hok : MapOk g es) (gen epoch next : Int) (hr : Sn.right gen epoch next es = true) (a : Option Addr) (fs : List Fnd) (cap : Nat) (hI : RowOf w 51 fndC FndQ a fs) (hl : fs.length ≤ 1000) :
    Calls Try.prog 11 #[.agg Tb.tabV, .agg (SnC gen epoch next p), .slice a fs.length cap] w (RunPost w g es next (recs g epoch next fs)) := by
  have hsm := ((Geo.right_iff g).1 hgr).1
  have hgb := hsm.2.2.2.1
  have hn := hok.len
  have hnx : 1 ≤ next ∧ next ≤ 281474976710655 := by
    unfold Sn.right Sn.nums at hr
    simp only [Bool.and_eq_true, Geo.inB_iff] at hr
    exact hr.1.2.2
  have hzr := (zero_of_info Try.infoRes).1
  have hzc := (zero_of_info Try.infoCh).1
  have HSI := Lib.hid (snsize gen epoch next p)
  have HTI : Hid ((Try.prog.info? 41).map (·.size) = some Tb.tabV.size) := Lib.hid size_tab
  have HRI := Lib.hid (fun p next applied v u => ressize p next applied v u)
  have HZL := Lib.hid (zero_of_info Try.infoRecs).1
  have HRIT : Hid (∀ W, Below w.heap.size w W → Calls Try.prog 26 #[.agg (SnC gen epoch next p)] W fun e w' => e = .returned (.bool true) ∧ Below W.heap.size W w') := Lib.hid (fun W hW => by have := sright_any W p le ll ce cl g es _ (h.below hW) (by omega) gen epoch next; rwa [hr] at this)
  have HREC : Hid (∀ W, Below w.heap.size w W → Calls Try.prog 27 #[.agg (SnC gen epoch next p), .slice a fs.length cap] W fun e w' => ∃ mb u V, e = .returned (.tuple #[.map (some mb), u]) ∧ OwnM w' 3 1 iC (fun _ => True) W.heap.size u (zonesOf (recs g epoch next fs)) ∧ ByIs w' W.heap.size mb (recs g epoch next fs) V ∧ Below W.heap.size W w') := Lib.hid (fun W hW => rrecords_any W p le ll ce cl g es _ (h.below hW) gen epoch next a fs cap (hI.below hW) hl)
  have hes : es ≠ [] := by intro e; rw [e] at hn; simp at hn; omega
  have hlv : liveL (nz g) es ≠ [] := by
    intro e
    have h1 := congrArg List.length e
    rw [liveL_length] at h1
    have h2 := Geo.dz_bd hsm
    unfold nz at h1
    simp at h1
    omega
  have hlvl : (liveL (nz g) es).length ≤ 100000 := by
    rw [liveL_length]
    have h2 := Geo.dz_bd hsm
    unfold nz
    omega
  have HCP : Hid (∀ W, Below w.heap.size w W → Calls Try.prog 28 #[.pointer (some ⟨p, 0, none⟩)] W fun x w' => ∃ p' le' ll' ce' cl', x = .returned (.pointer (some ⟨p', 0, none⟩)) ∧ BmIs w' p' le' ll' ce' cl' g es (liveL (nz g) es) ∧ W.heap.size ≤ p' ∧ W.heap.size ≤ le' ∧ W.heap.size ≤ ll' ∧ Below W.heap.size W w') := Lib.hid (fun W hW => bcopy_any W p le ll ce cl g es _ (h.below hW) hes hlv (by omega) hlvl)
  have HGM : Hid (∀ W, Below w.heap.size w W → Calls Try.prog 29 #[.pointer (some ⟨p, 0, none⟩)] W fun x w' => x = .returned (.agg (GC g)) ∧ Below W.heap.size W w') := Lib.hid (fun W hW => bgeom_any W p le ll ce cl g es _ (h.below hW))
  obtain ⟨n, hgn⟩ : ∃ n, g.b.toNat = n := ⟨_, rfl⟩
  have hbn : g.b = (n : Int) := by omega
  have HGF : Hid (∀ W, (Instr.field 23 (.agg (GC g)) 3).run Try.prog W = .ok (.int .i64 (n : Nat)) W) := Lib.hid (fun W => by rw [gfield_bR, hbn])
  have HMK := Lib.hid (fun W => mk_sing n (by omega) W)
  have hRok : ∀ x ∈ recs g epoch next fs, RecOk g x.2 := fun x hx => (recs_ok (fun f hf => (hI.all f hf).2.2.1) x hx).1
  obtain ⟨R, hRE⟩ : ∃ R, recs g epoch next fs = R := ⟨_, rfl⟩
  have hRl : R.length ≤ 1000 := by rw [← hRE]; exact Nat.le_trans (recs_length _ _ _ _) hl
  rw [hRE] at hRok HREC
  rw [hRE]
  have hKl := runLen_le R next
  have hzl : (zonesOf R).length ≤ 1000 := by unfold zonesOf; have h1 := compact_le (sortedI (Rl.zones R)); rw [sortedI_length] at h1; unfold Rl.zones at h1; rw [List.length_map] at h1; unfold Rl.zones; omega
  have HOK : Hid (∀ k, k ≤ runLen R next → StOk g (after g R next (st0 g es) k) k) := Lib.hid (fun k hk => after_ok (st0_ok g es) hRok (by omega) k (by omega) (fun j hj => runLen_some (by omega)))
  have HAT : Hid (∀ k, k < runLen R next → RecOk g (Rl.choose (atSeq R (next + (k : Nat)))).r) := Lib.hid (fun k hk => atSeq_ok hRok _ _ (choose_mem (runLen_some hk)))
  have HSOME : Hid (∀ k, k < runLen R next → atSeq R (next + (k : Nat)) ≠ []) := Lib.hid (fun k hk => runLen_some hk)
  have HNONE : Hid (atSeq R (next + (runLen R next : Nat)) = []) := Lib.hid (runLen_none R next)
  have HAL : Hid (∀ s, (atSeq R s).length ≤ 1000) := Lib.hid (fun s => Nat.le_trans (atSeq_length R s) hRl)
  unfold RunPost
  obtain ⟨SE, hSE⟩ : ∃ s, runSt g es next R = s := ⟨_, rfl⟩
  obtain ⟨zs, hzs⟩ : ∃ z, zonesOf R = z := ⟨_, rfl⟩
  rw [hzs] at HREC hzl
  rw [hSE, hzs]
  have HSEE : Hid (after g R next (st0 g es) (runLen R next) = SE) := Lib.hid hSE
  obtain ⟨K, hK⟩ : ∃ K, runLen R next = K := ⟨_, rfl⟩
  rw [hK] at HOK HAT HSOME HNONE HSEE hKl
  rw [hK]
  have hK1 : K ≤ 1000 := by omega
  have hSTE : ∀ k, after g R next (st0 g es) (k + 1) = Rl.step g (after g R next (st0 g es) k) (next + (k : Nat)) (Rl.choose (atSeq R (next + (k : Nat)))) := fun k => rfl
  obtain ⟨AF, hAF⟩ : ∃ F, after g R next (st0 g es) = F := ⟨_, rfl⟩
  have HA0 : Hid (AF 0 = st0 g es) := Lib.hid (by rw [← hAF]; rfl)
  rw [hAF] at HOK HSEE hSTE
  have HSTE := Lib.hid hSTE
  have HHOK := Lib.hid hok
  have HHRG := Lib.hid hgr
  obtain ⟨SS, hSS⟩ : ∃ s, Rl.singles SE.single 0 = s := ⟨_, rfl⟩
  rw [hSS]
  have HSS := Lib.hid hSS
  obtain ⟨TV, hTV⟩ : ∃ T, Tb.tabV = T := ⟨_, rfl⟩
  have HBR : Hid (∀ p sb n : Nat, Try.prog.built 99 [(0, .agg TV), (1, .pointer (some ⟨p, 0, none⟩)), (3, .slice (some ⟨sb, 0, none⟩) n n)] = some (rolC p 0 0 (.slice none 0 0) sb n 0)) := Lib.hid (by rw [← hTV]; exact built_rol)
  have HBS := Lib.hid built_res
  obtain ⟨SX, hSX⟩ : ∃ X, SnC gen epoch next p = X := ⟨_, rfl⟩
  have HSX : Hid (∀ (W : World) (b : Nat), W.heap[b]? = some (.cells SX 29 (0, 0)) → W.cell? ⟨b, 2, none⟩ = some (.int .i64 next) ∧ W.cell? ⟨b, 3, none⟩ = some (.pointer (some ⟨p, 0, none⟩))) := Lib.hid (fun W b hh => by rw [← hSX] at hh; exact (sn_cells hh).2.2)
  obtain ⟨GX, hGX⟩ : ∃ X, GC g = X := ⟨_, rfl⟩
  rw [hTV] at HTI ⊢
  rw [hSX] at HSI HRIT HREC ⊢
  rw [hGX] at HGM HGF
  obtain ⟨nf, hnf⟩ : ∃ n, fs.length = n := ⟨_, rfl⟩
  rw [hnf] at HREC ⊢
  obtain ⟨RZ, hRZ⟩ : ∃ Z, ResZ = Z := ⟨_, rfl⟩
  have HRZS : Hid (∀ p next applied v u, RZ.size = (resC p next applied v u).size) := Lib.hid (by rw [← hRZ]; exact fun _ _ _ _ _ => rfl)
  rw [hRZ] at hzr
  obtain ⟨W1, hW1⟩ : ∃ W, w.alloc (.cells TV 41) = W := ⟨_, rfl⟩
  have hb1 : Below w.heap.size w W1 := by rw [← hW1]; exact (Below.refl _ _).alloc (Nat.le_refl _) _
  have ht1 : W1.heap[w.heap.size]? = some (.cells TV 41 (0, 0)) := by rw [← hW1]; exact heap_alloc_new w _
  have zs1 : w.heap.size < W1.heap.size := (Array.getElem?_eq_some_iff.1 ht1).1
  have ze1 : W1.heap.size = w.heap.size + 1 := by rw [← hW1]; simp
  obtain ⟨W2, hW2⟩ : ∃ W, W1.alloc (.cells SX 29) = W := ⟨_, rfl⟩
  have hb2 : Below W1.heap.size W1 W2 := by rw [← hW2]; exact (Below.refl _ _).alloc (Nat.le_refl _) _
  have hs2 : W2.heap[W1.heap.size]? = some (.cells SX 29 (0, 0)) := by rw [← hW2]; exact heap_alloc_new W1 _
  have zs2 : W1.heap.size < W2.heap.size := (Array.getElem?_eq_some_iff.1 hs2).1
  have ze2 : W2.heap.size = w.heap.size + 1 + 1 := by rw [← hW2, ← hW1]; simp
  obtain ⟨W3, hW3⟩ : ∃ W, W2.alloc (.cells RZ 35) = W := ⟨_, rfl⟩
  have hb3 : Below W2.heap.size W2 W3 := by rw [← hW3]; exact (Below.refl _ _).alloc (Nat.le_refl _) _
  have hr3 : W3.heap[W2.heap.size]? = some (.cells RZ 35 (0, 0)) := by rw [← hW3]; exact heap_alloc_new W2 _
  have hs3 := (hb3.block _ zs2).trans hs2
  have ht3 := (hb3.block _ (Nat.lt_trans zs1 zs2)).trans ((hb2.block _ zs1).trans ht1)
  have hB3 : Below w.heap.size w W3 := (hb1.trans (hb2.mono (by omega))).trans (hb3.mono (by omega))
  have zr3 : W2.heap.size < W3.heap.size := (Array.getElem?_eq_some_iff.1 hr3).1
  have HW1 := Lib.hid hW1
  have HW2 := Lib.hid hW2
  have HW3 := Lib.hid hW3
  have HT3 := Lib.hid ht3
  have HS3 := Lib.hid hs3
  have HR3 := Lib.hid hr3
  have HB3 := Lib.hid hB3
  have HGN := Lib.hid hgn
  have HBN := Lib.hid hbn
  have HCQ : Hid (∀ k, k < K → ChQ (Rl.choose (atSeq R (next + (k : Nat))))) := Lib.hid (fun k hk => (HAT.out k hk).q)
  clear hsm h hok hr hI hl hes hlv hlvl hgn hbn hRok hRE hRl hSE hzs hK hSTE hAF hSS hTV hSX hGX hnf hRZ hW1 hb1 ht1 hW2 hb2 hs2 hW3 hb3 hr3 hs3 ht3 hB3 hgr hn
  go_enter Try.func11, Try.ntmps11
  go_upto_region 1 with (fail)
  rw [HW1.out, HW2.out, HW3.out]
  rw [ze2] at HR3 zr3 zs2
  rw [ze1] at HS3 zs2 zs1
  clear ze2 ze1
  obtain ⟨b6, hb6⟩ : ∃ b, w.heap.size + 1 + 1 = b := ⟨_, rfl⟩
  obtain ⟨b4, hb4⟩ : ∃ b, w.heap.size + 1 = b := ⟨_, rfl⟩
  obtain ⟨b3, hb3⟩ : ∃ b, w.heap.size = b := ⟨_, rfl⟩
  rw [hb6] at HR3 zr3 zs2 ⊢
  rw [hb4] at HS3 zs2 zs1 ⊢
  rw [hb3] at HT3 zs1 HRIT HREC HCP HGM HB3 ⊢
  have HB3E := Lib.hid hb3
  clear hb3 hb4 hb6
  go_wp2_with (refine wpList_load_row rfl 29 _ rfl b4 rfl 29 _ _ _ HS3.out Try.underlying29 rfl HSI.out ?_)
  refine (HRIT.out _ HB3.out).mono ?_
  rintro e1 w1 ⟨rfl, hB1⟩
  have z1 := hB1.size
  have HS1 := Lib.hid ((hB1.block b4 (by omega)).trans HS3.out)
  have HT1 := Lib.hid ((hB1.block b3 (by omega)).trans HT3.out)
  have HR1 := Lib.hid ((hB1.block b6 zr3).trans HR3.out)
  have HB1 := Lib.hid (HB3.out.trans (hB1.mono (by omega)))
  clear hB1
  go_upto_region 3 with (fail)
  go_wp2_with (refine wpList_load_row rfl 29 _ rfl b4 rfl 29 _ _ _ HS1.out Try.underlying29 rfl HSI.out ?_)
  refine (HREC.out _ HB1.out).mono ?_
  rintro e2 w2 ⟨mb, u2, V, rfl, ho2, hby2, hB2⟩
  have z2 := hB2.size
  obtain ⟨au, cu, rfl, -, -, -, -, -⟩ := ho2.shape kinI
  have HS2 := Lib.hid ((hB2.block b4 (by omega)).trans HS1.out)
  have HT2 := Lib.hid ((hB2.block b3 (by omega)).trans HT1.out)
  have HR2 := Lib.hid ((hB2.block b6 (by omega)).trans HR1.out)
  have HB2 := Lib.hid (HB1.out.trans (hB2.mono (by omega)))
  have HO2 := Lib.hid (ho2.mono (show b3 ≤ w1.heap.size by omega))
  have HBY2 := Lib.hid hby2
  clear hB2 ho2 hby2
  go_upto_region 4 with (fail)
  obtain ⟨B, hBE⟩ : ∃ B, w2.heap.size = B := ⟨_, rfl⟩
  have hB6 : b6 < B := by omega
  have hB4 : b4 < B := by omega
  have hB3 : b3 < B := by omega
  have HBE := Lib.hid hBE
  clear hBE
  have HKT : Hid (∀ W, Below w2.heap.size w2 W → W.heap[b3]? = some (.cells TV 41 (0, 0))) := Lib.hid (fun W hB => (hB.block b3 (by rw [HBE.out]; exact hB3)).trans HT2.out)
  have HKS : Hid (∀ W, Below w2.heap.size w2 W → W.heap[b4]? = some (.cells SX 29 (0, 0))) := Lib.hid (fun W hB => (hB.block b4 (by rw [HBE.out]; exact hB4)).trans HS2.out)
  have HKW : Hid (∀ W, Below w2.heap.size w2 W → Below b3 w W) := Lib.hid (fun W hB => HB2.out.trans (hB.mono (by rw [HBE.out]; omega)))
  have HSZ : Hid (∀ W, Below w2.heap.size w2 W → B ≤ W.heap.size) := Lib.hid (fun W hB => by have := hB.size; rw [HBE.out] at this; exact this)
  refine wp_region_conf12 9 [Fact.eq (.agg TV), Fact.eq (.pointer (some ⟨b4, 3, none⟩)), Fact.eq (.pointer (some ⟨p, 0, none⟩)), Fact.of (CpQ B g es) (CpQ.st B g es), Fact.eq (.pointer (some ⟨b4, 3, none⟩)), Fact.eq (.pointer (some ⟨p, 0, none⟩)), Fact.eq (.agg GX), Fact.eq (.int .i64 (n : Nat)), Fact.of (SlQ B n) (SlQ.st B n)] 3 8 (DQ B g es n) ?raA (by kernel_rfl) (by kernel_rfl) (by decide) ?rahA (DQ.st B g es n) ?raho ?rahend
  case rahA =>
    intro vv
    simp only [putRules, Nat.reduceAdd]
    rfl
  case raho =>
    refine ⟨?_, ?_, ?_, ?_, ?_, ?_, ?_, ?_, ?_, trivial⟩
    · intro vv W K hB hd HK
      simp only [confRules] at HK
      clear hd
      refine wpList_load_row rfl 41 _ rfl b3 rfl 41 _ _ _ (HKT.out W hB) Try.underlying41 rfl HTI.out ?_
      refine HK.out _ _ (Below.refl _ _) ?_
      rfl
    · intro vv W K hB hd HK
      simp only [confRules] at HK
      clear hd
      go_wp2
      refine HK.out _ _ (Below.refl _ _) ?_
      rfl
    · intro vv W K hB hd HK
      simp only [confRules] at hd HK
      have h1 := hd
      clear hd
      simp only [h1] at HK ⊢
      clear h1
      obtain ⟨-, c9⟩ := HSX.out W b4 (HKS.out W hB)
      go_wp2
      refine HK.out _ _ (Below.refl _ _) ?_
      rfl
    · intro vv W K hB hd HK
      simp only [confRules, runRules] at hd HK
      have h2 := hd
      clear hd
      simp only [h2] at HK ⊢
      clear h2
      have HWS := Lib.hid hB
      go_wp2_with (refine (HCP.out _ (HKW.out _ hB)).mono ?_; rintro e w9 ⟨p9, l9, n9, x9, y9, rfl, m9, i1, i2, i3, hB9⟩)
      have hBWS := HSZ.out W HWS.out
      refine HK.out _ _ hB9 ⟨p9, l9, n9, x9, y9, rfl, m9, by omega, by omega, by omega⟩ ?_
      rintro u2 ⟨sb, rfl, hs1, hs2⟩
      have hslt := (Array.getElem?_eq_some_iff.1 hs2).1
      exact ⟨p9, l9, n9, x9, y9, sb, rfl, rfl, m9, ⟨by omega, by omega, by omega, hs1⟩, (hB9.block sb hslt).trans hs2, by omega⟩
    · intro vv W K hB hd HK
      simp only [confRules] at HK
      clear hd
      go_wp2
      refine HK.out _ _ (Below.refl _ _) ?_
      rfl
    · intro vv W K hB hd HK
      simp only [confRules] at hd HK
      have h4 := hd
      clear hd
      simp only [h4] at HK ⊢
      clear h4
      obtain ⟨-, c9⟩ := HSX.out W b4 (HKS.out W hB)
      go_wp2
      refine HK.out _ _ (Below.refl _ _) ?_
      rfl
    · intro vv W K hB hd HK
      simp only [confRules, runRules] at hd HK
      obtain ⟨h5, ⟨z1, z2, z3, z4, z5, h3, z6, z7, z8, z9⟩⟩ := hd
      simp only [h5, h3] at HK ⊢
      clear h5 h3
      go_wp2_with (refine (HGM.out _ (HKW.out _ hB)).mono ?_; rintro e w9 ⟨rfl, hB9⟩)
      refine HK.out _ _ hB9 ?_
      rfl
    · intro vv W K hB hd HK
      simp only [confRules] at hd HK
      have h6 := hd
      clear hd
      simp only [h6] at HK ⊢
      clear h6
      have hgf := HGF.out
      go_wp2
      refine HK.out _ _ (Below.refl _ _) ?_
      rfl
    · intro vv W K hB hd HK
      simp only [confRules, runRules] at hd HK
      obtain ⟨h7, _⟩ := hd
      simp only [h7] at HK ⊢
      clear h7
      have hmk := HMK.out
      have hBWS := HSZ.out W hB
      go_wp2
      refine HK.out _ _ ((Below.refl _ _).alloc (Nat.le_refl _) _) ⟨_, rfl, hBWS, heap_alloc_new _ _⟩ ?_
      rintro u1 ⟨p9, l9, n9, x9, y9, rfl, m9, i1, i2, i3⟩
      have hll := bm_ll_lt m9
      exact ⟨p9, l9, n9, x9, y9, _, rfl, rfl, m9.below ((Below.refl _ _).alloc (Nat.le_refl _) _), ⟨i1, i2, i3, hBWS⟩, heap_alloc_new _ _, by omega⟩
  case rahend =>
  intro vv W hB hf hD
  have e0 := hf 0 (by decide)
  simp only [endRules] at e0
  simp only [e0, dropRules]
  clear hf e0
  obtain ⟨v3, hv3⟩ : ∃ x, vv 3 = x := ⟨_, rfl⟩
  obtain ⟨v8, hv8⟩ : ∃ x, vv 8 = x := ⟨_, rfl⟩
  rw [hv3, hv8] at hD
  simp only [hv3, hv8]
  clear hv3 hv8
  have HWB := Lib.hid hB
  obtain ⟨q1, q2, q3, q4, q5, sb, e3, e8, m3, hb38, m8, hne38⟩ := hD
  rw [e3, e8]
  have HBW : Hid (B ≤ W.heap.size) := Lib.hid (HSZ.out W hB)
  clear hB e3 e8
  obtain ⟨XR, hXR⟩ : ∃ X, rolC q1 0 0 (.slice none 0 0) sb n 0 = X := ⟨_, rfl⟩
  have hrol := RolIs.start m3 (by rw [HGN.out]; exact m8) hb38 HBW.out HHOK.out hne38 XR (by rw [HGN.out]; exact hXR)
  obtain ⟨W5, hW5⟩ : ∃ X, W.alloc (.cells XR 99) = X := ⟨_, rfl⟩
  rw [hW5, ← HA0.out] at hrol
  have hb5 : Below B w2 W5 := by
    have h1 := HWB.out
    rw [HBE.out] at h1
    rw [← hW5]
    exact h1.trans ((Below.refl _ _).alloc HBW.out _)
  have HROL := Lib.hid hrol
  have HB5 := Lib.hid hb5
  have HW5 := Lib.hid hW5
  have HXR := Lib.hid hXR
  have HBRR := Lib.hid (HBR.out q1 sb n)
  rw [hXR] at HBRR
  clear hrol hb5 hW5 hXR m3 m8 hb38 hne38 HWB HKT HKS HKW HSZ
  go_upto_region 5 with (first | (refine wpList_build_on (by rfl) 99 _ rfl #[(0, .agg TV), (1, .pointer (some ⟨q1, 0, none⟩)), (3, .slice (some ⟨sb, 0, none⟩) n n)] (by simp [Act.eval, Act.put]) _ HBRR.out ?_))
  rw [HW5.out]
  obtain ⟨q, hq⟩ : ∃ q, W.heap.size = q := ⟨_, rfl⟩
  rw [hq] at HROL HBW ⊢
  clear hq
  have hBq : B ≤ q := HBW.out
  have c5 := (HSX.out W5 b4 ((HB5.out.block b4 hB4).trans HS2.out)).1
  go_upto_region 6 with (fail)
  clear c5
  go_loopw [11] (fun u wr => ∃ (k : Nat) (v : Value), k ≤ K ∧ u = .int .i64 (next + (k : Nat)) ∧ RolIs wr B q q1 q2 q3 q4 q5 sb g v (AF k) ∧ Below B w2 wr) (fun u _ => (next + (K : Nat) - intOf u).toNat)
  case atStart => exact ⟨0, _, Nat.zero_le _, by simp, HROL.out, HB5.out⟩
  case round =>
    obtain ⟨k, v, hk, rfl, hrol, hBr⟩ := hrel
    have HRL := Lib.hid hrol
    have HBR2 := Lib.hid hBr
    have hby := HBY2.out.below (by rw [HBE.out]; exact hBr)
    obtain ⟨sq, hsq⟩ : ∃ s, next + (k : Int) = s := ⟨_, rfl⟩
    obtain ⟨a1, cap1, hv1, hrow1, hc1, hc2, hlt1, hne1⟩ := hby.at sq
    have hn1 := HAL.out sq
    have hsqb : 1 ≤ sq ∧ sq ≤ 281474976710655 + 1000 := by omega
    have hwf : (Lit.int .i64 sq).wf = true := wfI (by omega)
    have HWF := Lib.hid hwf
    have HM := Lib.hid hby.hm
    have HV1 := Lib.hid hv1
    have HROW := Lib.hid hrow1
    have HSQ := Lib.hid hsq
    rw [hsq]
    clear hrol hBr hby hwf hv1 hrow1 hlt1
    by_cases hlt : k < K
    · have hsome := HSOME.out k hlt
      have hrok := HAT.out k hlt
      have hstok := HOK.out k (Nat.le_of_lt hlt)
      have hste := HSTE.out k
      rw [hsq] at hsome hrok hste
      obtain ⟨b1, rfl⟩ := hne1 hsome
      have HCHO := Lib.hid (fun (W : World) (hR : RowOf W 40 recC RecQ (some ⟨b1, 0, none⟩) (atSeq R sq)) => rchoose_any W b1 0 (atSeq R sq) cap1 hR hsome hn1 hc1 hc2)
      obtain ⟨c, hc⟩ : ∃ c, Rl.choose (atSeq R sq) = c := ⟨_, rfl⟩
      rw [hc] at hrok hste HCHO
      obtain ⟨st, hst⟩ : ∃ s, AF k = s := ⟨_, rfl⟩
      rw [hst] at hstok hste HRL
      have hap : -1000000 ≤ st.applied ∧ st.applied ≤ 1000000 := by have := hstok.ap; omega
      have hfi : -1125899906842624 ≤ st.first ∧ st.first ≤ 1125899906842624 := by have := hstok.fi; omega
      have hol : st.ol.length ≤ 1000 := by have := hstok.len; omega
      have HDAT : Hid (∀ W v, RolIs W B q q1 q2 q3 q4 q5 sb g v st → Calls Try.prog 31 #[.pointer (some ⟨q, 0, none⟩), .int .i64 sq, .agg (chC c)] W fun e w' => ∃ v', e = .returned (.tuple #[]) ∧ RolIs w' B q q1 q2 q3 q4 q5 sb g v' (Rl.data g st sq c) ∧ Below B W w') := Lib.hid (fun W v hR => rdata_any W B q q1 q2 q3 q4 q5 sb g v st HHRG.out hR c hrok.q sq (by omega) hap hfi hol (hstok.opened (by omega) hrok (by omega)))
      have HOTH : Hid (∀ W v, RolIs W B q q1 q2 q3 q4 q5 sb g v st → Calls Try.prog 32 #[.pointer (some ⟨q, 0, none⟩), .int .i64 sq, .agg (chC c)] W fun e w' => ∃ v', e = .returned (.tuple #[]) ∧ RolIs w' B q q1 q2 q3 q4 q5 sb g v' (Rl.other g st sq c) ∧ Below B W w') := Lib.hid (fun W v hR => rother_any W B q q1 q2 q3 q4 q5 sb g v st HHRG.out hR c hrok.q sq hrok.b (beE64 hrok (by omega)) hrok.m (by omega) hap)
      have HCI := Lib.hid (size_ch (c := c) hrok.q)
      have HCZ : Hid ((chC ch0).size = (chC c).size) := Lib.hid (by rw [kinCh.size c hrok.q]; rfl)
      have HCO := Lib.hid (kinCh.one c hrok.q)
      have HCC : Hid (∀ (W : World) (b : Nat), W.heap[b]? = some (.cells (chC c) 104 (0, 0)) → W.cell? ⟨b, 0, none⟩ = some (.int .i64 c.r.e.kind)) := Lib.hid (fun W b hh => (ch_cells hrok.q hh).1)
      have hcase : ((c.r.e.kind == 1) = true ∧ AF (k + 1) = Rl.data g st sq c) ∨ ((c.r.e.kind == 1) = false ∧ AF (k + 1) = Rl.other g st sq c) := by
        rw [hste]
        unfold Rl.step
        by_cases hk1 : c.r.e.kind = 1
        · exact .inl ⟨by simp [hk1], by rw [if_pos hk1]⟩
        · exact .inr ⟨by simp [hk1], by rw [if_neg hk1]⟩
      have HCASE := Lib.hid hcase
      obtain ⟨ck, hck⟩ : ∃ c1, c.r.e.kind = c1 := ⟨_, rfl⟩
      rw [hck] at HCC HCASE
      obtain ⟨CX, hCX⟩ : ∃ X, chC c = X := ⟨_, rfl⟩
      rw [hCX] at HDAT HOTH HCI HCZ HCO HCC HCHO
      obtain ⟨CZ, hCZ⟩ : ∃ X, chC ch0 = X := ⟨_, rfl⟩
      rw [hCZ] at HCZ hzc
      obtain ⟨n1, hnn⟩ : ∃ n, (atSeq R sq).length = n := ⟨_, rfl⟩
      have hn0 : 0 < n1 := by rw [← hnn]; exact List.length_pos_iff.2 hsome
      rw [hnn] at HV1 HCHO hn1
      have t1 : decide (0 < n1) = true := decide_eq_true hn0
      have t2 : decide ((0 : Int) < (n1 : Int)) = true := decide_eq_true (by omega)
      obtain ⟨Rl1, hRl1⟩ : ∃ r, R.length = r := ⟨_, rfl⟩
      rw [hRl1] at HM
      clear hsome hrok hstok hste hc hst hap hfi hol hcase hck hCX hCZ hnn hRl1 hne1 hc1 hc2 hsq
      go_upto_region 8 with (refine wpList_lookupI rfl (.tmp 36) (.tmp 37) 89 rfl 3 100 Try.underlying3 Try.underlying89 (.slice none 0 0) HZL.out mb Rl1 V rfl HM.out sq rfl HWF.out ?_; rw [HV1.out])
      go_wp2_with (refine wpList_lookupI rfl (.tmp 43) (.tmp 44) 89 rfl 3 100 Try.underlying3 Try.underlying89 (.slice none 0 0) HZL.out mb Rl1 V rfl HM.out sq rfl HWF.out ?_; rw [HV1.out])
      clear t1 t2
      refine (HCHO.out _ HROW.out).mono ?_
      rintro e8 w8 ⟨rfl, hB8⟩
      have hr8 := HRL.out.below hB8
      obtain ⟨W9, hW9⟩ : ∃ W, w8.alloc (.cells CX 104) = W := ⟨_, rfl⟩
      have hb9 : Below w8.heap.size w8 W9 := by rw [← hW9]; exact (Below.refl _ _).alloc (Nat.le_refl _) _
      have hc9 : W9.heap[w8.heap.size]? = some (.cells CX 104 (0, 0)) := by rw [← hW9]; exact heap_alloc_new w8 _
      have hr9 := hr8.below hb9
      have hBB9 := HBR2.out.trans ((hB8.mono HRL.out.hB.2.2.2.2.2).trans (hb9.mono hr8.hB.2.2.2.2.2))
      have HR9 := Lib.hid hr9
      have HC9 := Lib.hid hc9
      have HB9 := Lib.hid hBB9
      have HW9 := Lib.hid hW9
      have c9 := HCC.out W9 _ hc9
      clear hB8 hr8 hW9 hb9 hc9 hr9 hBB9
      go_upto_region 9 with (refine wpList_store_row rfl 104 _ _ rfl w8.heap.size CX rfl rfl 104 CZ (heap_alloc_new w8 _) HCI.out HCZ.out HCO.out ?_; rw [World.setRow_alloc_new])
      rw [HW9.out, put_none]
      rcases HCASE.out with ⟨t3, hst⟩ | ⟨t3, hst⟩
      · have HST := Lib.hid hst
        clear hst
        go_upto_region 10 with (fail)
        clear c9 t3
        go_wp2_with (refine wpList_load_row rfl 104 _ rfl w8.heap.size rfl 104 _ _ _ HC9.out Try.underlying104 rfl HCI.out ?_)
        refine (HDAT.out _ _ HR9.out).mono ?_
        rintro e10 w10 ⟨v10, rfl, hr10, hB10⟩
        rw [← HST.out] at hr10
        have HR10 := Lib.hid hr10
        have HB10 := Lib.hid (HB9.out.trans hB10)
        clear hr10 hB10
        go_wp2
        have hs := HSQ.out
        first | exact ⟨⟨k + 1, v10, by omega, by rw [← hs]; go_num, HR10.out, HB10.out⟩, by simp [intOf]; omega⟩ | (go_roundw; exact ⟨k + 1, v10, by omega, by rw [← hs]; go_num, HR10.out, HB10.out⟩; simp [intOf]; omega)
      · have HST := Lib.hid hst
        clear hst
        go_upto_region 11 with (fail)
        clear c9 t3
        go_wp2_with (refine wpList_load_row rfl 104 _ rfl w8.heap.size rfl 104 _ _ _ HC9.out Try.underlying104 rfl HCI.out ?_)
        refine (HOTH.out _ _ HR9.out).mono ?_
        rintro e10 w10 ⟨v10, rfl, hr10, hB10⟩
        rw [← HST.out] at hr10
        have HR10 := Lib.hid hr10
        have HB10 := Lib.hid (HB9.out.trans hB10)
        clear hr10 hB10
        go_wp2
        have hs := HSQ.out
        first | exact ⟨⟨k + 1, v10, by omega, by rw [← hs]; go_num, HR10.out, HB10.out⟩, by simp [intOf]; omega⟩ | (go_roundw; exact ⟨k + 1, v10, by omega, by rw [← hs]; go_num, HR10.out, HB10.out⟩; simp [intOf]; omega)
    · have hkK : k = K := by omega
      rw [hkK] at HRL HSQ
      have hnone := HNONE.out
      rw [HSQ.out] at hnone
      rw [hnone, List.length_nil] at HV1
      rw [HSEE.out] at HRL
      obtain ⟨Rl1, hRl1⟩ : ∃ r, R.length = r := ⟨_, rfl⟩
      rw [hRl1] at HM
      have hsl : SE.single.length ≤ 1000 := by have := HRL.out.hn; rw [HGN.out] at this; have := HBN.out; omega
      have HSG : Hid (∀ W, Below wr.heap.size wr W → Calls Try.prog 33 #[.pointer (some ⟨q, 0, none⟩)] W fun e w' => ∃ u, e = .returned u ∧ OwnM w' 3 1 iC (fun _ => True) W.heap.size u SS ∧ Below W.heap.size W w') := Lib.hid (fun W hW => by have := rsingles_any W B q q1 q2 q3 q4 q5 sb g v SE (HRL.out.below hW) hsl; rwa [HSS.out] at this)
      have HBW2 : Hid (B ≤ wr.heap.size) := Lib.hid HRL.out.hB.2.2.2.2.2
      clear hlt hk hkK hnone hRl1 hsl hne1 hc1 hc2 hn1 hsq
      go_upto_region 12 with (refine wpList_lookupI rfl (.tmp 36) (.tmp 37) 89 rfl 3 100 Try.underlying3 Try.underlying89 (.slice none 0 0) HZL.out mb Rl1 V rfl HM.out sq rfl HWF.out ?_; rw [HV1.out])
      obtain ⟨ap, hap⟩ : ∃ x, SE.applied = x := ⟨_, rfl⟩
      have HOWC : Hid (∀ W, Below wr.heap.size wr W → W.cell? ⟨q, 256, none⟩ = some (.pointer (some ⟨q1, 0, none⟩)) ∧ W.cell? ⟨q, 261, none⟩ = some (.int .i64 ap)) := Lib.hid (fun W hW => by have := (HRL.out.below hW).own; rw [hap] at this; exact ⟨this.1, this.2.2.2.2.2⟩)
      have HAP := Lib.hid hap
      clear hap
      refine wp_region_conf2 12 [Fact.eq (.pointer (some ⟨q, 0, none⟩)), Fact.eq (.pointer (some ⟨q, 0, none⟩)), Fact.eq (.pointer (some ⟨q, 256, none⟩)), Fact.eq (.pointer (some ⟨q1, 0, none⟩)), Fact.eq (.int .i64 sq), Fact.eq (.pointer (some ⟨q, 0, none⟩)), Fact.eq (.pointer (some ⟨q, 0, none⟩)), Fact.eq (.pointer (some ⟨q, 261, none⟩)), Fact.eq (.int .i64 ap), Fact.eq (.pointer (some ⟨q, 0, none⟩)), Fact.of (OwQ wr.heap.size SS) (OwQ.st wr.heap.size SS), Fact.eq (.slice au zs.length cu)] ?rbA (by kernel_rfl) (by kernel_rfl) ?rbhA ?rbho ?rbhend
      case rbhA =>
        intro vv
        simp only [putRules, Nat.reduceAdd]
        rfl
      case rbho =>
        refine ⟨?_, ?_, ?_, ?_, ?_, ?_, ?_, ?_, ?_, ?_, ?_, ?_, trivial⟩
        · intro vv W K hB hd HK
          simp only [confRules] at HK
          clear hd
          go_wp2
          refine HK.out _ _ (Below.refl _ _) ?_
          rfl
        · intro vv W K hB hd HK
          simp only [confRules] at hd HK
          have h0 := hd
          clear hd
          simp only [h0] at HK ⊢
          clear h0
          go_wp2
          refine HK.out _ _ (Below.refl _ _) ?_
          rfl
        · intro vv W K hB hd HK
          simp only [confRules] at hd HK
          have h1 := hd
          clear hd
          simp only [h1] at HK ⊢
          clear h1
          go_wp2
          refine HK.out _ _ (Below.refl _ _) ?_
          rfl
        · intro vv W K hB hd HK
          simp only [confRules] at hd HK
          have h2 := hd
          clear hd
          simp only [h2] at HK ⊢
          clear h2
          obtain ⟨c9, -⟩ := HOWC.out W hB
          go_wp2
          refine HK.out _ _ (Below.refl _ _) ?_
          rfl
        · intro vv W K hB hd HK
          simp only [confRules] at HK
          clear hd
          go_wp2
          refine HK.out _ _ (Below.refl _ _) ?_
          rfl
        · intro vv W K hB hd HK
          simp only [confRules] at HK
          clear hd
          go_wp2
          refine HK.out _ _ (Below.refl _ _) ?_
          rfl
        · intro vv W K hB hd HK
          simp only [confRules] at hd HK
          have h5 := hd
          clear hd
          simp only [h5] at HK ⊢
          clear h5
          go_wp2
          refine HK.out _ _ (Below.refl _ _) ?_
          rfl
        · intro vv W K hB hd HK
          simp only [confRules] at hd HK
          have h6 := hd
          clear hd
          simp only [h6] at HK ⊢
          clear h6
          go_wp2
          refine HK.out _ _ (Below.refl _ _) ?_
          rfl
        · intro vv W K hB hd HK
          simp only [confRules] at hd HK
          have h7 := hd
          clear hd
          simp only [h7] at HK ⊢
          clear h7
          obtain ⟨-, c9⟩ := HOWC.out W hB
          go_wp2
          refine HK.out _ _ (Below.refl _ _) ?_
          rfl
        · intro vv W K hB hd HK
          simp only [confRules] at HK
          clear hd
          go_wp2
          refine HK.out _ _ (Below.refl _ _) ?_
          rfl
        · intro vv W K hB hd HK
          simp only [confRules, runRules] at hd HK
          have h9 := hd
          clear hd
          simp only [h9] at HK ⊢
          clear h9
          have HSZ9 := Lib.hid hB.size
          go_wp2_with (refine (HSG.out _ hB).mono ?_; rintro e w9 ⟨u9, rfl, o9, hB9⟩)
          refine HK.out _ _ hB9 ?_
          obtain ⟨a9, c9, rfl, -, -, -, -, -⟩ := o9.shape kinI
          exact ⟨a9, c9, rfl, o9.mono HSZ9.out⟩
        · intro vv W K hB hd HK
          simp only [confRules] at HK
          clear hd
          go_wp2
          refine HK.out _ _ (Below.refl _ _) ?_
          rfl
      case rbhend =>
      intro vv W hB hf
      have e3 := hf 3 (by decide)
      have e4 := hf 4 (by decide)
      have e8 := hf 8 (by decide)
      have e10 := hf 10 (by decide)
      have e11 := hf 11 (by decide)
      simp only [endRules, runRules] at e3 e4 e8 e10 e11
      obtain ⟨a10, c10, e10, o10⟩ := e10
      simp only [e3, e4, e8, e10, e11, dropRules]
      clear hf e3 e4 e8 e10 e11
      have HRW := Lib.hid (HRL.out.below hB)
      have HBW3 := Lib.hid (HBR2.out.trans (hB.mono HBW2.out))
      have hrz := (HBW3.out.block b6 hB6).trans HR2.out
      have HRZW := Lib.hid hrz
      have HSGO := Lib.hid o10
      obtain ⟨XS, hXS⟩ : ∃ X, resC q1 sq ap (.slice a10 SS.length c10) (.slice au zs.length cu) = X := ⟨_, rfl⟩
      have HBX := Lib.hid (HBS.out q1 sq ap a10 au SS.length zs.length c10 cu)
      have HIX := Lib.hid (HRI.out q1 sq ap (.slice a10 SS.length c10) (.slice au zs.length cu))
      have HZX := Lib.hid (HRZS.out q1 sq ap (.slice a10 SS.length c10) (.slice au zs.length cu))
      have H1X : Hid ((resC q1 sq ap (.slice a10 SS.length c10) (.slice au zs.length cu)).all (·.oneCell') = true) := Lib.hid (by simp [resC, Value.oneCell'])
      rw [hXS] at HBX HIX HZX H1X
      have HXS := Lib.hid hXS
      clear hB hrz o10 hXS
      go_wp2_with (first | (refine wpList_build_on (by rfl) 35 _ rfl #[(0, .pointer (some ⟨q1, 0, none⟩)), (1, .int .i64 sq), (2, .int .i64 ap), (3, .slice a10 SS.length c10), (4, .slice au zs.length cu)] (by simp [Act.eval, Act.put]) _ HBX.out ?_) | (refine wpList_store_row rfl 35 _ _ rfl b6 XS rfl rfl 35 RZ HRZW.out HIX.out HZX.out H1X.out ?_))
      have hf := setRow_heap _ _ _ XS _ _ HRZW.out
      refine bodyPost_ret (res_row_tmp rfl _ _ b6 35 XS _ _ rfl hf Try.underlying35 rfl HIX.out) rfl ?_
      rw [HB3E.out]
      have hO : Only [b6] W (W.setRow b6 XS) := only_set1 W b6 XS
      have hBs := HRW.out.hB
      refine ⟨q1, q2, q3, q4, q5, a10, c10, au, cu, ?_, HRW.out.hm.only hO (by simp; omega) (by simp; omega) (by simp; omega), HRW.out.hok, (HSGO.out.mono (show b3 ≤ wr.heap.size by have := HBW2.out; omega)).only hO (fun k hk hm => ?_), ?_, ⟨by omega, by omega, by omega⟩, ?_⟩
      · rw [← HXS.out, HSQ.out, HAP.out]
        rfl
      · have := (HSGO.out.base_le hk).1
        simp only [List.mem_singleton] at hm
        have := HBW2.out
        omega
      · have h1 := (HO2.out.below (by rw [HBE.out]; exact HBW3.out))
        refine h1.only hO (fun k hk hm => ?_)
        simp only [List.mem_singleton] at hm
        subst hm
        obtain ⟨-, C, hC⟩ := h1.base_le hk
        exact cells_ty_ne hC HRZW.out (by decide) rfl
      · exact below_setRow (HB2.out.trans (HBW3.out.mono (by omega))) (by omega) _
end Go.Proofs.Ytoiephmngdecaaa
namespace Go.Rv
open Go.RowKit
set_option linter.unusedVariables false
/-- the blocks of a list are as they were, and so is whatever is no cells, but for block l -/
structure KeepsL (l : Nat) (R : List Nat) (A W : World) : Prop where
  size : A.heap.size ≤ W.heap.size
  rows : ∀ k ∈ R, W.heap[k]? = A.heap[k]?
  others : ∀ (k : Nat) (o : Obj), A.heap[k]? = some o → o.isCells = false → k ≠ l → W.heap[k]? = some o
/-- a round's word -/
structure Keeps (R : List Nat) (A W : World) : Prop where
  size : A.heap.size ≤ W.heap.size
  rows : ∀ k ∈ R, W.heap[k]? = A.heap[k]?
  others : ∀ (k : Nat) (o : Obj), A.heap[k]? = some o → o.isCells = false → W.heap[k]? = some o
theorem Keeps.refl (R : List Nat) (w : World) : Keeps R w w := ⟨Nat.le_refl _, fun _ _ => rfl, fun _ _ h _ => h⟩
theorem Keeps.trans {R : List Nat} {a b c : World} (h : Keeps R a b) (k : Keeps R b c) : Keeps R a c := ⟨Nat.le_trans h.size k.size, fun x hx => (k.rows x hx).trans (h.rows x hx), fun x o hx ho => k.others x o (h.others x o hx ho) ho⟩
/-- blocks of cells turn, none of which is of the list -/
theorem Keeps.of_only {S R : List Nat} {a w : World} (h : Only S a w) (hR : ∀ k ∈ R, k < a.heap.size ∧ k ∉ S) (hS : ∀ k ∈ S, ∀ o, a.heap[k]? = some o → o.isCells = true) : Keeps R a w :=
  ⟨h.size, fun k hk => h.block k (hR k hk).1 (hR k hk).2, fun k o hk ho => h.get hk (fun hm => by have := hS k hm o hk; rw [ho] at this; cases this)⟩
/-- AN ITERATOR's WORD: R: the blocks that it reads -/
def SeqK {α : Type} (F : Fence) (n : Nat) (P : Program) (g : Nat) (lb : Array Value) (encs : α → Array Value) (R : List Nat) (S Sp : List α → Prop) (N : Nat) (w : World) : Prop :=
  ∀ (l : Nat) (J Jx : List α → World → Prop) (W : World), Below w.heap.size w W → w.heap.size ≤ l → l < W.heap.size → AbT W.heap.size [] J → AbT W.heap.size [] Jx →
    (∀ pre x W1, J pre W1 → pre.length < N → Sp (pre ++ [x]) → YieldAt F (n - 1) P l (encs x) W1 fun e W' =>
      KeepsL l R W1 W' ∧ ((e = .returned (.bool true) ∧ J (pre ++ [x]) W') ∨ (e = .returned (.bool false) ∧ Jx (pre ++ [x]) W'))) →
    J [] W →
    CallsIn F n P g (#[.func (.yield l) #[] #[]] ++ lb) W fun e W' => (∃ v, e = .returned v) ∧ ((∃ xs, S xs ∧ J xs W') ∨ (∃ pre, Sp pre ∧ Jx pre W'))
/-- how a round's body may be left -/
def postK {α : Type} (R : List Nat) (I : List α → World → Prop) (Ix : Code → List α → World → Prop) (xs : List α) (W : World) : Exit → Act → World → Prop
  | .normal, _, W' => Keeps R W W' ∧ I xs W'
  | .ret, _, W' => Keeps R W W' ∧ Ix .ret xs W'
  | .exit id, _, W' => Keeps R W W' ∧ Ix (.exit id) xs W'
  | .goto t, _, W' => Keeps R W W' ∧ Ix (.goto t) xs W'
  | .panic _, _, _ => False
  | .outgrown, _, _ => False
theorem postK_mono {α : Type} {R : List Nat} {I I' : List α → World → Prop} {Ix Ix' : Code → List α → World → Prop} {xs ys : List α} {W W0 : World} (hI : ∀ W', Keeps R W W' → I xs W' → Keeps R W0 W' ∧ I' ys W') (hIx : ∀ c W', Keeps R W W' → Ix c xs W' → Keeps R W0 W' ∧ Ix' c ys W') :
    ∀ e a W', postK R I Ix xs W e a W' → postK R I' Ix' ys W0 e a W' := by
  intro e a W' h
  cases e with
  | normal => exact hI W' h.1 h.2
  | ret => exact hIx _ W' h.1 h.2
  | exit id => exact hIx _ W' h.1 h.2
  | goto t => exact hIx _ W' h.1 h.2
  | panic _ => exact h.elim
  | outgrown => exact h.elim
variable {F : Fence} {n : Nat} {P : Program}
/-- the iterator's word, for the loop's record l -/
theorem rangeK_core {α : Type} {ps : Array Tmp} {assign body : Code} {fn : FuncId} {tmps : Array Value} {l : Nat} {W1 w0 : World} (hF : F.fn fn) {gf : Nat} {lb : Array Value} {encs : α → Array Value} {R : List Nat} {S Sp : List α → Prop} {N : Nat}
    (rec : LoopState → Option Code → Loop) (hrec : ∃ dfr, rec = fun st pe => { state := st, pending := pe, fn, tmps, params := ps, assign, body, defers := dfr })
    (hseq : SeqK F n P gf lb encs R S Sp N w0) (hb : Below w0.heap.size w0 W1) (hps : ∀ x, (encs x).size = ps.size) (hw0 : w0.heap.size ≤ l) (hl1 : W1.heap[l]? = some (.loop (rec .ready none)))
    (hR : ∀ k ∈ R, k < l)
    (I : List α → World → Prop) (Ix : Code → List α → World → Prop) (hI : AbT l [] I) (hIx : ∀ c, AbT l [] (Ix c)) (h0 : I [] W1) (Ax : α → Act → World → Prop) (hAx : ∀ x a', AbT l [] (fun (_ : Unit) W => Ax x a' W))
    (hassign : ∀ (pre : List α) (x : α) (W : World) (K : Act → World → Prop), I pre W → (∀ a' W', Only [] W W' → Ax x a' W' → K a' W') →
      assign.wpIn (F.inRound l) (n - 1) P (Exit.then K (fun _ _ _ => False)) { tmps := (ps.zip (encs x)).foldl (fun t (p, v) => t.setIfInBounds p v) tmps, defers := [] } W)
    (hbody : ∀ (pre : List α) (x : α) (a' : Act) (W : World), (∃ r, W.heap[l]? = some (.loop r)) → I pre W → Ax x a' W → pre.length < N → Sp (pre ++ [x]) → body.wpIn (F.inRound l) (n - 1) P (postK R I Ix (pre ++ [x]) W) a' W) :
    CallsIn F n P gf (#[.func (.yield l) #[] #[]] ++ lb) W1 fun e W2 => (∃ v, e = .returned v) ∧ ((∃ xs, S xs ∧ I xs W2 ∧ W2.heap[l]? = some (.loop (rec .ready none))) ∨ (∃ pre, Sp pre ∧ ∃ c, Ix c pre W2 ∧ W2.heap[l]? = some (.loop (rec .done (some c))))) := by
  obtain ⟨dfr, hrec⟩ := hrec
  have hlt : l < W1.heap.size := (Array.getElem?_eq_some_iff.1 hl1).1
  have hmono : ∀ {A W : World}, Turn W1.heap.size [] A W → Turn l [] A W := fun ht => ht.mono (by omega) (fun _ h => h) (fun k hk => by cases hk)
  refine (hseq l (fun pre W => I pre W ∧ W.heap[l]? = some (.loop (rec .ready none))) (fun pre W => ∃ c, Ix c pre W ∧ W.heap[l]? = some (.loop (rec .done (some c)))) W1 hb hw0 hlt
    (fun s A W hs ht => ⟨hI s A W hs.1 (hmono ht), ht.block l _ hs.2 (by simp) (.inl hlt)⟩) (fun s A W hs ht => by
      obtain ⟨c, hc, hl⟩ := hs
      exact ⟨c, hIx c s A W hc (hmono ht), ht.block l _ hl (by simp) (.inl hlt)⟩) ?_ ⟨h0, hl1⟩)
  rintro pre x W ⟨hi, hl⟩ hlen hsp
  have hy := run_yield (P := P) (args := encs x) hl (by rw [hrec]; exact hps x)
  rw [hrec] at hy
  refine ⟨fn, _, assign, body, hy, roundIn_of_wpIn hF (hassign pre x W _ hi ?_)⟩
  clear hy
  intro a' Wa hOa hax
  have hla := hOa.get hl (by simp)
  have hia := hI pre W Wa hi (Turn.of_only hOa)
  refine ⟨_, run_beginRound hla (by rw [hrec]), ?_⟩
  have hlt2 : l < Wa.heap.size := (Array.getElem?_eq_some_iff.1 hla).1
  have hl2 : (Wa.putObj l (.loop { rec .ready none with state := .busy })).heap[l]? = some (.loop { rec .ready none with state := .busy }) := World.putObj_heap_same hlt2
  have ht2 : Turn l [] Wa (Wa.putObj l (.loop { rec .ready none with state := .busy })) := (Turn.refl l [] Wa).putObj (Nat.le_refl _) hla rfl (by simp) _
  refine wpIn_mono (hbody pre x a' _ ⟨_, hl2⟩ (hI pre _ _ hia ht2) (hAx x a' () _ _ hax ht2) hlen hsp) ?_
  have fin : ∀ (jump : Option Code) (W3 : World), Keeps R (Wa.putObj l (.loop { rec .ready none with state := .busy })) W3 →
      (Instr.endRound l jump).run P W3 = .ok (.bool jump.isNone) (W3.putObj l (.loop (rec (if jump.isNone then .ready else .done) jump))) ∧
      (W3.putObj l (.loop (rec (if jump.isNone then .ready else .done) jump))).heap[l]? = some (.loop (rec (if jump.isNone then .ready else .done) jump)) ∧
      Turn l [] W3 (W3.putObj l (.loop (rec (if jump.isNone then .ready else .done) jump))) ∧ KeepsL l R W (W3.putObj l (.loop (rec (if jump.isNone then .ready else .done) jump))) := fun jump W3 hO3 => by
    have hl3 := hO3.others l _ hl2 rfl
    have h4 := run_endRound (P := P) jump hl3
    have h5 := (Turn.refl l [] W3).putObj (o' := .loop (rec (if jump.isNone then .ready else .done) jump)) (Nat.le_refl _) hl3 rfl (by simp)
    rw [hrec] at h4 h5 ⊢
    refine ⟨h4, World.putObj_heap_same (Array.getElem?_eq_some_iff.1 hl3).1, h5, ⟨?_, fun k hk => ?_, fun k o hk ho hne => ?_⟩⟩
    · have h1 := hOa.size
      have h2 := hO3.size
      simp only [World.putObj_size] at h2 ⊢
      omega
    · have hkl := hR k hk
      have hlW : l < W.heap.size := (Array.getElem?_eq_some_iff.1 hl).1
      rw [World.putObj_heap_other (by omega), hO3.rows k hk, World.putObj_heap_other (by omega)]
      exact hOa.block k (by omega) (by simp)
    · rw [World.putObj_heap_other hne]
      refine hO3.others k o ?_ ho
      rw [World.putObj_heap_other hne]
      exact hOa.get hk (by simp)
  rintro e a3 W3 hp
  cases e with
  | normal =>
    obtain ⟨hk3, hi3⟩ := hp
    obtain ⟨hr, hl4, ht4, hO4⟩ := fin none W3 hk3
    exact ⟨_, _, hr, hO4, .inl ⟨rfl, hI _ _ _ hi3 ht4, hl4⟩⟩
  | ret =>
    obtain ⟨hk3, hi3⟩ := hp
    obtain ⟨hr, hl4, ht4, hO4⟩ := fin (some .ret) W3 hk3
    exact ⟨_, _, hr, hO4, .inr ⟨rfl, .ret, hIx _ _ _ _ hi3 ht4, hl4⟩⟩
  | exit id =>
    obtain ⟨hk3, hi3⟩ := hp
    obtain ⟨hr, hl4, ht4, hO4⟩ := fin (some (.exit id)) W3 hk3
    exact ⟨_, _, hr, hO4, .inr ⟨rfl, .exit id, hIx _ _ _ _ hi3 ht4, hl4⟩⟩
  | goto t =>
    obtain ⟨hk3, hi3⟩ := hp
    obtain ⟨hr, hl4, ht4, hO4⟩ := fin (some (.goto t)) W3 hk3
    exact ⟨_, _, hr, hO4, .inr ⟨rfl, .goto t, hIx _ _ _ _ hi3 ht4, hl4⟩⟩
  | panic ch => exact hp.elim
  | outgrown => exact hp.elim
/-- THE LAW, at an outermost loop, where a round's frame is known but for one block that its assignment has laid -/
theorem wpIn_rangeK2 {α : Type} {g : Operand} {ps : Array Tmp} {assign body : Code} {Q : Exit → Act → World → Prop} {a : Act} {w : World}
    (hro : F.round = none) (h1 : 1 ≤ n) {gf : Nat} {lb : Array Value} (hg : a.eval g = .func (.func gf) #[] lb) (hFg : F.fn gf) (eg : ∀ args w, (callFunc gf args).run P w = .ok (.enter gf args) w)
    {encs : α → Array Value} {R : List Nat} {S Sp : List α → Prop} {N : Nat} {w0 : World} (hseq : SeqK F (n - 1) P gf lb encs R S Sp N w0) (hb0 : Below w0.heap.size w0 w) (hps : ∀ x, (encs x).size = ps.size)
    (hR : ∀ k ∈ R, k < w.heap.size)
    (I : List α → World → Prop) (Ix : Code → List α → World → Prop) (hI : AbT w.heap.size [] I) (hIx : ∀ c, AbT w.heap.size [] (Ix c)) (h0 : I [] w) (fr : α → Nat → Act) (Bx : α → Nat → World → Prop) (hBx : ∀ x b, AbT w.heap.size [] (fun (_ : Unit) W => Bx x b W))
    (hassign : ∀ (l : Nat) (pre : List α) (x : α) (W : World) (K : Act → World → Prop), w.heap.size ≤ l → I pre W → (∀ b W', Only [] W W' → Bx x b W' → K (fr x b) W') →
      assign.wpIn (F.inRound l) (n - 1 - 1) P (Exit.then K (fun _ _ _ => False)) { tmps := (ps.zip (encs x)).foldl (fun t (p, v) => t.setIfInBounds p v) a.tmps, defers := [] } W)
    (hbody : ∀ (l : Nat) (pre : List α) (x : α) (b : Nat) (W : World), w.heap.size ≤ l → (∃ r, W.heap[l]? = some (.loop r)) → I pre W → Bx x b W → pre.length < N → Sp (pre ++ [x]) → body.wpIn (F.inRound l) (n - 1 - 1) P (postK R I Ix (pre ++ [x]) W) (fr x b) W)
    (hdone : ∀ (D : Nat) (xs : List α) (W : World), w.heap.size ≤ D → S xs → I xs W → W.heap[D]? = some (.deferred (some [])) → Q .normal { a with defers := { target := .collected D, args := #[] } :: a.defers } W)
    (hstop : ∀ (D : Nat) (c : Code) (pre : List α) (W : World), w.heap.size ≤ D → Sp pre → Ix c pre W → W.heap[D]? = some (.deferred (some [])) → c.wpIn F n P Q { a with defers := { target := .collected D, args := #[] } :: a.defers } W) :
    (Code.rangeFunc g ps assign body).wpIn F n P Q a w := by
  refine wpIn_rangeFunc ?_
  intro fn hfn
  rw [hro]
  obtain ⟨rec, hrec⟩ : ∃ rec : LoopState → Option Code → Loop, rec = fun st pe => { state := st, pending := pe, fn, tmps := a.tmps, params := ps, assign, body, defers := w.heap.size } := ⟨_, rfl⟩
  obtain ⟨W1, hW1⟩ : ∃ W1, (w.alloc (.deferred (some []))).alloc (.loop (rec .ready none)) = W1 := ⟨_, rfl⟩
  have hL1 : W1.heap[w.heap.size + 1]? = some (.loop (rec .ready none)) := by
    rw [← hW1]; have := World.alloc_heap_new (w.alloc (.deferred (some []))) (.loop (rec .ready none)); rwa [World.size_alloc] at this
  have hK1 : W1.heap[w.heap.size]? = some (.deferred (some [])) := by
    rw [← hW1]; exact (Below.heap_alloc _ _ _ (by simp)).trans (World.alloc_heap_new w _)
  have hO1 : Only [] w W1 := by rw [← hW1]; exact ((Only.refl [] w).alloc _).alloc _
  have hb1 : Below w0.heap.size w0 W1 := hb0.trans ((hO1.below (B := w.heap.size) (by simp) (Nat.le_refl _)).mono hb0.size)
  have hmono : ∀ {β : Type} {J : β → World → Prop}, AbT w.heap.size [] J → AbT (w.heap.size + 1) [] J := fun h => h.mono (by omega) (fun _ h => h) (fun k hk => by cases hk)
  refine ⟨w.heap.size + 1, [{ target := .collected w.heap.size, args := #[] }], W1, { target := .fn (.func gf) lb, args := #[.func (.yield (w.heap.size + 1)) #[] #[]] }, W1, gf,
    #[.func (.yield (w.heap.size + 1)) #[] #[]] ++ lb, W1, ?_, ?_, ?_, ?_, fun _ => h1, ?_⟩
  · rw [← hW1, hrec]; exact run_enterLoop_outer _ _ _ _ _
  · simp only [resolve, hg]
    simp [go_sem]
  · intro f' hf'; simp [Target.leads] at hf'; subst hf'; exact hFg
  · simp [invoke, go_sem, eg]
  · refine (rangeK_core (l := w.heap.size + 1) hfn rec ⟨_, hrec⟩ hseq hb1 hps (by have := hb0.size; omega) hL1 (fun k hk => by have := hR k hk; omega)
      (fun pre W => I pre W ∧ W.heap[w.heap.size]? = some (.deferred (some []))) (fun c pre W => Ix c pre W ∧ W.heap[w.heap.size]? = some (.deferred (some [])))
      ((hmono hI).and (AbT.heap (fun _ => .deferred (some [])) (by simp) (fun _ => .inl (by omega)))) (fun c => (hmono (hIx c)).and (AbT.heap (fun _ => .deferred (some [])) (by simp) (fun _ => .inl (by omega))))
      ⟨hI _ _ _ h0 (Turn.of_only hO1), hK1⟩ (fun x a' W => ∃ b, a' = fr x b ∧ Bx x b W) (fun x a' => hmono (fun s A W h ht => by obtain ⟨b, h1, h2⟩ := h; exact ⟨b, h1, hBx x b s A W h2 ht⟩)) (fun pre x W K hi hK => hassign _ pre x W K (by omega) hi.1 (fun b W' hO hb => hK _ W' hO ⟨b, rfl, hb⟩)) ?_).mono ?_
    · rintro pre x a' W hr ⟨hi, hk⟩ ⟨b, rfl, hb⟩ hlen hsp
      exact wpIn_mono (hbody _ pre x b W (by omega) hr hi hb hlen hsp) (postK_mono (fun W' hO h => ⟨hO, h, hO.others _ _ hk rfl⟩) (fun c W' hO h => ⟨hO, h, hO.others _ _ hk rfl⟩))
    · rintro e W2 ⟨⟨v, rfl⟩, (⟨xs, hS, ⟨hi, hk⟩, hl⟩ | ⟨pre, hSp, c, ⟨hi, hk⟩, hl⟩)⟩
      · exact ⟨none, _, by have := run_endLoop (P := P) hl (by rw [hrec]; simp); rw [hrec] at this; exact this, hdone _ xs _ (Nat.le_refl _) hS (hI _ _ _ hi ((Turn.refl _ [] W2).putObj (by omega) hl rfl (by simp) _)) ((World.putObj_heap_other (by omega)).trans hk)⟩
      · exact ⟨some c, _, by have := run_endLoop (P := P) hl (by rw [hrec]; simp); rw [hrec] at this; exact this, hstop _ c pre _ (Nat.le_refl _) hSp (hIx c _ _ _ hi ((Turn.refl _ [] W2).putObj (by omega) hl rfl (by simp) _)) ((World.putObj_heap_other (by omega)).trans hk)⟩
end Go.Rv
namespace Go.Proofs.Ytoiephmngdecaaa
open Go.RowKit Go.Rv Go.Shelf
set_option linter.unusedVariables false
attribute [local go_sem] Oper.semAt_some
set_option maxRecDepth 100000 in
set_option maxHeartbeats 4000000 in
theorem eallK_stops (n : Nat) (hn : 1 ≤ n) (B rb : Nat) (a : Option Addr) (cp : Nat) (es : List BE) (w : World) (hB : w.cell? ⟨B, 0, none⟩ = some (.slice a es.length cp)) (hR : RowOf w 6 BEC (fun _ => True) a es) (hrb : ∀ x, a = some x → x.block = rb) (hrl : rb < w.heap.size) (hl : es.length ≤ 100000) :
    SeqK Fence.wide n Try.prog 57 #[.pointer (some ⟨B, 0, none⟩)] ieV [rb] (fun ys => ys = es.zipIdx) (fun pre => pre <+: es.zipIdx) es.length w := by
  intro r J Jx W hW hr0 hrW hJ hJx hY h0
  have hBW : W.cell? ⟨B, 0, none⟩ = some (.slice a es.length cp) := (hW.cell (p := ⟨B, 0, none⟩) (block_lt_of_cell hB)).trans hB
  have HR := Lib.hid (hR.below hW)
  have hz := (zero_of_info Try.infoEnt).1
  have HIE := Lib.hid (fun e => esize e)
  have HON := Lib.hid (fun e => BEC_one e)
  have HSZ : Hid (∀ e : BE, (BEC BE.zero).size = (BEC e).size) := Lib.hid (fun e => by rw [BEC_size, BEC_size])
  have hzW := hW.size
  clear hR hB hW
  refine callsIn_of_wp Try.func57 rfl trivial ?_ rfl
  simp only [Try.ntmps57, List.size_toArray, List.length_cons, List.length_nil, Nat.reduceAdd, Nat.reduceSub, Array.replicate_succ, Array.replicate_zero, List.push_toArray, List.append_toArray, List.nil_append, List.cons_append]
  gi_wp2
  gi_loopw [7] (fun i wr => ∃ k : Nat, k ≤ es.length ∧ i = .int .i64 k ∧ J (es.take k).zipIdx wr ∧ RowOf wr 6 BEC (fun _ => True) a es ∧ W.heap.size ≤ wr.heap.size) (fun i _ => es.length - (intOf i).toNat)
  case atStart => exact ⟨0, Nat.zero_le _, rfl, h0, HR.out, Nat.le_refl _⟩
  case round =>
    obtain ⟨k, hk, rfl, hJk, hrow, hzr⟩ := hrel
    by_cases hlt : k < es.length
    · obtain ⟨x, hx⟩ : ∃ x, es[k]? = some x := ⟨_, List.getElem?_eq_getElem hlt⟩
      obtain ⟨b, o, rfl, hbl, -, d0, d1, d2, d3, d4, d5⟩ := hrow.ent6 hx
      have HBB : Hid (b = rb) := Lib.hid (hrb _ rfl)
      have HS := Lib.hid (zip_take es hx)
      have HP : Hid ((es.take k).zipIdx ++ [(x, k)] <+: es.zipIdx) := Lib.hid (by rw [← HS.out]; exact zip_full es _)
      obtain ⟨WA, hWA⟩ : ∃ WA, wr.alloc (.cells (BEC x) 54) = WA := ⟨_, rfl⟩
      have hba : Below wr.heap.size wr WA := by rw [← hWA]; exact (Below.refl wr.heap.size wr).alloc (Nat.le_refl _) _
      have hop : WA.heap[wr.heap.size]? = some (.cells (BEC x) 54 (0, 0)) := by rw [← hWA]; exact heap_alloc_new wr _
      have hJA := hJ _ _ _ hJk ((Turn.of_below hba : Turn W.heap.size [] wr WA))
      have HRA := Lib.hid (hrow.below hba)
      have zA := hba.size
      obtain ⟨fn, tmps, assign, body, hy', hRd⟩ := hY (es.take k).zipIdx (x, k) WA hJA (by rw [zip_len _ hk]; exact hlt) HP.out
      have hy : (Instr.yield r #[.int .i64 (k : Nat), .agg (BEC x)]).run Try.prog WA = .ok (.round r fn tmps assign body) WA := hy'
      have HWA := Lib.hid hWA
      have HOP := Lib.hid hop
      have HRD := Lib.hid hRd
      clear hx hy' hJk hrow hba hop hJA hWA hRd
      gi_wp2_with (first | (refine wpListIn_store_row (by rfl) 54 _ _ rfl wr.heap.size (BEC x) rfl rfl 54 (BEC BE.zero) (heap_alloc_new wr _) (HIE.out _) (HSZ.out _) (HON.out _) ?_; rw [World.setRow_alloc_new, HWA.out]; clear d0 d1 d2 d3 d4 d5) | (refine wpListIn_row_on (by rfl) 54 _ rfl wr.heap.size rfl 54 _ _ _ HOP.out Try.underlying54 rfl (HIE.out _) ?_))
      refine HRD.out.mono ?_
      rintro e W3 ⟨hO3, (⟨rfl, hJ3⟩ | ⟨rfl, hJx3⟩)⟩
      · have HRW : Hid (RowOf W3 6 BEC (fun _ => True) (some ⟨b, o, none⟩) es) := Lib.hid (by
          rcases HRA.out with h | ⟨b', o', e, hb', hc⟩
          · exact .inl h
          · cases e
            refine .inr ⟨b, o, rfl, Nat.lt_of_lt_of_le hb' hO3.size, fun k x hk => ⟨fun j hj => ?_, trivial⟩⟩
            rw [← (hc k x hk).1 j hj]
            exact World.cell?_of_block (hO3.rows b (by simp [HBB.out])))
        have z3 := hO3.size
        clear hy
        gi_wp2
        go_roundw
        case rel => exact ⟨k + 1, by omega, by go_num, by rw [HS.out]; exact hJ3, HRW.out, by omega⟩
        case measure => simp [intOf]; omega
      · clear hy
        gi_wp2
        refine bodyPost_ret (results_none rfl _ _ _) rfl ?_
        exact ⟨⟨_, rfl⟩, .inr ⟨_, HP.out, hJx3⟩⟩
    · obtain rfl : k = es.length := by omega
      rw [List.take_length] at hJk
      gi_wp2
      go_end0
      exact ⟨⟨_, rfl⟩, .inl ⟨_, rfl, hJk⟩⟩
end Go.Proofs.Ytoiephmngdecaaa
namespace Go.Rv
open Go.RowKit
set_option linter.unusedVariables false
theorem wpListIn_appendM {α : Type} {F : Fence} {m : Nat} {P : Program} {w : World} {ops : Array Oper} {rest : List Oper} {o : Oper} {a : Act} {Q' : Exit → Act → World → Prop} (hgd : o.guard = none) (s x : Operand) (t : TypeId)
    (ho : o.op = .call { callee := .builtin .append, args := #[s, x], argTypes := #[t, t] })
    (e : TypeId) (n : Nat) (X : α → Array Value) (Q : α → Prop) (hK : Kin n X Q) (h0 : 0 < n) (z : Value) (bytes : Nat) (ht : P.underlying t = some (.slice e)) (hinfo : (P.info? e).map (fun i => (i.zero, i.size, i.bytes)) = some (some z, n, bytes)) (hzs : z.cells.size = n)
    (base : Nat) (v : Value) (xs : List α) (hs : a.eval s = v) (hown : OwnM w e n X Q base v xs) (ad : Addr) (cap : Nat) (ms : List α) (hx : a.eval x = .slice (some ad) ms.length cap) (hm : RowOf w n X Q (some ad) ms)
    (h63 : xs.length + ms.length ≤ maxLen) (hbytes : (xs.length + ms.length) * bytes ≤ 140737488355328) (hbase : base ≤ w.heap.size)
    (h : ∀ v' w', OwnM w' e n X Q base v' (xs ++ ms) → w.grownBy w' v.ownBlock → (v'.ownBlock = v.ownBlock ∨ v'.ownBlock = some w.heap.size) → wpListIn F m P ops Q' rest (a.put o.dst v') w') : wpListIn F m P ops Q' (o :: rest) a w := by
  obtain ⟨i0, hi, hz0, hz1, hz2⟩ := info_parts hinfo
  have hq : ∀ y ∈ ms, Q y := hm.all
  refine wpListIn_append_own_at w hgd s x t ho base e i0 z n bytes ht hi hz0 hz1 hz2 hzs h0 v xs.length _ hs hown.1 ad ms.length cap (flatM X ms) hx (flatM_length fun y hy => hK.size y (hq y hy)) ?_ ?_ h63 hbytes hbase ?_
  · intro j u hu
    have hj : j < ms.length * n := by
      have := (List.getElem?_eq_some_iff.1 hu).1
      rwa [flatM_length fun y hy => hK.size y (hq y hy)] at this
    obtain ⟨y, hy⟩ : ∃ y, ms[j / n]? = some y := ⟨_, List.getElem?_eq_getElem (by rwa [Nat.div_lt_iff_lt_mul h0])⟩
    obtain ⟨b, o, e, hb, hc, -⟩ := hm.at hy
    cases e
    have h1 := hc (j % n) (Nat.mod_lt _ h0)
    have h2 := flatM_at (fun y hy => hK.size y (hq y hy)) hy (Nat.mod_lt j h0)
    rw [Nat.div_add_mod' j n] at h2
    rw [add_lit, ← hu, h2, ← h1, Nat.add_assoc, Nat.div_add_mod' j n]
  · intro u hu
    simp only [flatM, List.mem_flatMap] at hu
    obtain ⟨y, hy, hu⟩ := hu
    have := hK.one y (hq y hy)
    rw [Array.all_eq_true_iff_forall_mem] at this
    exact this u (by simpa using hu)
  · intro v' w' h1 h2 _ h4
    refine h v' w' ⟨by rw [List.length_append, flatM_app]; exact h1, fun y hy => ?_⟩ h2 h4
    rcases List.mem_append.1 hy with hy | hy
    · exact hown.2 y hy
    · exact hq y hy
theorem wpListIn_buildSlice {F : Fence} {m : Nat} {P : Program} {ops : Array Oper} {rest : List Oper} {o : Oper} {a : Act} {w : World} {Q : Exit → Act → World → Prop} (hg : o.guard = none) (t e : TypeId) (len : Nat) (parts : Array (Nat × Operand)) (ho : o.op = .buildSlice t len parts)
    (cells : Array Value) (ie : TypeInfo) (z : Value)
    (hu : P.underlying t = some (.slice e)) (hie : P.info? e = some ie) (hz : ie.zero = some z) (hsmall : ¬ len * ie.size > 2 ^ 24) (hpos : ¬ len * ie.size = 0)
    (hf : Instr.fill (fun i => some (i * ie.size, ie.size)) ((Array.range (len * ie.size)).map (z.cells[· % z.cells.size]!)) (parts.map fun (i, x) => (i, a.eval x)).toList = some cells)
    (h : wpListIn F m P ops Q rest (a.put o.dst (.slice (some ⟨w.heap.size, 0, none⟩) len len)) (w.alloc (.cells cells e))) : wpListIn F m P ops Q (o :: rest) a w := by
  refine wpListIn_plain hg fun K hK => ?_
  unfold Oper.wpIn
  refine ⟨by simp [Oper.about, ho], ?_⟩
  rw [Oper.semAt_plain F _ _ (by rw [ho]; intro c hc'; cases hc')]
  simp only [execOp, ho, Sem.run_bind, run_buildSlice w t e len _ cells ie z hu hie hz hsmall hpos hf, Result.andThen_ok]
  exact hK _ _ h
/-- a row of the call's own abides turns -/
theorem OwnM.turn {α : Type} {B : Nat} {a w : World} {e : TypeId} {n : Nat} {X : α → Array Value} {Q : α → Prop} {base : Nat} {v : Value} {xs : List α} (h : OwnM a e n X Q base v xs) (ht : Turn B [] a w) : OwnM w e n X Q base v xs := by
  obtain ⟨⟨h1, hr⟩, hl⟩ := h
  refine ⟨⟨h1, ?_⟩, hl⟩
  rcases hr with hr | ⟨g, cap, cur, rfl, hg, hh, r⟩
  · exact .inl hr
  · exact .inr ⟨g, cap, cur, rfl, hg, ht.block g _ hh (by simp) (.inr rfl), r⟩
end Go.Rv
namespace Go.Rv
open Go.RowKit
theorem Keeps.grown {R : List Nat} {a w w' : World} {row : Option Nat} (h : Keeps R a w) (hg : w.grownBy w' row) (hR : ∀ k ∈ R, k < w.heap.size) (hr : ∀ k, row = some k → k ∉ R ∧ ∀ o, w.heap[k]? = some o → o.isCells = true) : Keeps R a w' :=
  ⟨Nat.le_trans h.size hg.size, fun k hk => (hg.block k (hR k hk) (fun e => (hr k e.symm).1 hk)).trans (h.rows k hk), fun k o hk ho => by
    have h1 := h.others k o hk ho
    refine (hg.block k (Array.getElem?_eq_some_iff.1 h1).1 (fun e => ?_)).trans h1
    have h2 := (hr k e.symm).2 o h1
    rw [ho] at h2; cases h2⟩
theorem Keeps.setCell {R : List Nat} {a w : World} (h : Keeps R a w) {p : Addr} (hp : p.block ∉ R) (u : Value) : Keeps R a (w.setCell p u) :=
  h.trans ⟨by simp [World.setCell], fun k hk => Below.heap_setCell w p u k (fun e => hp (by rw [← e]; exact hk)), fun k o hk ho => (KeepsOthers.setCell w p u).same k o hk ho⟩
theorem Keeps.of_below {R : List Nat} {a w : World} (h : Below a.heap.size a w) (hR : ∀ k ∈ R, k < a.heap.size) : Keeps R a w :=
  ⟨h.size, fun k hk => h.block k (hR k hk), fun k _ hk _ => (h.block k (Array.getElem?_eq_some_iff.1 hk).1).trans hk⟩
end Go.Rv
namespace Go.Rv
open Go.RowKit
theorem rres_ct17 {P : Program} {fn : Func} {p q0 q1 : Tmp} {ty : TypeId} (h : fn.results = #[.cell p ty, .tmp q0, .tmp q1]) (tmps : Array Value) (w : World) (g : Nat) (t : TypeId) (cs : Array Value) (fr : Nat × Nat) (d : TypeDesc)
    (hp : tmps.getD p undef = .pointer (some ⟨g, 0, none⟩)) (hg : w.heap[g]? = some (.cells cs t fr)) (hu : P.underlying ty = some d) (hd : (match d with | .struct _ | .array _ _ => true | _ => false) = true) (hi : (P.info? ty).map (·.size) = some cs.size) :
    (results fn tmps).run P w = .ok (.tuple #[.agg cs, tmps.getD q0 undef, tmps.getD q1 undef]) w := by
  have hp' : tmps[p]?.getD undef = .pointer (some ⟨g, 0, none⟩) := by simpa using hp
  simp [results, h, hp', asAddr, run_loadVar_row w g t ty cs fr d hg hu hd hi]
end Go.Rv
namespace Go.Proofs.Ytoiephmngdecaaa
namespace Rl
/-- entries that are set, one behind the other -/
def setAll (g : Geo.G) (es : List BE) (l : List (Int × BE)) : List BE := l.foldl (fun es x => setEs g es x.1 x.2) es
/-- the entries of the map that is made -/
def madeEs (g : Geo.G) (l : List (Int × BE)) : List BE := setAll g (List.replicate g.b.toNat BE.zero) l
theorem setAll_ok {g : Geo.G} : ∀ {l : List (Int × BE)} {es : List BE}, (∀ x ∈ l, Op64 x) → MapOk g es → MapOk g (setAll g es l)
  | [], es, _, h => h
  | x :: l, es, hl, h => setAll_ok (l := l) (fun y hy => hl y (by simp [hy])) (setEs_ok h (hl x (by simp)).2 x.1)
theorem setAll_take {g : Geo.G} {es : List BE} {l : List (Int × BE)} {k : Nat} {x : Int × BE} (h : l[k]? = some x) : setAll g es (l.take (k + 1)) = setEs g (setAll g es (l.take k)) x.1 x.2 := by
  unfold setAll
  rw [List.take_add_one, h, List.foldl_append]
  rfl
end Rl
open Go.RowKit Go.Rv Go.Shelf
set_option linter.unusedVariables false
attribute [local go_sem] Oper.semAt_some
theorem built_snm (a b c : Int) (p : Nat) : Try.prog.built 29 [(0, .int .i64 a), (1, .int .i64 b), (2, .int .i64 c), (3, .pointer (some ⟨p, 0, none⟩))] = some (SnC a b c p) := by kernel_rfl
def SZ : Array Value := #[.int .i64 0, .int .i64 0, .int .i64 0, .pointer none]
theorem Try.infoSnz : (Try.prog.info? 29).map (fun i => (i.zero, i.size)) = some (some (.agg SZ), 4) := by kernel_rfl
theorem built_snz : Try.prog.built 29 [] = some SZ := by kernel_rfl
theorem only_setRow (w : World) (g : Nat) (X : Array Value) : Only [g] w (w.setRow g X) := only_set1 w g X
theorem kinR : Kin 6 BEC (fun _ => True) := ⟨fun e _ => BEC_size e, fun e _ => BEC_one e⟩
theorem Try.infoIt17 : (Try.prog.info? 87).map (fun i => (i.zero, i.size)) = some (some (.agg (opC (0, BE.zero))), 7) := by kernel_rfl
theorem filled_re (x : BE) (ie : Array Value) (h0 : ie = BEC BE.zero) : Instr.fill (fun i => some (i * 6, 6)) ((Array.range (1 * 6)).map (ie[· % 6]!)) [(0, .agg (BEC x))] = some (BEC x) := by
  subst h0
  obtain ⟨a, b, c, d, e, f⟩ := x
  kernel_rfl
theorem Try.infoReZ : (Try.prog.info? 55).map (fun i => (i.zero, i.size)) = some (some (.agg (BEC BE.zero)), 6) := by kernel_rfl
/-- a slice of one of the document's entries is made -/
theorem wpListIn_slice1e {F : Fence} {m : Nat} {w : World} {ops : Array Oper} {rest : List Oper} {o : Oper} {a : Act} {Q : Exit → Act → World → Prop} (hg : o.guard = none) (x : Operand) (ho : o.op = .buildSlice 30 1 #[(0, x)]) (f : BE) (hx : a.eval x = .agg (BEC f))
    (h : wpListIn F m Try.prog ops Q rest (a.put o.dst (.slice (some ⟨w.heap.size, 0, none⟩) 1 1)) (w.alloc (.cells (BEC f) 55))) : wpListIn F m Try.prog ops Q (o :: rest) a w := by
  have hi := Try.infoReZ
  cases hie : Try.prog.info? 55 with
  | none => rw [hie] at hi; cases hi
  | some ie =>
    rw [hie, Option.map_some, Option.some.injEq, Prod.mk.injEq] at hi
    obtain ⟨hz, hs⟩ := hi
    refine wpListIn_buildSlice hg 30 55 1 #[(0, x)] ho (BEC f) ie (.agg (BEC BE.zero)) Try.underlying30 hie hz (by rw [hs]; decide) (by rw [hs]; decide) ?_ h
    rw [hs]
    have h1 := filled_re f _ rfl
    simp only [List.map_toArray, List.map_cons, List.map_nil, hx]
    exact h1
theorem BmIs.turn {B : Nat} {w w' : World} {p le ll ce cl : Nat} {g : Geo.G} {es : List BE} {lv : List Int} (h : BmIs w p le ll ce cl g es lv) (ht : Turn B [] w w') : BmIs w' p le ll ce cl g es lv := by
  obtain ⟨hp, ⟨L, h1, h2⟩, ⟨V, h3, h4⟩, h5, h6⟩ := h
  exact ⟨ht.block p _ hp (by simp) (.inr rfl), ⟨L, ht.block le _ h1 (by simp) (.inr rfl), h2⟩, ⟨V, ht.block ll _ h3 (by simp) (.inr rfl), h4⟩, h5, h6⟩
theorem zip_fst' (es : List BE) : es.zipIdx.map (·.1) = es := by simp
theorem Try.infoSlE : (Try.prog.info? 30).map (fun i => (i.zero, i.size)) = some (some (.slice none 0 0), 1) := by kernel_rfl
set_option maxRecDepth 100000 in
set_option maxHeartbeats 16000000 in
theorem made17_core (g : Geo.G) (n : Nat) (hbn : g.b = n) (hr : Geo.right g = true) (a : Option Addr) (l : List (Int × BE)) (cp : Nat) (epoch next : Int) (w : World) (hI : RowOf w 7 opC Op64 a l) (hl : l.length ≤ 60) :
    Calls Try.prog 10 #[.agg (GC g), .slice a l.length cp, .int .i64 epoch, .int .i64 next] w fun e w' => ∃ p le ll v, e = .returned (.tuple #[.agg (SnC 1 epoch next p), v, .bool (Sn.right 1 epoch next (Rl.madeEs g l))]) ∧ BmIs w' p le ll n (nz g) g (Rl.madeEs g l) (liveL (nz g) (Rl.madeEs g l)) ∧ MapOk g (Rl.madeEs g l) ∧ OwnM w' 55 6 BEC (fun _ => True) w.heap.size v (Rl.madeEs g l) ∧ (w.heap.size ≤ p ∧ w.heap.size ≤ le ∧ w.heap.size ≤ ll) ∧ Below w.heap.size w w' := by
  obtain ⟨RB, hRB⟩ : ∃ b, Sn.right 1 epoch next (Rl.madeEs g l) = b := ⟨_, rfl⟩
  rw [hRB]
  have HRB := Lib.hid hRB
  clear hRB
  have hgt : g.b.toNat = n := by rw [hbn]; rfl
  have hs := ((Geo.right_iff g).1 hr).1
  have hn2 : n ≤ 256 := by have := hs.2.2.2.1.2; omega
  have HRT := Lib.hid hr
  have HN : Hid (∀ W, Calls Try.prog 22 #[.agg (GC g)] W fun x w' => ∃ p le ll, x = .returned (.tuple #[.pointer (some ⟨p, 0, none⟩), .int .i64 0]) ∧ BmIs w' p le ll n (nz g) g (List.replicate n BE.zero) (liveL (nz g) (List.replicate n BE.zero)) ∧ W.heap.size ≤ p ∧ W.heap.size ≤ le ∧ W.heap.size ≤ ll ∧ Below W.heap.size W w') := Lib.hid (fun W => by have := bnew_any g hr W; rwa [hgt] at this)
  have HM0 : Hid (MapOk g (List.replicate n BE.zero)) := Lib.hid (by have := mapOk_new g hr; rwa [hgt] at this)
  have HMD : Hid (Rl.madeEs g l = Rl.setAll g (List.replicate n BE.zero) l) := Lib.hid (by unfold Rl.madeEs; rw [hgt])
  have HI := Lib.hid hI
  have HGI := Lib.hid (gsize (g := g))
  have HSI : Hid ((Try.prog.info? 29).map (·.size) = some SZ.size) := Lib.hid (zero_of_info Try.infoSnz).2
  have HII : Hid (∀ x : Int × BE, (Try.prog.info? 87).map (·.size) = some (opC x).size) := Lib.hid (fun x => (zero_of_info Try.infoIt17).2)
  have HIL : Hid (∀ x : Int × BE, (Try.prog.info? 87).map (·.size) = some (opC x).toList.length) := Lib.hid (fun x => (zero_of_info Try.infoIt17).2)
  have HIE := Lib.hid (fun e => esize e)
  have HIEL : Hid (∀ e : BE, (Try.prog.info? 54).map (·.size) = some (BEC e).toList.length) := Lib.hid (fun e => by rw [Array.length_toList]; exact esize e)
  have HON := Lib.hid (fun e => BEC_one e)
  have HOO := Lib.hid (fun x => opC_one x)
  have HZO : Hid (∀ x : Int × BE, (opC (0, BE.zero)).size = (opC x).size) := Lib.hid (fun x => rfl)
  have HSZ : Hid (∀ e : BE, (BEC BE.zero).size = (BEC e).size) := Lib.hid (fun e => by rw [BEC_size, BEC_size])
  have hzo := (zero_of_info Try.infoIt17).1
  have hzs := (zero_of_info Try.infoSnz).1
  have hzr := (zero_of_info Try.infoSlE).1
  have hz := (zero_of_info Try.infoEnt).1
  have HIR : Hid ((Try.prog.info? 55).map (fun i => (i.zero, i.size, i.bytes)) = some (some (.agg (BEC BE.zero)), 6, 48)) := Lib.hid (by kernel_rfl)
  have HST := Lib.hid (fun (W : World) (p le ll : Nat) (es : List BE) hM hW (k : Int) e hn => bset_any W p le ll n (nz g) g es hr hM hW k e hn)
  have t1 : decide (60 < (l.length : Int)) = false := decide_eq_false (by omega)
  obtain ⟨XZ, hXZ⟩ : ∃ XZ, SZ = XZ := ⟨_, rfl⟩
  have HZS : Hid (∀ p, XZ.size = (SnC 1 epoch next p).size) := Lib.hid (fun p => by rw [← hXZ]; rfl)
  rw [hXZ] at HSI hzs
  have hB0 : Below w.heap.size w ((w.alloc (.cells (GC g) 23)).alloc (.cells XZ 29)) := ((Below.refl _ _).alloc (Nat.le_refl _) _).alloc (by simp) _
  obtain ⟨W0, hW0⟩ : ∃ W0, (w.alloc (.cells (GC g) 23)).alloc (.cells XZ 29) = W0 := ⟨_, rfl⟩
  have hG0 : W0.heap[w.heap.size]? = some (.cells (GC g) 23 (0, 0)) := by rw [← hW0, alloc_old _ _ (by simp)]; exact alloc_new _ _ rfl
  have hZ0 : W0.heap[w.heap.size + 1]? = some (.cells XZ 29 (0, 0)) := by rw [← hW0]; exact alloc_new _ _ (by simp)
  rw [hW0] at hB0
  have HW0 := Lib.hid hW0
  have z0 : w.heap.size + 1 < W0.heap.size := (Array.getElem?_eq_some_iff.1 hZ0).1
  have HZ0 := Lib.hid hZ0
  have HG0 := Lib.hid hG0
  clear hI hs hr hgt hW0 hZ0 hXZ hbn
  obtain ⟨GX, hGX⟩ : ∃ GX, GC g = GX := ⟨_, rfl⟩
  rw [hGX] at HN HGI hG0 HG0 HW0 ⊢
  clear hGX
  refine calls_of_marks Try.func10 rfl ?_
  simp only [Try.ntmps10, List.size_toArray, List.length_cons, List.length_nil, Nat.reduceAdd, Nat.reduceSub, Array.replicate_succ, Array.replicate_zero, List.push_toArray, List.append_toArray, List.nil_append, List.cons_append]
  go_upto_region 1 with (fail)
  rw [show (w.alloc (.cells GX 23)).alloc (.cells XZ 29) = W0 from HW0.out]
  go_wp2_with (refine wpList_row_on (by rfl) 23 _ rfl w.heap.size rfl 23 _ _ _ hG0 Try.underlying23 rfl HGI.out ?_)
  refine (HN.out _).mono ?_
  rintro e1 w1 ⟨p, le, ll, rfl, hbm1, q1, q2, q3, hB1⟩
  have HBM1 := Lib.hid hbm1
  have hlt1 := hbm1.lt
  have z1 := hB1.size
  have HG1 := Lib.hid ((hB1.block w.heap.size (by omega)).trans HG0.out)
  have HZ1 := Lib.hid ((hB1.block (w.heap.size + 1) (by omega)).trans HZ0.out)
  have HB1 := Lib.hid (hB0.trans (hB1.mono hB0.size))
  clear hG0 hB0 hbm1 hB1
  go_wp2
  clear t1
  go_loopw [38] (fun u wr => ∃ (k : Nat) (es : List BE), k ≤ l.length ∧ u = .int .i64 k ∧ es = Rl.setAll g (List.replicate n BE.zero) (l.take k) ∧ MapOk g es ∧ BmIs wr p le ll n (nz g) g es (liveL (nz g) es) ∧ Only [le, ll] w1 wr) (fun u _ => l.length - (intOf u).toNat)
  case atStart => exact ⟨0, _, Nat.zero_le _, rfl, rfl, HM0.out, HBM1.out, Only.refl _ _⟩
  case round =>
    obtain ⟨k, es, hk, rfl, hes, hM, hbm, hO⟩ := hrel
    have HES := Lib.hid hes
    have HM := Lib.hid hM
    have HBM := Lib.hid hbm
    have HO := Lib.hid hO
    have zr := hO.size
    clear hes hM hbm hO
    by_cases hlt : k < l.length
    · obtain ⟨x, hx⟩ : ∃ x, l[k]? = some x := ⟨_, List.getElem?_eq_getElem hlt⟩
      obtain ⟨b, o, rfl, hbl, -, h64⟩ := HI.out.at hx
      have hrow : RowOf wr 7 opC Op64 (some ⟨b, o, none⟩) l := (HI.out.below HB1.out).only HO.out (fun y hy => by cases hy; simp; omega)
      have hrg := Rl2.rowOf_range hrow (fun _ _ => rfl) hx
      have HTK : Hid (setEs g es x.1 x.2 = Rl.setAll g (List.replicate n BE.zero) (l.take (k + 1))) := Lib.hid (by rw [Rl.setAll_take hx, ← HES.out])
      have HMN := Lib.hid (setEs_ok HM.out h64.2 x.1)
      obtain ⟨blk, e⟩ := x
      have HEW := Lib.hid h64.2
      have hil := HIL.out (blk, e)
      have hic := HII.out (blk, e)
      have hoc := HOO.out (blk, e)
      have hzc := HZO.out (blk, e)
      obtain ⟨XL, hXL⟩ : ∃ XL, (opC (blk, e)).toList = XL := ⟨_, rfl⟩
      have hXC : opC (blk, e) = XL.toArray := by rw [← hXL]
      rw [hXL] at hrg hil
      rw [hXC] at hic hoc hzc
      have HGX := Lib.hid hrg
      have HIX := Lib.hid hil
      have HIC := Lib.hid hic
      have HOC := Lib.hid hoc
      have HZC := Lib.hid hzc
      obtain ⟨W2, hW2⟩ : ∃ W2, wr.alloc (.cells XL.toArray 87) = W2 := ⟨_, rfl⟩
      have hb2 : Below wr.heap.size wr W2 := by rw [← hW2]; exact (Below.refl _ _).alloc (Nat.le_refl _) _
      have hX2 : W2.heap[wr.heap.size]? = some (.cells XL.toArray 87 (0, 0)) := by rw [← hW2]; exact heap_alloc_new wr _
      have c0 : W2.cell? ⟨wr.heap.size, 0, none⟩ = some (.int .i64 blk) := by rw [cell_of_row _ _ _ _ _ _ hX2, ← hXC]; rfl
      have hre : W2.rangeAt wr.heap.size 1 (BEC e).toList := by
        intro j v hv
        have hj : j < 6 := by have := (List.getElem?_eq_some_iff.1 hv).1; rwa [Array.length_toList, BEC_size] at this
        rw [cell_of_row _ _ _ _ _ _ hX2, ← hXC, ← hv]
        match j, hj with
        | 0, _ => rfl
        | 1, _ => rfl
        | 2, _ => rfl
        | 3, _ => rfl
        | 4, _ => rfl
        | 5, _ => rfl
      have hiel := HIEL.out e
      obtain ⟨EL, hEL⟩ : ∃ EL, (BEC e).toList = EL := ⟨_, rfl⟩
      have hEC : BEC e = EL.toArray := by rw [← hEL]
      have HSE := Lib.hid (HST.out W2 p le ll es HM.out (HBM.out.below hb2) blk e HEW.out)
      rw [hEL] at hre hiel
      rw [hEC] at HSE
      have HRE := Lib.hid hre
      have HIEL' := Lib.hid hiel
      have HO2 := Lib.hid (HO.out.trans (Only.of_below (S := [le, ll]) hb2))
      have HW2 := Lib.hid hW2
      clear hx h64 hrow hrg hil hic hoc hzc hXL hXC hb2 hW2 hX2 hre hiel hEL hEC
      go_upto_region 7 with (first | (refine wpList_load_mid rfl 87 _ rfl b (o + k * 7) rfl XL _ HGX.out Try.underlying87 rfl HIX.out ?_) | (refine wpList_store_row rfl 87 _ _ rfl wr.heap.size XL.toArray rfl rfl 87 (opC (0, BE.zero)) (heap_alloc_new wr _) HIC.out HZC.out HOC.out ?_; rw [World.setRow_alloc_new]))
      rw [HW2.out]
      go_wp2_with (refine wpList_load_mid rfl 54 _ rfl wr.heap.size 1 rfl EL _ HRE.out Try.underlying54 rfl HIEL'.out ?_)
      refine HSE.out.mono ?_
      rintro e3 w3 ⟨rfl, hbm3, hO3⟩
      have HBM3 := Lib.hid hbm3
      have HO3 := Lib.hid (HO2.out.trans hO3)
      clear hbm3 hO3 c0
      go_wp2
      go_roundw
      case rel => exact ⟨k + 1, _, by omega, by go_num, HTK.out, HMN.out, HBM3.out, HO3.out⟩
      case measure => simp [intOf]; omega
    · obtain rfl : k = l.length := by omega
      have HEF : Hid (es = Rl.setAll g (List.replicate n BE.zero) l) := Lib.hid (by have := HES.out; rwa [List.take_of_length_le (Nat.le_refl _)] at this)
      have hGr := HO.out.get HG1.out (by simp; omega)
      have HZr := Lib.hid (HO.out.get HZ1.out (by simp; omega))
      have HBr := Lib.hid (HB1.out.trans (HO.out.below (B := w.heap.size) (by simp; omega) HB1.out.size))
      have hel : es.length = n := by have h1 := HM.out.len; have h2 := HM0.out.len; rw [List.length_replicate] at h2; omega
      obtain ⟨sb, hsb⟩ : ∃ sb, wr.heap.size = sb := ⟨_, rfl⟩
      obtain ⟨W2, hW2⟩ : ∃ W2, wr.alloc (.cells #[.slice none 0 0] 30) = W2 := ⟨_, rfl⟩
      have hb2 : Below wr.heap.size wr W2 := by rw [← hW2]; exact (Below.refl _ _).alloc (Nat.le_refl _) _
      have hS2 : W2.heap[sb]? = some (.cells #[.slice none 0 0] 30 (0, 0)) := by rw [← hW2, ← hsb]; exact heap_alloc_new wr _
      have HS2 := Lib.hid hS2
      have HZ2 := Lib.hid ((hb2.block (w.heap.size + 1) (by omega)).trans HZr.out)
      have HBM2 := Lib.hid (HBM.out.below hb2)
      have HB2 := Lib.hid (HBr.out.trans (hb2.mono HBr.out.size))
      have z2 : sb < W2.heap.size := (Array.getElem?_eq_some_iff.1 hS2).1
      have HW2 := Lib.hid hW2
      have HSB := Lib.hid hsb
      have zsb : w1.heap.size ≤ sb := by omega
      clear hb2 hW2 hS2 hsb
      go_upto_region 10 with (fail)
      rw [HW2.out, HSB.out]
      have HAL := Lib.hid (ball_any W2 p _ _ _ HBM2.out.cells.1)
      rw [hel] at HAL
      obtain ⟨W3, hW3⟩ : ∃ W3, W2.alloc (.cells #[.slice (some ⟨le, 0, none⟩) n n] 115) = W3 := ⟨_, rfl⟩
      have hb3 : Below W2.heap.size W2 W3 := by rw [← hW3]; exact (Below.refl _ _).alloc (Nat.le_refl _) _
      have hsl : W3.heap[W2.heap.size]? = some (.cells #[.slice (some ⟨le, 0, none⟩) n n] 115 (0, 0)) := by rw [← hW3]; exact heap_alloc_new W2 _
      have hbm3 := HBM2.out.below hb3
      have hlt3 := hbm3.lt
      have HSTP : Hid _ := Lib.hid (eallK_stops 7 (by omega) W2.heap.size le (some ⟨le, 0, none⟩) n es W3 (by rw [hel]; exact cell_of_one hsl) hbm3.rows (fun x e => by cases e; rfl) hlt3.2.1 (by omega))
      have HBM3 := Lib.hid hbm3
      have HS3 := Lib.hid ((hb3.block sb z2).trans HS2.out)
      have HZ3 := Lib.hid ((hb3.block (w.heap.size + 1) (by omega)).trans HZ2.out)
      have HB3 := Lib.hid (HB2.out.trans (hb3.mono HB2.out.size))
      have z3 : W2.heap.size < W3.heap.size := (Array.getElem?_eq_some_iff.1 hsl).1
      have HW3 := Lib.hid hW3
      clear hb3 hsl hbm3 hW3 hGr
      go_wp2_with fail
      refine HAL.out.mono ?_
      rintro e4 w4 ⟨rfl, rfl⟩
      rw [HW3.out]
      go_wp2
      refine (wpIn_wide (n := 8)).1 (wpIn_rangeK2 (encs := ieV) rfl (by omega) (gf := 57) (lb := #[.pointer (some ⟨W2.heap.size, 0, none⟩)]) rfl trivial (enters_of Try.func57 (by kernel_rfl) rfl)
        HSTP.out (Below.refl _ _) (fun _ => rfl) (by simp; omega)
        (fun pre W => ∃ v, W.heap[sb]? = some (.cells #[v] 30 (0, 0)) ∧ OwnM W 55 6 BEC (fun _ => True) W3.heap.size v (pre.map (·.1)) ∧ Only [sb] W3 W)
        (fun cx pre W => False)
        (fun pre A W h ht => by obtain ⟨v, h1, h2, h3⟩ := h; exact ⟨v, ht.block sb _ h1 (by simp) (.inr rfl), h2.turn ht, (AbT.only (β := Unit) (C := []) (S := [sb]) (w₀ := W3) (Nat.le_refl _) (by simp)) () A W h3 ht⟩)
        (fun cx pre A W h _ => h) ⟨.slice none 0 0, HS3.out, OwnM.nil _ _ _ _ _ _, Only.refl _ _⟩
        ?fr (fun x Be W' => W'.heap[Be]? = some (.cells (BEC x.1) 54 (0, 0))) (fun x Be => AbT.row (fun _ => BEC x.1) (by simp)) ?assign ?body ?done ?stop)
      case assign =>
        intro rr pre x W4 K _ hI hK
        have HK4 := Lib.hid hK
        clear hK
        unfold ieV
        gi_wp2_with (refine wpListIn_store_row (by rfl) 54 _ _ rfl W4.heap.size (BEC x.1) rfl rfl 54 (BEC BE.zero) (heap_alloc_new W4 _) (HIE.out _) (HSZ.out _) (HON.out _) ?_; rw [World.setRow_alloc_new])
        obtain ⟨Be, hBe⟩ : ∃ Be, W4.heap.size = Be := ⟨_, rfl⟩
        have hn := heap_alloc_new W4 (.cells (BEC x.1) 54)
        rw [hBe] at hn ⊢
        exact HK4.out Be _ ((Only.refl _ _).alloc _) hn
      case body =>
        rintro rr pre x Be W4 _ hrr ⟨v, hS, hown, hO⟩ hE hlen hsp
        obtain ⟨av, cv, rfl, hrv, -, hc1, hc2, hxv⟩ := hown.shape kinR
        have c9 : W4.cell? ⟨sb, 0, none⟩ = some (.slice av (pre.map (·.1)).length cv) := (cell_of_row _ _ _ _ _ _ hS).trans rfl
        have f9 := frozen_of_row _ sb 0 _ _ hS
        have zO := hO.size
        have hle : le < W4.heap.size := by omega
        have hpl : pre.length + 1 ≤ 300 := by omega
        have HOWN := Lib.hid hown
        have HS := Lib.hid hS
        have HO := Lib.hid hO
        have HE := Lib.hid hE
        have HXV := Lib.hid hxv
        obtain ⟨W5, hW5⟩ : ∃ W5, W4.alloc (.cells (BEC x.1) 55) = W5 := ⟨_, rfl⟩
        have hb5 : Below W4.heap.size W4 W5 := by rw [← hW5]; exact (Below.refl _ _).alloc (Nat.le_refl _) _
        have hX5 : W5.heap[W4.heap.size]? = some (.cells (BEC x.1) 55 (0, 0)) := by rw [← hW5]; exact heap_alloc_new W4 _
        have HROW : Hid (RowOf W5 6 BEC (fun _ => True) (some ⟨W4.heap.size, 0, none⟩) [x.1]) := Lib.hid (one_rowOf hX5 trivial)
        have HOWN5 := Lib.hid (HOWN.out.below hb5)
        have hS5 := (hb5.block sb (by omega)).trans HS.out
        have HS5 := Lib.hid hS5
        have HB5 := Lib.hid hb5
        have HW5 := Lib.hid hW5
        have z5 := hb5.size
        have hbase : W3.heap.size ≤ W5.heap.size := by omega
        obtain ⟨L0, hL0⟩ : ∃ L0, pre.map (·.1) = L0 := ⟨_, rfl⟩
        have hl0 : L0.length + [x.1].length ≤ 300 := by rw [← hL0]; simpa using hpl
        have HL0 := Lib.hid hL0
        rw [hL0] at HOWN HOWN5 HXV c9 HS5
        have HLN := Lib.hid hl0
        clear hS hO hE hxv hown hrv hc1 hlen hsp hrr hb5 hX5 hW5 hS5 hl0 hpl hL0
        gi_wp2_with (first | (refine wpListIn_row_on (by rfl) 54 _ rfl Be rfl 54 _ _ _ HE.out Try.underlying54 rfl (HIE.out _) ?_) | (refine wpListIn_slice1e rfl (.tmp 54) rfl x.1 rfl ?_; rw [HW5.out]) | (refine wpListIn_appendM rfl (.tmp 53) (.tmp 55) 30 rfl 55 6 BEC (fun _ => True) kinR (by decide) (.agg (BEC BE.zero)) 48 Try.underlying30 HIR.out rfl W3.heap.size (.slice av L0.length cv) L0 rfl HOWN5.out ⟨W4.heap.size, 0, none⟩ 1 [x.1] rfl HROW.out (by have := HLN.out; unfold maxLen; omega) (by have := HLN.out; omega) hbase ?_; intro v6 w6 hv6 hg6 hat6; obtain ⟨a6, c6, rfl, hr6, -, hd1, hd2, hx6⟩ := hv6.shape kinR; have HV6 := Lib.hid hv6; have HG6 := Lib.hid hg6; have HAT6 := Lib.hid hat6; have hs6 := HOWN5.out.grown hg6 hbase; have hS6 := (hs6.block sb (by omega)).trans HS5.out; have HS6 := Lib.hid hS6; have HB6 := Lib.hid hs6; have c6' : w6.cell? ⟨sb, 0, none⟩ = some (.slice av L0.length cv) := (cell_of_row _ _ _ _ _ _ hS6).trans rfl; have f6' := frozen_of_row _ sb 0 _ _ hS6; clear hv6 hg6 hat6 hs6 hS6 hr6 hd1 hx6))
        have hown6 : (.slice av L0.length cv : Value).ownBlock = none ∨ ∃ k, (.slice av L0.length cv : Value).ownBlock = some k ∧ W3.heap.size ≤ k ∧ ∃ C, W5.heap[k]? = some (.cells C 55 (0, 0)) := by
          cases hk : (.slice av L0.length cv : Value).ownBlock with
          | none => exact .inl rfl
          | some k =>
            obtain ⟨k1, k2⟩ := HOWN5.out.base_le hk
            exact .inr ⟨k, rfl, k1, k2⟩
        have hOx : Only [sb] W3 w6 := (HO.out.trans (Only.of_below (S := [sb]) HB5.out)).grown HG6.out (fun k hk => by
          rcases hown6 with h | ⟨j, h, h1, -⟩
          · rw [h] at hk; cases hk
          · rw [h] at hk; cases hk; exact .inr h1)
        have hKx : Keeps [le] W4 w6 := (Keeps.of_below HB5.out (by simp; omega)).grown HG6.out (by simp; omega) (fun k hk => by
          rcases hown6 with h | ⟨j, h, h1, C, h2⟩
          · rw [h] at hk; cases hk
          · rw [h] at hk
            cases hk
            refine ⟨by simp; omega, fun o ho => ?_⟩
            rw [h2] at ho
            cases ho
            rfl)
        have hsets : (w6.setCell ⟨sb, 0, none⟩ (.slice a6 (L0.length + 1) c6)).heap[sb]? = some (.cells #[.slice a6 (L0.length + 1) c6] 30 (0, 0)) := heap_setCell_same w6 sb 0 _ _ _ HS6.out
        have hOs : Only [sb] w6 (w6.setCell ⟨sb, 0, none⟩ (.slice a6 (L0.length + 1) c6)) := (Only.refl _ _).setCell (.inl (by simp)) _
        refine ⟨hKx.setCell (by simp; omega) _, .slice a6 (L0.length + 1) c6, hsets, ?_, hOx.setCell (.inl (by simp)) _⟩
        have hv := HV6.out
        rw [List.length_append] at hv
        have h3 := hv.only hOs (fun k hk => by have := (hv.base_le hk).1; simp; omega)
        rw [List.map_append, HL0.out]
        exact h3
      case done =>
        rintro D ys W4 hD rfl ⟨v, hS, hown, hO⟩ hKD
        rw [zip_fst'] at hown
        have HOWN := Lib.hid hown
        have HS := Lib.hid hS
        have HZ4 := Lib.hid (hO.get HZ3.out (by simp; omega))
        have hlt := HBM3.out.lt
        have HBM4 := Lib.hid (HBM3.out.only hO (by simp; omega) (by simp; omega) (by simp; omega))
        have HB4 := Lib.hid (HB3.out.trans (hO.below (B := w.heap.size) (by simp; omega) HB3.out.size))
        have HKD := Lib.hid hKD
        have zO := hO.size
        have zD : D < W4.heap.size := (Array.getElem?_eq_some_iff.1 hKD).1
        obtain ⟨av, cv, rfl, -, -, -, -, -⟩ := hown.shape kinR
        have HBS := Lib.hid (built_snm 1 epoch next p)
        have HIS : Hid ((Try.prog.info? 29).map (·.size) = some (SnC 1 epoch next p).size) := Lib.hid (snsize _ _ _ _)
        have HSO : Hid ((SnC 1 epoch next p).all (·.oneCell') = true) := Lib.hid (by simp [SnC, Value.oneCell'])
        have HZS2 := Lib.hid (HZS.out p)
        have HRRX : Hid (∀ W, Only [w.heap.size + 1] W4 W → Calls Try.prog 26 #[.agg (SnC 1 epoch next p)] W fun e w' => e = .returned (.bool RB) ∧ Below W.heap.size W w') := Lib.hid (fun W hW => by
          have := sright_any W p le ll n (nz g) g es _ (HBM4.out.only hW (by simp; omega) (by simp; omega) (by simp; omega)) (by omega) 1 epoch next
          rw [← HRB.out, HMD.out, ← HEF.out]
          exact this)
        have HFIN : Hid (∀ (W : World) (S1 : Array Value), Only [w.heap.size + 1, D] W4 W → S1 = SnC 1 epoch next p → ∃ p le ll v, (Value.tuple #[.agg S1, .slice av es.length cv, .bool RB]) = .tuple #[.agg (SnC 1 epoch next p), v, .bool RB] ∧ BmIs W p le ll n (nz g) g (Rl.madeEs g l) (liveL (nz g) (Rl.madeEs g l)) ∧ MapOk g (Rl.madeEs g l) ∧ OwnM W 55 6 BEC (fun _ => True) w.heap.size v (Rl.madeEs g l) ∧ (w.heap.size ≤ p ∧ w.heap.size ≤ le ∧ w.heap.size ≤ ll) ∧ Below w.heap.size w W) := Lib.hid (by
          rintro W S1 hOW rfl
          have hx := HOWN.out.only hOW (fun k hk => by have := (HOWN.out.base_le hk); have h1 := this.1; obtain ⟨C, hC⟩ := this.2; simp; refine ⟨by omega, fun e => ?_⟩; subst e; rw [HKD.out] at hC; cases hC)
          refine ⟨p, le, ll, _, rfl, ?_, ?_, ?_, ⟨by omega, by omega, by omega⟩, ?_⟩
          · rw [HMD.out, ← HEF.out]
            exact HBM4.out.only hOW (by simp; omega) (by simp; omega) (by simp; omega)
          · rw [HMD.out, ← HEF.out]
            exact HM.out
          · rw [HMD.out, ← HEF.out]
            exact hx.mono (by omega)
          · exact HB4.out.trans (hOW.below (B := w.heap.size) (by simp; omega) HB4.out.size))
        obtain ⟨XS, hXS⟩ : ∃ XS, SnC 1 epoch next p = XS := ⟨_, rfl⟩
        rw [hXS] at HBS HIS HSO HZS2 HFIN HRRX
        obtain ⟨W5, hW5⟩ : ∃ W, W4.alloc (.cells XS 29) = W := ⟨_, rfl⟩
        have hb5 : Below W4.heap.size W4 W5 := by rw [← hW5]; exact (Below.refl _ _).alloc (Nat.le_refl _) _
        have hX5 : W5.heap[W4.heap.size]? = some (.cells XS 29 (0, 0)) := by rw [← hW5]; exact heap_alloc_new W4 _
        have HX5 := Lib.hid hX5
        have HO5 : Hid (∀ W, Only [w.heap.size + 1] W5 W → Only [w.heap.size + 1] W4 W) := Lib.hid (fun W h => (Only.of_below (S := [w.heap.size + 1]) hb5).trans h)
        have HS5 := Lib.hid ((hb5.block sb (by omega)).trans HS.out)
        have HZ5 := Lib.hid ((hb5.block (w.heap.size + 1) (by omega)).trans HZ4.out)
        have HKD5 := Lib.hid ((hb5.block D zD).trans HKD.out)
        have zX5 : W4.heap.size < W5.heap.size := (Array.getElem?_eq_some_iff.1 hX5).1
        have HW5 := Lib.hid hW5
        clear hS hown hO hKD hXS hW5 hb5 hX5 hel
        go_upto_region 14 with (first | (refine wpList_build_on (by rfl) 29 _ rfl #[(0, .int .i64 1), (1, .int .i64 epoch), (2, .int .i64 next), (3, .pointer (some ⟨p, 0, none⟩))] (by simp [Act.eval, Act.put]) XS HBS.out ?_) | (refine wpList_store_row rfl 29 _ _ rfl W4.heap.size XS rfl rfl 29 XZ (heap_alloc_new W4 _) HIS.out HZS2.out HSO.out ?_; rw [World.setRow_alloc_new]))
        rw [HW5.out, put_none]
        obtain ⟨F, hF⟩ : ∃ F, W4.heap.size = F := ⟨_, rfl⟩
        rw [hF] at HX5 zX5 zD zO ⊢
        clear hF
        refine wp_region_stage 6 [.agg XS, .slice av es.length cv, .agg XS, .bool RB, undef, .slice av es.length cv] [4] [0, 0, 0, 0, 1, 1] (fun s W => W.heap[w.heap.size + 1]? = some (.cells (if s = 0 then XZ else XS) 29 (0, 0)) ∧ Only [w.heap.size + 1] W5 W) ?rdA (by kernel_rfl) (by kernel_rfl) (by kernel_rfl) ?rdhA ?rdh0 ?rdhb ?rdho ?rdhend
        case rdhA =>
          intro vv
          simp only [putRules, Nat.reduceAdd]
          rfl
        case rdh0 =>
          exact ⟨by rw [if_pos rfl]; exact HZ5.out, (Only.refl _ _).drew⟩
        case rdhb =>
          intro s W W' hI hB
          exact ⟨(hB.block _ (Array.getElem?_eq_some_iff.1 hI.1).1).trans hI.1, hI.2.trans (Only.of_below hB)⟩
        case rdho =>
          refine ⟨?_, ?_, ?_, ?_, ?_, ?_, trivial⟩
          · intro vv W K s hlo hI hd HK
            simp only [conf5Rules] at HK
            clear hd
            have hT := hI.2.get HX5.out (by simp; omega)
            go_wp2_with (refine wpList_load_row rfl 29 _ rfl F rfl 29 _ _ _ hT Try.underlying29 rfl HIS.out ?_)
            refine HK.out _ _ (Below.refl _ _) ?_
            rfl
          · intro vv W K s hlo hI hd HK
            simp only [conf5Rules] at HK
            clear hd
            have hT := hI.2.get HS5.out (by simp; omega)
            have cT : W.cell? ⟨sb, 0, none⟩ = some (.slice av es.length cv) := (cell_of_row _ _ _ _ _ _ hT).trans rfl
            go_wp2
            refine HK.out _ _ (Below.refl _ _) ?_
            rfl
          · intro vv W K s hlo hI hd HK
            simp only [conf5Rules] at HK
            clear hd
            have hT := hI.2.get HX5.out (by simp; omega)
            go_wp2_with (refine wpList_load_row rfl 29 _ rfl F rfl 29 _ _ _ hT Try.underlying29 rfl HIS.out ?_)
            refine HK.out _ _ (Below.refl _ _) ?_
            rfl
          · intro vv W K s hlo hI hd HK
            simp only [confRules, conf5Rules] at hd HK
            have h2 := hd
            clear hd
            simp only [h2] at HK ⊢
            clear h2
            go_wp2_with (refine (HRRX.out _ (HO5.out _ hI.2)).mono ?_; rintro e w9 ⟨rfl, hB9⟩)
            refine HK.out _ _ hB9 ?_
            rfl
          · intro vv W K hI hd HK
            simp only [confRules, conf5Rules, cond7] at hd HK
            obtain ⟨h0, h3, _⟩ := hd
            simp only [h0, h3] at HK ⊢
            clear h0 h3
            have hT := hI.1
            simp only [if_true] at hT
            go_wp2_with (refine wpList_store_row rfl 29 _ _ rfl (w.heap.size + 1) XS rfl rfl 29 XZ hT HIS.out HZS2.out HSO.out ?_)
            have hs := only_setRow W (w.heap.size + 1) XS
            refine HK.out undef _ ⟨by simpa using setRow_heap W (w.heap.size + 1) XZ XS _ _ hT, hI.2.trans hs⟩ ?_
            rfl
          · intro vv W K s hlo hI hd HK
            simp only [confRules, conf5Rules, cond7] at hd HK
            obtain ⟨h1, h4, h0, _, _⟩ := hd
            simp only [h1, h4, h0] at HK ⊢
            clear h1 h4 h0
            go_wp2
            refine HK.out _ _ (Below.refl _ _) ?_
            rfl
        case rdhend =>
          intro vv W hI hf
          have e3 := hf 3 (by decide)
          have e5 := hf 5 (by decide)
          simp only [conf5Rules] at e3 e5
          simp only [e3, e5, dropRules]
          clear hf e3 e5
          have hz1 := hI.1
          simp at hz1
          have hOW := hI.2
          have HR1' := Lib.hid hz1
          have HKW := Lib.hid (hOW.get HKD5.out (by simp; omega))
          have HOW := Lib.hid (HO5.out _ hOW)
          clear hI hz1 hOW
          go_wp2
          refine leave_marks (v := .tuple #[.agg XS, .slice av es.length cv, .bool RB]) [D] _ (by simp) (by simpa using HKW.out) ?_
          intro W' hO'
          have r1 := hO'.get HR1'.out (by simp; omega)
          refine ⟨rres_ct17 (fn := Try.f10) (p := 8) (q0 := 9) (q1 := 10) rfl _ _ (w.heap.size + 1) 29 XS _ _ rfl r1 Try.underlying29 rfl HIS.out, ?_⟩
          obtain ⟨p', le', ll', v', h1, h2⟩ := HFIN.out W' XS ((HOW.out.mono (T := [w.heap.size + 1, D]) (by simp)).trans (hO'.mono (T := [w.heap.size + 1, D]) (by simp))) rfl
          exact ⟨p', le', ll', v', by rw [h1], h2⟩
      case stop => exact fun D cx pre W4 hD hsp h => h.elim
set_option maxRecDepth 100000 in
set_option maxHeartbeats 4000000 in
theorem made17_no (g : Geo.G) (a : Option Addr) (l : List (Int × BE)) (cp : Nat) (epoch next : Int) (w : World) (hno : Geo.right g = false ∨ (Geo.right g = true ∧ 60 < l.length)) :
    Calls Try.prog 10 #[.agg (GC g), .slice a l.length cp, .int .i64 epoch, .int .i64 next] w fun e w' => e = .returned (.tuple #[.agg SZ, .slice none 0 0, .bool false]) ∧ Below w.heap.size w w' := by
  have HGI := Lib.hid (gsize (g := g))
  have HSI : Hid ((Try.prog.info? 29).map (·.size) = some SZ.size) := Lib.hid (zero_of_info Try.infoSnz).2
  have HBZ := Lib.hid built_snz
  have HS1 : Hid (SZ.all (·.oneCell') = true) := Lib.hid (by simp [SZ, Value.oneCell'])
  have HNN := Lib.hid (fun W (h : Geo.right g = false) => bnew_no g h W)
  have HNY := Lib.hid (fun W (h : Geo.right g = true) => bnew_any g h W)
  have hzs := (zero_of_info Try.infoSnz).1
  obtain ⟨XZ, hXZ⟩ : ∃ XZ, SZ = XZ := ⟨_, rfl⟩
  rw [hXZ] at HSI HBZ HS1 hzs ⊢
  clear hXZ
  have hB0 : Below w.heap.size w ((w.alloc (.cells (GC g) 23)).alloc (.cells XZ 29)) := ((Below.refl _ _).alloc (Nat.le_refl _) _).alloc (by simp) _
  obtain ⟨W0, hW0⟩ : ∃ W0, (w.alloc (.cells (GC g) 23)).alloc (.cells XZ 29) = W0 := ⟨_, rfl⟩
  have hG0 : W0.heap[w.heap.size]? = some (.cells (GC g) 23 (0, 0)) := by rw [← hW0, alloc_old _ _ (by simp)]; exact alloc_new _ _ rfl
  have hZ0 : W0.heap[w.heap.size + 1]? = some (.cells XZ 29 (0, 0)) := by rw [← hW0]; exact alloc_new _ _ (by simp)
  rw [hW0] at hB0
  have HW0 := Lib.hid hW0
  have z0 : w.heap.size + 1 < W0.heap.size := (Array.getElem?_eq_some_iff.1 hZ0).1
  have HZ0 := Lib.hid hZ0
  have HB0 := Lib.hid hB0
  clear hB0 hW0 hZ0
  obtain ⟨GX, hGX⟩ : ∃ GX, GC g = GX := ⟨_, rfl⟩
  rw [hGX] at HGI hG0 HW0 HNN HNY ⊢
  clear hGX
  go_enter Try.func10, Try.ntmps10
  go_upto_region 1 with (fail)
  rw [show (w.alloc (.cells GX 23)).alloc (.cells XZ 29) = W0 from HW0.out]
  rcases hno with hr | ⟨hr, hl⟩
  · have HN := Lib.hid (HNN.out W0 hr)
    clear hr
    go_wp2_with (refine wpList_row_on (by rfl) 23 _ rfl w.heap.size rfl 23 _ _ _ hG0 Try.underlying23 rfl HGI.out ?_)
    refine HN.out.mono ?_
    rintro e1 w1 ⟨rfl, hB1⟩
    have hz := (hB1.block (w.heap.size + 1) z0).trans HZ0.out
    have HB1 := Lib.hid (HB0.out.trans (hB1.mono HB0.out.size))
    clear hG0 hB1
    go_upto_region 3 with (fail)
    go_wp2_with (first | (refine wpList_build_on (by rfl) 29 _ rfl #[] (by simp) XZ HBZ.out ?_) | (refine wpList_store_row rfl 29 _ _ rfl (w.heap.size + 1) XZ rfl rfl 29 XZ hz HSI.out rfl HS1.out ?_))
    have r1 := setRow_heap w1 (w.heap.size + 1) XZ XZ _ _ hz
    refine bodyPost_ret (rres_ct17 (fn := Try.f10) (p := 8) (q0 := 9) (q1 := 10) rfl _ _ (w.heap.size + 1) 29 XZ _ _ rfl r1 Try.underlying29 rfl HSI.out) rfl ?_
    exact ⟨rfl, below_setRow HB1.out (by omega) _⟩
  · have HN := Lib.hid (HNY.out W0 hr)
    have t1 : decide (60 < (l.length : Int)) = true := decide_eq_true (by omega)
    clear hr hl
    go_wp2_with (refine wpList_row_on (by rfl) 23 _ rfl w.heap.size rfl 23 _ _ _ hG0 Try.underlying23 rfl HGI.out ?_)
    refine HN.out.mono ?_
    rintro e1 w1 ⟨p, le, ll, rfl, -, -, -, -, hB1⟩
    have hz := (hB1.block (w.heap.size + 1) z0).trans HZ0.out
    have HB1 := Lib.hid (HB0.out.trans (hB1.mono HB0.out.size))
    clear hG0 hB1
    go_upto_region 3 with (fail)
    go_wp2_with (first | (refine wpList_build_on (by rfl) 29 _ rfl #[] (by simp) XZ HBZ.out ?_) | (refine wpList_store_row rfl 29 _ _ rfl (w.heap.size + 1) XZ rfl rfl 29 XZ hz HSI.out rfl HS1.out ?_))
    have r1 := setRow_heap w1 (w.heap.size + 1) XZ XZ _ _ hz
    refine bodyPost_ret (rres_ct17 (fn := Try.f10) (p := 8) (q0 := 9) (q1 := 10) rfl _ _ (w.heap.size + 1) 29 XZ _ _ rfl r1 Try.underlying29 rfl HSI.out) rfl ?_
    exact ⟨rfl, below_setRow HB1.out (by omega) _⟩
/-- what 'made' tells, whatever its arguments -/
def MadePost17 (w : World) (g : Geo.G) (l : List (Int × BE)) (epoch next : Int) (e : Ending) (w' : World) : Prop :=
  ∃ (S1 : Array Value) (v : Value) (ok : Bool), e = .returned (.tuple #[.agg S1, v, .bool ok]) ∧ ((Try.prog.info? 29).map (·.size) = some S1.size ∧ S1.all (·.oneCell') = true ∧ SZ.size = S1.size) ∧ Below w.heap.size w w' ∧
    ((ok = false ∧ S1 = SZ ∧ v = .slice none 0 0) ∨ (ok = Sn.right 1 epoch next (Rl.madeEs g l) ∧ Geo.right g = true ∧ ∃ p le ll, S1 = SnC 1 epoch next p ∧ BmIs w' p le ll g.b.toNat (nz g) g (Rl.madeEs g l) (liveL (nz g) (Rl.madeEs g l)) ∧ MapOk g (Rl.madeEs g l) ∧ OwnM w' 55 6 BEC (fun _ => True) w.heap.size v (Rl.madeEs g l) ∧ (w.heap.size ≤ p ∧ w.heap.size ≤ le ∧ w.heap.size ≤ ll)))
theorem made17_any (g : Geo.G) (a : Option Addr) (l : List (Int × BE)) (cp : Nat) (epoch next : Int) (w : World) (hI : RowOf w 7 opC Op64 a l) :
    Calls Try.prog 10 #[.agg (GC g), .slice a l.length cp, .int .i64 epoch, .int .i64 next] w (MadePost17 w g l epoch next) := by
  have hno : (Geo.right g = false ∨ (Geo.right g = true ∧ 60 < l.length)) → Calls Try.prog 10 #[.agg (GC g), .slice a l.length cp, .int .i64 epoch, .int .i64 next] w (MadePost17 w g l epoch next) := fun h => by
    refine (made17_no g a l cp epoch next w h).mono ?_
    rintro e w' ⟨rfl, hB⟩
    exact ⟨SZ, _, false, rfl, ⟨(zero_of_info Try.infoSnz).2, by simp [SZ, Value.oneCell'], rfl⟩, hB, .inl ⟨rfl, rfl, rfl⟩⟩
  cases hr : Geo.right g
  · exact hno (.inl hr)
  · by_cases hl : l.length ≤ 60
    · have hb1 := ((Geo.right_iff g).1 hr).1.2.2.2.1.1
      refine (made17_core g g.b.toNat (by omega) hr a l cp epoch next w hI hl).mono ?_
      rintro e w' ⟨p, le, ll, v, rfl, hs, hm, ho, hb, hB⟩
      exact ⟨_, _, _, rfl, ⟨snsize _ _ _ _, by simp [SnC, Value.oneCell'], rfl⟩, hB, .inr ⟨rfl, hr, p, le, ll, rfl, hs, hm, ho, hb⟩⟩
    · exact hno (.inr ⟨hr, by omega⟩)
end Go.Proofs.Ytoiephmngdecaaa
namespace Go.Rv
open Go.RowKit
set_option linter.unusedVariables false
def rowT : Value → Array Value
  | .agg C => C
  | _ => #[]
def Obl13 (P : Program) (ops : Array Oper) (Q : Exit → Act → World → Prop) (A : (Nat → Value) → Act) (w0 : World) (F : List Fact) (ia is jx : Nat) (Z : Array Value) (t : TypeId) (i : Nat) (o : Oper) : Prop :=
  cond (i == ia) (∀ (v : Nat → Value) (w : World) (K : Act → World → Prop), Below w0.heap.size w0 w → Deps8 ia F v w o.after.toList →
      Hid (∀ g w', w0.heap.size ≤ g → Below w.heap.size w w' → w'.heap[g]? = some (.cells Z t (0, 0)) → K ((A v).put o.dst (.pointer (some ⟨g, 0, none⟩))) w') → wpList P ops (Exit.then K Q) [o] (A v) w)
    (cond (i == is) (∀ (v : Nat → Value) (w : World) (K : Act → World → Prop) (g : Nat), Below w0.heap.size w0 w → w0.heap.size ≤ g → w.heap[g]? = some (.cells Z t (0, 0)) → v ia = .pointer (some ⟨g, 0, none⟩) → Deps8 ia F v w o.after.toList →
      Hid (∀ u w', w' = w.setRow g (rowT (v jx)) → fp8 F i u w' → K ((A v).put o.dst u) w') → wpList P ops (Exit.then K Q) [o] (A v) w)
    (∀ (v : Nat → Value) (w : World) (K : Act → World → Prop), Below w0.heap.size w0 w → Deps8 ia F v w o.after.toList →
        Hid (∀ u w', Below w.heap.size w w' → fp8 F i u w' → K ((A v).put o.dst u) w') → wpList P ops (Exit.then K Q) [o] (A v) w))
def Obls13 (P : Program) (ops : Array Oper) (Q : Exit → Act → World → Prop) (A : (Nat → Value) → Act) (w0 : World) (F : List Fact) (ia is jx : Nat) (Z : Array Value) (t : TypeId) : Nat → List Oper → Prop
  | _, [] => True
  | i, o :: r => Obl13 P ops Q A w0 F ia is jx Z t i o ∧ Obls13 P ops Q A w0 F ia is jx Z t (i + 1) r
theorem Obls13.at {P : Program} {ops : Array Oper} {Q : Exit → Act → World → Prop} {A : (Nat → Value) → Act} {w0 : World} {F : List Fact} {ia is jx : Nat} {Z : Array Value} {t : TypeId} : ∀ {k : Nat} {l : List Oper}, Obls13 P ops Q A w0 F ia is jx Z t k l → ∀ {i : Nat} {o : Oper}, l[i]? = some o → Obl13 P ops Q A w0 F ia is jx Z t (k + i) o
  | _, [], _, _, _, h => by simp at h
  | k, _ :: r, h, 0, _, ho => by simp at ho; subst ho; exact h.1
  | k, _ :: r, h, i + 1, _, ho => by
    have := Obls13.at h.2 (i := i) (by simpa using ho)
    rwa [show k + 1 + i = k + (i + 1) by omega] at this
theorem wp_region_conf13 {P : Program} {ops : Array Oper} {Q : Exit → Act → World → Prop} {a0 : Act} {w0 : World} {id : Nat} (n : Nat) (F : List Fact) (ia is jx : Nat) (Z : Array Value) (t : TypeId) (A : (Nat → Value) → Act) (hm : P.follows .mixedOrders = true) (hok : confOk ops n = true) (hso : storeOk ops [] n ia is = true) (hjx : (decide (jx < n) && !(jx == ia) && !(jx == is) && (match ops[is]? with | some o => o.after.any fun e => Region.binds .any e && e.on == jx | none => false)) = true)
    (hA : ∀ v, putAll v 0 (ops.toList.take n) a0 = A v) (hFs : ∀ j u w g C, j < n → w0.heap.size ≤ g → w.heap[g]? = some (.cells Z t (0, 0)) → fp8 F j u w → fp8 F j u (w.setRow g C)) (ho : Obls13 P ops Q A w0 F ia is jx Z t 0 (ops.toList.take n))
    (hend : ∀ v w g, Below w0.heap.size w0 w → (∀ j, j < n → (j == ia) = false → fp8 F j (v j) w) → v ia = .pointer (some ⟨g, 0, none⟩) → w0.heap.size ≤ g → w.heap[g]? = some (.cells (rowT (v jx)) t (0, 0)) → wpList P ops Q (ops.toList.drop n) (A v) w) : (Code.region id ops true).wp P Q a0 w0 := by
  simp only [storeOk, Bool.and_eq_true, decide_eq_true_eq, Bool.not_eq_true', beq_eq_false_iff_ne] at hso
  obtain ⟨⟨⟨⟨⟨hia, his⟩, hne⟩, -⟩, -⟩, hsd⟩ := hso
  simp only [Bool.and_eq_true, decide_eq_true_eq, Bool.not_eq_true', beq_eq_false_iff_ne] at hjx
  obtain ⟨⟨⟨hjn, hja⟩, hjs⟩, hjd⟩ := hjx
  refine wp_region_conf3 n (fun L v w => (∀ j, j < n → j ≠ ia → L.getD j false = true → fp8 F j (v j) w) ∧ Below w0.heap.size w0 w ∧ (L.getD is false = true → L.getD ia false = true ∧ L.getD jx false = true) ∧ (L.getD ia false = true → ∃ g, v ia = .pointer (some ⟨g, 0, none⟩) ∧ w0.heap.size ≤ g ∧ w.heap[g]? = some (.cells (cond (L.getD is false) (rowT (v jx)) Z) t (0, 0)))) A hm hok hA ?_ ?_ ?_
  · intro i o hin hoi L v w K hui hdep ⟨hv, hBw, hsa, hrow⟩ HK
    have hilt : i < L.size := by
      rcases Nat.lt_or_ge i L.size with h | h
      · exact h
      · simp [Array.getElem?_eq_none h] at hui
    have hif : L.getD i false = false := by simp [hilt] at hui ⊢; exact hui
    have hit : (L.setIfInBounds i true).getD i false = true := by simp [hilt]
    have hbk : edgesBack 0 ops.toList = true := by
      simp only [confOk, Bool.and_eq_true] at hok
      exact hok.1.1.1.1.2
    have hdv : ∀ l : List Edge, (∀ e ∈ l, e ∈ o.after) → Deps8 ia F v w l := by
      intro l
      induction l with
      | nil => intro _; exact trivial
      | cons e r ihl =>
        intro hl
        refine ⟨fun hb => ?_, ihl fun x hx => hl x (by simp [hx])⟩
        cases hea : e.on == ia
        · have := edgesBack_spec hbk (i := i) (o := o) (by simpa using hoi) e (hl e (by simp)) hb
          exact hv e.on (by omega) (by simpa using hea) (hdep e (hl e (by simp)) hb)
        · trivial
    have hdv := hdv o.after.toList (fun e he => by simpa using he)
    have ob := ho.at (i := i) (o := o) (by simp [hin, hoi])
    rw [Nat.zero_add] at ob
    have hv' : ∀ u w', (∀ j, j < n → fp8 F j (v j) w → fp8 F j (v j) w') → (i ≠ ia → fp8 F i u w') → ∀ j, j < n → j ≠ ia → (L.setIfInBounds i true).getD j false = true → fp8 F j (upd v i u j) w' := fun u w' hkeep hu j hj hja hl => by
      by_cases hji : j = i
      · subst hji
        rw [show upd v j u j = u by simp [upd]]
        exact hu hja
      · rw [show upd v i u j = v j by simp [upd, hji]]
        rw [getD_set_ne false (Ne.symm hji)] at hl
        exact hkeep j hj (hv j hj hja hl)
    have hbel : ∀ w', Below w.heap.size w w' → ∀ j, j < n → fp8 F j (v j) w → fp8 F j (v j) w' := fun w' hB j _ h => (F.getD j Fact.any).st _ _ _ h hB
    unfold Obl13 at ob
    cases hia' : i == ia
    · rw [hia'] at ob
      have hia2 : i ≠ ia := by simpa using hia'
      cases his' : i == is
      · rw [his'] at ob
        have his2 : i ≠ is := by simpa using his'
        simp only [cond_false] at ob
        refine ob v w K hBw hdv (Lib.hid fun u w' hB hu => HK.out u w' ⟨hv' u w' (hbel w' hB) (fun _ => hu), hBw.trans (hB.mono hBw.size), ?_, ?_⟩)
        · rw [getD_set_ne false his2, getD_set_ne false hia2]
          intro h
          obtain ⟨h1, h2⟩ := hsa h
          refine ⟨h1, ?_⟩
          by_cases hij : i = jx
          · subst hij
            exact hit
          · rw [getD_set_ne false hij]
            exact h2
        · rw [getD_set_ne false his2, getD_set_ne false hia2]
          intro h
          obtain ⟨g, h1, h2, h3⟩ := hrow h
          have he : cond (L.getD is false) (rowT (upd v i u jx)) Z = cond (L.getD is false) (rowT (v jx)) Z := by
            cases hL : L.getD is false
            · rfl
            · have hj := (hsa hL).2
              have hij : i ≠ jx := fun e => by
                subst e
                rw [hif] at hj
                cases hj
              rw [show upd v i u jx = v jx by simp [upd, Ne.symm hij]]
          rw [he]
          exact ⟨g, by rw [show upd v i u ia = v ia by simp [upd, Ne.symm hia2]]; exact h1, h2, (hB.block g (Array.getElem?_eq_some_iff.1 h3).1).trans h3⟩
      · rw [his'] at ob
        have his2 : i = is := by simpa using his'
        subst his2
        simp only [cond_false, cond_true] at ob
        have hLa : L.getD ia false = true := by
          rw [hoi] at hsd
          obtain ⟨e, he, h3⟩ := Array.any_eq_true.1 hsd
          rw [Bool.and_eq_true, beq_iff_eq] at h3
          have := hdep _ (Array.getElem_mem he) h3.1
          rwa [h3.2] at this
        have hLj : L.getD jx false = true := by
          rw [hoi] at hjd
          obtain ⟨e, he, h3⟩ := Array.any_eq_true.1 hjd
          rw [Bool.and_eq_true, beq_iff_eq] at h3
          have := hdep _ (Array.getElem_mem he) h3.1
          rwa [h3.2] at this
        obtain ⟨g, h1, h2, h3⟩ := hrow hLa
        rw [hif] at h3
        refine ob v w K g hBw h2 h3 h1 hdv (Lib.hid fun u w' hw hu => ?_)
        subst hw
        refine HK.out u _ ⟨hv' u _ (fun j hj h => hFs j _ w g _ hj h2 h3 h) (fun _ => hu), below_setRow hBw h2 _, ?_, ?_⟩
        · intro _
          rw [getD_set_ne false hia2, getD_set_ne false (Ne.symm hjs)]
          exact ⟨hLa, hLj⟩
        · intro _
          rw [hit, show upd v i u jx = v jx by simp [upd, hjs]]
          exact ⟨g, by rw [show upd v i u ia = v ia by simp [upd, Ne.symm hia2]]; exact h1, h2, setRow_heap w g Z (rowT (v jx)) t _ h3⟩
    · rw [hia'] at ob
      have hia2 : i = ia := by simpa using hia'
      subst hia2
      simp only [cond_true] at ob
      have hLs : L.getD is false = false := by
        cases h : L.getD is false
        · rfl
        · have := (hsa h).1
          rw [hif] at this
          cases this
      refine ob v w K hBw hdv (Lib.hid fun g w' hg hB hr => ?_)
      refine HK.out _ w' ⟨hv' _ w' (hbel w' hB) (fun h => absurd rfl h), hBw.trans (hB.mono hBw.size), ?_, ?_⟩
      · rw [getD_set_ne false hne, hLs]
        intro h
        cases h
      · intro _
        rw [getD_set_ne false hne, hLs]
        exact ⟨g, by simp [upd], hg, hr⟩
  · intro v
    exact ⟨fun j hj _ hl => (by rw [getD_replicate_false] at hl; cases hl), (Below.refl _ _).drew, fun hl => (by rw [getD_replicate_false] at hl; cases hl), fun hl => (by rw [getD_replicate_false] at hl; cases hl)⟩
  · intro v w ⟨hv, hBw, hsa, hrow⟩
    have hall : ∀ j, j < n → (headListed n (ops.size - n)).getD j false = true := fun j hj => by
      simp only [headListed]
      rw [Array.getD_eq_getD_getElem?, List.getElem?_toArray, List.getElem?_append_left (by simpa using hj)]
      simp [hj]
    obtain ⟨g, h1, h2, h3⟩ := hrow (hall ia hia)
    rw [hall is his] at h3
    exact hend v w g hBw (fun j hj hja => hv j hj (by simpa using hja) (hall j hj)) h1 h2 h3
end Go.Rv
namespace Go.Proofs.Ytoiephmngdecaaa
open Go.RowKit Go.Rv Rl Frm
set_option linter.unusedVariables false
/-- what Run has made -/
structure RunMem (w : World) (B : Nat) (g : Geo.G) (st : St) (zs : List Int) (p le ll ce cl : Nat) (v u : Value) : Prop where
  bm : BmIs w p le ll ce cl g st.es (liveL (nz g) st.es)
  ok : MapOk g st.es
  sg : OwnM w 3 1 iC (fun _ => True) B v (Rl.singles st.single 0)
  zn : OwnM w 3 1 iC (fun _ => True) B u zs
  hB : B ≤ p ∧ B ≤ le ∧ B ≤ ll
theorem RunMem.below {w w' : World} {B : Nat} {g : Geo.G} {st : St} {zs : List Int} {p le ll ce cl : Nat} {v u : Value} (h : RunMem w B g st zs p le ll ce cl v u) (hb : Below w.heap.size w w') : RunMem w' B g st zs p le ll ce cl v u :=
  ⟨h.bm.below hb, h.ok, h.sg.below hb, h.zn.below hb, h.hB⟩
/-- blocks of other types are written -/
theorem RunMem.only {w w' : World} {S : List Nat} {B : Nat} {g : Geo.G} {st : St} {zs : List Int} {p le ll ce cl : Nat} {v u : Value} (h : RunMem w B g st zs p le ll ce cl v u) (hO : Only S w w')
    (hS : ∀ k ∈ S, ∃ C t fr, w.heap[k]? = some (.cells C t fr) ∧ t ≠ 3 ∧ t ≠ 117 ∧ t ≠ 54) : RunMem w' B g st zs p le ll ce cl v u := by
  have key : ∀ k C t fr, w.heap[k]? = some (.cells C t fr) → (t = 3 ∨ t = 117 ∨ t = 54) → k ∉ S := by
    intro k C t fr hk ht hm
    obtain ⟨C', t', fr', h1, h2, h3, h4⟩ := hS k hm
    rw [hk] at h1
    cases h1
    rcases ht with e | e | e
    · exact h2 e
    · exact h3 e
    · exact h4 e
  obtain ⟨L, hL, -⟩ := h.bm.he
  obtain ⟨V, hV, -⟩ := h.bm.hl
  refine ⟨h.bm.only hO (key _ _ _ _ h.bm.hp (.inr (.inl rfl))) (key _ _ _ _ hL (.inr (.inr rfl))) (key _ _ _ _ hV (.inl rfl)), h.ok, h.sg.only hO (fun k hk => ?_), h.zn.only hO (fun k hk => ?_), h.hB⟩
  · obtain ⟨-, C, hC⟩ := h.sg.base_le hk
    exact key _ _ _ _ hC (.inl rfl)
  · obtain ⟨-, C, hC⟩ := h.zn.base_le hk
    exact key _ _ _ _ hC (.inl rfl)
theorem RunMem.setRow {w : World} {B : Nat} {g : Geo.G} {st : St} {zs : List Int} {p le ll ce cl : Nat} {v u : Value} (h : RunMem w B g st zs p le ll ce cl v u) {k : Nat} {Z : Array Value} (hk : w.heap[k]? = some (.cells Z 35 (0, 0))) (C : Array Value) : RunMem (w.setRow k C) B g st zs p le ll ce cl v u :=
  h.only (only_set1 w k C) (fun j hj => by
    simp only [List.mem_singleton] at hj
    subst hj
    exact ⟨_, _, _, hk, by decide, by decide, by decide⟩)
/-- the cells of a result, as Run gives them -/
def resR (next : Int) (n : Nat) (st : St) (zs : List Int) (p : Nat) (av : Option Addr) (cv : Nat) (au : Option Addr) (cu : Nat) : Array Value := resC p (next + (n : Nat)) st.applied (.slice av (Rl.singles st.single 0).length cv) (.slice au zs.length cu)
/-- a result -/
def RunA (B : Nat) (g : Geo.G) (next : Int) (n : Nat) (st : St) (zs : List Int) (u : Value) (w : World) : Prop :=
  ∃ p le ll ce cl av cv au cu, u = .agg (resR next n st zs p av cv au cu) ∧ RunMem w B g st zs p le ll ce cl (.slice av (Rl.singles st.single 0).length cv) (.slice au zs.length cu)
/-- a result, and that there was no error -/
def RunT (B : Nat) (g : Geo.G) (next : Int) (n : Nat) (st : St) (zs : List Int) (u : Value) (w : World) : Prop :=
  ∃ p le ll ce cl av cv au cu, u = .tuple #[.agg (resR next n st zs p av cv au cu), .int .i64 0] ∧ RunMem w B g st zs p le ll ce cl (.slice av (Rl.singles st.single 0).length cv) (.slice au zs.length cu)
theorem RunA.st (B : Nat) (g : Geo.G) (next : Int) (n : Nat) (st : St) (zs : List Int) : ∀ u w w', RunA B g next n st zs u w → Below w.heap.size w w' → RunA B g next n st zs u w' := fun u w w' ⟨p, le, ll, ce, cl, av, cv, au, cu, e, h⟩ hB => ⟨p, le, ll, ce, cl, av, cv, au, cu, e, h.below hB⟩
theorem RunT.st (B : Nat) (g : Geo.G) (next : Int) (n : Nat) (st : St) (zs : List Int) : ∀ u w w', RunT B g next n st zs u w → Below w.heap.size w w' → RunT B g next n st zs u w' := fun u w w' ⟨p, le, ll, ce, cl, av, cv, au, cu, e, h⟩ hB => ⟨p, le, ll, ce, cl, av, cv, au, cu, e, h.below hB⟩
def Fact.runA (B : Nat) (g : Geo.G) (next : Int) (n : Nat) (st : St) (zs : List Int) : Fact := Fact.of (RunA B g next n st zs) (RunA.st B g next n st zs)
def Fact.runT (B : Nat) (g : Geo.G) (next : Int) (n : Nat) (st : St) (zs : List Int) : Fact := Fact.of (RunT B g next n st zs) (RunT.st B g next n st zs)
theorem RunA.setRow {B : Nat} {g : Geo.G} {next : Int} {n : Nat} {st : St} {zs : List Int} {u : Value} {w : World} (h : RunA B g next n st zs u w) {k : Nat} {Z : Array Value} (hk : w.heap[k]? = some (.cells Z 35 (0, 0))) (C : Array Value) : RunA B g next n st zs u (w.setRow k C) := by
  obtain ⟨p, le, ll, ce, cl, av, cv, au, cu, e, h⟩ := h
  exact ⟨p, le, ll, ce, cl, av, cv, au, cu, e, h.setRow hk C⟩
theorem RunT.setRow {B : Nat} {g : Geo.G} {next : Int} {n : Nat} {st : St} {zs : List Int} {u : Value} {w : World} (h : RunT B g next n st zs u w) {k : Nat} {Z : Array Value} (hk : w.heap[k]? = some (.cells Z 35 (0, 0))) (C : Array Value) : RunT B g next n st zs u (w.setRow k C) := by
  obtain ⟨p, le, ll, ce, cl, av, cv, au, cu, e, h⟩ := h
  exact ⟨p, le, ll, ce, cl, av, cv, au, cu, e, h.setRow hk C⟩
theorem runFRules : (∀ B g next n st zs u w, (Fact.runA B g next n st zs).p u w = RunA B g next n st zs u w) ∧ (∀ B g next n st zs u w, (Fact.runT B g next n st zs).p u w = RunT B g next n st zs u w) := ⟨fun _ _ _ _ _ _ _ _ => rfl, fun _ _ _ _ _ _ _ _ => rfl⟩
theorem RunA.row {B : Nat} {g : Geo.G} {next : Int} {n : Nat} {st : St} {zs : List Int} {u : Value} {w : World} (h : RunA B g next n st zs u w) : (Try.prog.info? 35).map (·.size) = some (rowT u).size ∧ ResZ.size = (rowT u).size ∧ (rowT u).all (·.oneCell') = true ∧ u = .agg (rowT u) := by
  obtain ⟨p, le, ll, ce, cl, av, cv, au, cu, rfl, -⟩ := h
  exact ⟨ressize _ _ _ _ _, rfl, by simp [rowT, resR, resC, Value.oneCell'], rfl⟩
/-- Run, as such a fact -/
theorem rrun_fact (w : World) (p le ll ce cl : Nat) (g : Geo.G) (es : List BE) (hgr : Geo.right g = true) (h : BmIs w p le ll ce cl g es (liveL (nz g) es)) (hok : MapOk g es) (gen epoch next : Int) (hr : Sn.right gen epoch next es = true) (a : Option Addr) (fs : List Fnd) (cap : Nat) (hI : RowOf w 51 fndC FndQ a fs) (hl : fs.length ≤ 1000) {B : Nat} (hB : B ≤ w.heap.size) :
    Calls Try.prog 11 #[.agg Tb.tabV, .agg (SnC gen epoch next p), .slice a fs.length cap] w fun e w' => ∃ u, e = .returned u ∧ RunT B g next (runLen (recs g epoch next fs) next) (runSt g es next (recs g epoch next fs)) (zonesOf (recs g epoch next fs)) u w' ∧ Below w.heap.size w w' := by
  refine (rrun_any w p le ll ce cl g es hgr h hok gen epoch next hr a fs cap hI hl).mono ?_
  rintro e w' ⟨p', le', ll', ce', cl', av, cv, au, cu, rfl, h1, h2, h3, h4, h5, h6⟩
  exact ⟨_, rfl, ⟨p', le', ll', ce', cl', av, cv, au, cu, rfl, ⟨h1, h2, h3.mono hB, h4.mono hB, by omega⟩⟩, h6⟩
/-- the cells of a result, one by one -/
theorem resR_cells {w : World} {b : Nat} {next : Int} {n : Nat} {st : St} {zs : List Int} {p : Nat} {av : Option Addr} {cv : Nat} {au : Option Addr} {cu : Nat} {t : TypeId} (h : w.heap[b]? = some (.cells (resR next n st zs p av cv au cu) t (0, 0))) :
    w.cell? ⟨b, 0, none⟩ = some (.pointer (some ⟨p, 0, none⟩)) ∧ w.cell? ⟨b, 1, none⟩ = some (.int .i64 (next + (n : Nat))) ∧ w.cell? ⟨b, 2, none⟩ = some (.int .i64 st.applied) ∧ w.cell? ⟨b, 3, none⟩ = some (.slice av (Rl.singles st.single 0).length cv) ∧ w.cell? ⟨b, 4, none⟩ = some (.slice au zs.length cu) :=
  ⟨(cell_of_row _ _ _ _ _ _ h).trans rfl, (cell_of_row _ _ _ _ _ _ h).trans rfl, (cell_of_row _ _ _ _ _ _ h).trans rfl, (cell_of_row _ _ _ _ _ _ h).trans rfl, (cell_of_row _ _ _ _ _ _ h).trans rfl⟩
end Go.Proofs.Ytoiephmngdecaaa
namespace Go.Proofs.Ytoiephmngdecaaa
open Go.RowKit Go.Rv Rl Frm
set_option linter.unusedVariables false
attribute [local go_sem] Oper.semAt_some
namespace Rl
def entA (i m : Int) : En.E := ⟨1, 5, 2, i, 0, m, List.replicate 32 0⟩
def fndA (i z m : Int) : Fnd := ⟨z, i, (frameE (entA i m) z i 1 (5 + i)).1⟩
def gA : Geo.G := ⟨3, 8, 8, 4, 0, 4⟩
def LA : List Fnd := [fndA 0 0 8, fndA 0 8 0, fndA 1 0 8, fndA 1 8 0]
def LB : List Fnd := [fndA 0 0 8, fndA 0 8 0]
def esA : List BE := List.replicate 4 BE.zero
theorem rA1 : runLen (recs gA 1 5 LA) 5 = 2 := by kernel_rfl
theorem rA2 : (runSt gA esA 5 (recs gA 1 5 LA)).applied = 1 := by kernel_rfl
theorem rA3 : countB (runSt gA esA 5 (recs gA 1 5 LA)).es 1 = 2 := by kernel_rfl
theorem rB1 : runLen (recs gA 1 5 LB) 5 = 1 := by kernel_rfl
theorem rB3 : countB (runSt gA esA 5 (recs gA 1 5 LB)).es 1 = 0 := by kernel_rfl
theorem gA_right : Geo.right gA = true := by kernel_rfl
theorem sA_right : Sn.right 1 1 5 esA = true := by kernel_rfl
theorem fndA_q0 (z m : Int) (h : (z = 0 ∧ m = 8) ∨ (z = 8 ∧ m = 0)) (i : Int) (hi : i = 0 ∨ i = 1) : FndQ (fndA i z m) := by
  have key : ∀ f : Fnd, (((Lit.int .i64 f.zone).wf && (Lit.int .i64 f.off).wf) && (decide (f.fr.body.length = 44) && f.fr.body.all fun c => decide (c < 256)) && ((Lit.int .i64 f.fr.kind).wf && (Lit.int .i64 f.fr.zone).wf && (Lit.int .i64 f.fr.off).wf && (Lit.int .i64 f.fr.epoch).wf && (Lit.int .i64 f.fr.seq).wf)) = true → FndQ f := by
    intro f h
    simp only [Bool.and_eq_true, decide_eq_true_eq, List.all_eq_true] at h
    obtain ⟨⟨⟨h1, h2⟩, h3, h4⟩, ⟨⟨⟨h5, h6⟩, h7⟩, h8⟩, h9⟩ := h
    exact ⟨h1, h2, ⟨h3, h4⟩, h5, h6, h7, h8, h9⟩
  rcases h with ⟨rfl, rfl⟩ | ⟨rfl, rfl⟩ <;> rcases hi with rfl | rfl <;> exact key _ (by kernel_rfl)
end Rl
theorem Try.infoA2 : (Try.prog.info? 124).map (fun i => (i.zero, i.size)) = some (some (.agg #[.int .i64 0, .int .i64 0]), 2) := by kernel_rfl
theorem built_ent (i m : Int) : Try.prog.built 65 [(0, .int .i64 1), (1, .int .i64 5), (2, .int .i64 2), (3, .int .i64 i), (5, .int .i64 m)] = some (EC (entA i m)) := by kernel_rfl
theorem built_fnd (z o : Int) (f : Fr) (h : f.body.length = 44) : Try.prog.built 70 [(0, .int .i64 z), (1, .int .i64 o), (2, .agg (FC f))] = some (fndC ⟨z, o, f⟩) := by
  obtain ⟨k, z1, o1, e, s, l⟩ := f
  obtain ⟨fn, rfl⟩ := list_fn l 44 h
  kernel_rfl
theorem filled_fnd (f : Fnd) (h : f.fr.body.length = 44) (ie : Array Value) (h0 : ie = fndC fnd0) : Instr.fill (fun i => some (i * 51, 51)) ((Array.range (1 * 51)).map (ie[· % 51]!)) [(0, .agg (fndC f))] = some (fndC f) := by
  obtain ⟨z, o, ⟨k, z1, o1, e, s, l⟩⟩ := f
  obtain ⟨fn, rfl⟩ := list_fn l 44 h
  subst h0
  kernel_rfl
/-- a slice of one that was found is made -/
theorem wpList_slice1f {w : World} {ops : Array Oper} {rest : List Oper} {o : Oper} {a : Act} {Q : Exit → Act → World → Prop} (hg : o.guard = none) (x : Operand) (ho : o.op = .buildSlice 25 1 #[(0, x)]) (r : Fnd) (hq : r.fr.body.length = 44) (X : Array Value) (hX : fndC r = X) (hx : a.eval x = .agg X)
    (h : wpList Try.prog ops Q rest (a.put o.dst (.slice (some ⟨w.heap.size, 0, none⟩) 1 1)) (w.alloc (.cells X 70))) : wpList Try.prog ops Q (o :: rest) a w := by
  subst hX
  have hi := Try.infoFnd
  cases hie : Try.prog.info? 70 with
  | none => rw [hie] at hi; cases hi
  | some ie =>
    rw [hie, Option.map_some, Option.some.injEq, Prod.mk.injEq] at hi
    obtain ⟨hz, hs⟩ := hi
    refine wpList_buildSlice hg 25 70 1 #[(0, x)] ho (fndC r) ie (.agg (fndC fnd0)) Try.underlying25 hie hz (by rw [hs]; decide) (by rw [hs]; decide) ?_ h
    rw [hs]
    have h1 := filled_fnd r hq _ rfl
    simp only [List.map_toArray, List.map_cons, List.map_nil, hx]
    exact h1
set_option maxRecDepth 100000 in
set_option maxHeartbeats 16000000 in
theorem copies_any (i : Int) (hi : i = 0 ∨ i = 1) (w : World) :
    Calls Try.prog 23 #[.int .i64 i, .int .i64 5, .int .i64 2] w fun e w' => ∃ u, e = .returned u ∧ OwnM w' 70 51 fndC FndQ w.heap.size u [fndA i 0 8, fndA i 8 0] ∧ Below w.heap.size w w' := by
  have hix0 : ∀ W : World, (Instr.index 125 (.agg #[.int .i64 0, .int .i64 8, .int .i64 8, .int .i64 0]) (.int .i64 0)).run Try.prog W = .ok (.agg #[.int .i64 0, .int .i64 8]) W := fun W => by kernel_rfl
  have hix1 : ∀ W : World, (Instr.index 125 (.agg #[.int .i64 0, .int .i64 8, .int .i64 8, .int .i64 0]) (.int .i64 1)).run Try.prog W = .ok (.agg #[.int .i64 8, .int .i64 0]) W := fun W => by kernel_rfl
  have hza := (zero_of_info Try.infoA2).1
  have HIA := Lib.hid (zero_of_info Try.infoA2).2
  have hib : 0 ≤ i ∧ i ≤ 1 := by omega
  have HQ0 := Lib.hid (fndA_q0 0 8 (.inl ⟨rfl, rfl⟩) i hi)
  have HQ1 := Lib.hid (fndA_q0 8 0 (.inr ⟨rfl, rfl⟩) i hi)
  have hzr := (zero_of_info Try.infoFrame).1
  have hE : ∀ m : Int, EBody (entA i m) := fun m => ⟨by simp [entA], by simp [entA]⟩
  have HF0 := Lib.hid (fun W => eframe_any (entA i 8) 0 i 1 (5 + i) W (hE 8))
  have HF1 := Lib.hid (fun W => eframe_any (entA i 0) 8 i 1 (5 + i) W (hE 0))
  have HB0 := Lib.hid (built_ent i 8)
  have HB1 := Lib.hid (built_ent i 0)
  have e0 : fndA i 0 8 = ⟨0, i, (frameE (entA i 8) 0 i 1 (5 + i)).1⟩ := rfl
  have e1 : fndA i 8 0 = ⟨8, i, (frameE (entA i 0) 8 i 1 (5 + i)).1⟩ := rfl
  rw [e0] at HQ0 ⊢
  rw [e1] at HQ1 ⊢
  obtain ⟨E0, hE0⟩ : ∃ E, EC (entA i 8) = E := ⟨_, rfl⟩
  obtain ⟨E1, hE1⟩ : ∃ E, EC (entA i 0) = E := ⟨_, rfl⟩
  rw [hE0] at HF0 HB0
  rw [hE1] at HF1 HB1
  obtain ⟨X0, hX0⟩ : ∃ X, frameE (entA i 8) 0 i 1 (5 + i) = X := ⟨_, rfl⟩
  obtain ⟨X1, hX1⟩ : ∃ X, frameE (entA i 0) 8 i 1 (5 + i) = X := ⟨_, rfl⟩
  rw [hX0] at HF0 HQ0 ⊢
  rw [hX1] at HF1 HQ1 ⊢
  obtain ⟨F0, r0⟩ := X0
  obtain ⟨F1, r1⟩ := X1
  unfold FrmPost at HF0 HF1
  simp only at HF0 HF1 HQ0 HQ1 ⊢
  have HI0 := Lib.hid (size_frm HQ0.out.2.2.1.1)
  have HI1 := Lib.hid (size_frm HQ1.out.2.2.1.1)
  have HZ0 : Hid ((FC Fr.zero).size = (FC F0).size) := Lib.hid (by rw [FC_size, FC_size, HQ0.out.2.2.1.1]; rfl)
  have HZ1 : Hid ((FC Fr.zero).size = (FC F1).size) := Lib.hid (by rw [FC_size, FC_size, HQ1.out.2.2.1.1]; rfl)
  have HO0 := Lib.hid (FC_one F0)
  have HO1 := Lib.hid (FC_one F1)
  have HBF0 := Lib.hid (built_fnd 0 i F0 HQ0.out.2.2.1.1)
  have HBF1 := Lib.hid (built_fnd 8 i F1 HQ1.out.2.2.1.1)
  obtain ⟨C0, hC0⟩ : ∃ C, FC F0 = C := ⟨_, rfl⟩
  obtain ⟨C1, hC1⟩ : ∃ C, FC F1 = C := ⟨_, rfl⟩
  obtain ⟨ZF, hZF⟩ : ∃ C, FC Fr.zero = C := ⟨_, rfl⟩
  rw [hC0] at HF0 HI0 HZ0 HO0 HBF0
  rw [hC1] at HF1 HI1 HZ1 HO1 HBF1
  rw [hZF] at HZ0 HZ1 hzr
  obtain ⟨f0, hf0⟩ : ∃ f : Fnd, (⟨0, i, F0⟩ : Fnd) = f := ⟨_, rfl⟩
  obtain ⟨f1, hf1⟩ : ∃ f : Fnd, (⟨8, i, F1⟩ : Fnd) = f := ⟨_, rfl⟩
  rw [hf0] at HQ0 HBF0 ⊢
  rw [hf1] at HQ1 HBF1 ⊢
  obtain ⟨D0, hD0⟩ : ∃ D, fndC f0 = D := ⟨_, rfl⟩
  obtain ⟨D1, hD1⟩ : ∃ D, fndC f1 = D := ⟨_, rfl⟩
  rw [hD0] at HBF0
  rw [hD1] at HBF1
  have HD0 := Lib.hid hD0
  have HD1 := Lib.hid hD1
  clear hi hE e0 e1 hE0 hE1 hX0 hX1 hC0 hC1 hZF hf0 hf1 hD0 hD1
  go_enter Try.func23, Try.ntmps23
  go_upto_region 3 with (fail)
  go_loopw [7, 15] (fun x u wr => Below w.heap.size w wr ∧ ((u = .int .i64 0 ∧ OwnM wr 70 51 fndC FndQ w.heap.size x []) ∨ (u = .int .i64 1 ∧ OwnM wr 70 51 fndC FndQ w.heap.size x [f0]) ∨ (u = .int .i64 2 ∧ OwnM wr 70 51 fndC FndQ w.heap.size x [f0, f1]))) (fun _ u _ => 2 - (intOf u).toNat)
  case atStart => exact ⟨Below.refl _ _, .inl ⟨rfl, OwnM.nil _ _ _ _ _ _⟩⟩
  case round =>
    obtain ⟨hBr, ⟨rfl, hown⟩ | ⟨rfl, hown⟩ | ⟨rfl, hown⟩⟩ := hrel
    · have HOW := Lib.hid hown
      have HBR := Lib.hid hBr
      have zr := hBr.size
      clear hown hBr
      obtain ⟨W4, hW4⟩ : ∃ W, wr.alloc (.cells #[.int .i64 0, .int .i64 8] 124) = W := ⟨_, rfl⟩
      have hb4 : Below wr.heap.size wr W4 := by rw [← hW4]; exact (Below.refl _ _).alloc (Nat.le_refl _) _
      have hA4 : W4.heap[wr.heap.size]? = some (.cells #[.int .i64 0, .int .i64 8] 124 (0, 0)) := by rw [← hW4]; exact heap_alloc_new wr _
      have zA4 : wr.heap.size < W4.heap.size := (Array.getElem?_eq_some_iff.1 hA4).1
      have HA4 := Lib.hid hA4
      have HO4 := Lib.hid (HOW.out.below hb4)
      have HB4 := Lib.hid (HBR.out.trans (hb4.mono zr))
      have HW4 := Lib.hid hW4
      clear hW4 hb4 hA4
      go_upto_region 5 with (refine wpList_store_row rfl 124 _ _ rfl wr.heap.size #[.int .i64 0, .int .i64 8] rfl rfl 124 #[.int .i64 0, .int .i64 0] (heap_alloc_new wr _) HIA.out rfl rfl ?_; rw [World.setRow_alloc_new])
      rw [HW4.out]
      try rw [put_none]
      obtain ⟨p, hp⟩ : ∃ p, wr.heap.size = p := ⟨_, rfl⟩
      rw [hp] at HA4 zA4 zr ⊢
      clear hp
      have c40 : W4.cell? ⟨p, 0, none⟩ = some (.int .i64 0) := (cell_of_row _ _ _ _ _ _ HA4.out).trans rfl
      have c41 : W4.cell? ⟨p, 1, none⟩ = some (.int .i64 8) := (cell_of_row _ _ _ _ _ _ HA4.out).trans rfl
      go_wp2_with (refine wpList_build_on (by rfl) 65 _ rfl #[(0, .int .i64 1), (1, .int .i64 5), (2, .int .i64 2), (3, .int .i64 i), (5, .int .i64 8)] (by simp [Act.eval, Act.put]) _ HB0.out ?_)
      refine (HF0.out _).mono ?_
      rintro e5 w5 ⟨rfl, hB5⟩
      have z5 := hB5.size
      obtain ⟨W6, hW6⟩ : ∃ W, w5.alloc (.cells C0 68) = W := ⟨_, rfl⟩
      have hb6 : Below w5.heap.size w5 W6 := by rw [← hW6]; exact (Below.refl _ _).alloc (Nat.le_refl _) _
      have hF6 : W6.heap[w5.heap.size]? = some (.cells C0 68 (0, 0)) := by rw [← hW6]; exact heap_alloc_new w5 _
      have hb46 := hB5.trans (hb6.mono z5)
      have hA6 := (hb46.block p zA4).trans HA4.out
      have c60 : W6.cell? ⟨p, 0, none⟩ = some (.int .i64 0) := (cell_of_row _ _ _ _ _ _ hA6).trans rfl
      have HF6 := Lib.hid hF6
      have HO6 := Lib.hid (HO4.out.below hb46)
      have HB6 := Lib.hid (HB4.out.trans (hb46.mono (by omega)))
      have z6 := hb46.size
      have HW6 := Lib.hid hW6
      clear hB5 hW6 hb6 hF6 hb46 hA6 c40 c41
      go_upto_region 6 with (refine wpList_store_row rfl 68 _ _ rfl w5.heap.size C0 rfl rfl 68 ZF (heap_alloc_new w5 _) HI0.out HZ0.out HO0.out ?_; rw [World.setRow_alloc_new])
      rw [HW6.out]
      try rw [put_none]
      obtain ⟨p6, hp6⟩ : ∃ p, w5.heap.size = p := ⟨_, rfl⟩
      rw [hp6] at HF6 ⊢
      clear hp6
      obtain ⟨W7, hW7⟩ : ∃ W, W6.alloc (.cells D0 70) = W := ⟨_, rfl⟩
      have hb7 : Below W6.heap.size W6 W7 := by rw [← hW7]; exact (Below.refl _ _).alloc (Nat.le_refl _) _
      have hD7 : W7.heap[W6.heap.size]? = some (.cells D0 70 (0, 0)) := by rw [← hW7]; exact heap_alloc_new W6 _
      have HR7 : Hid (RowOf W7 51 fndC FndQ (some ⟨W6.heap.size, 0, none⟩) [f0]) := Lib.hid (one_rowOf (t := 70) (fr := (0, 0)) (by rw [HD0.out]; exact hD7) HQ0.out)
      have HO7 := Lib.hid (HO6.out.below hb7)
      have hs7 := HB6.out.size
      have HB7 := Lib.hid (HB6.out.trans (hb7.mono hs7))
      have hs7' := HB7.out.size
      have HW7 := Lib.hid hW7
      clear hW7 hb7 hD7
      go_wp2_with (first | (refine wpList_load_row rfl 68 _ rfl p6 rfl 68 _ _ _ HF6.out Try.underlying68 rfl HI0.out ?_) | (refine wpList_build_on (by rfl) 70 _ rfl #[(0, .int .i64 0), (1, .int .i64 i), (2, .agg C0)] (by simp [Act.eval, Act.put]) _ HBF0.out ?_) | (refine wpList_slice1f rfl (.tmp 39) rfl f0 HQ0.out.2.2.1.1 D0 HD0.out rfl ?_; rw [HW7.out]) | (at_builtin; refine wpList_appendM rfl (.tmp 34) (.tmp 40) 25 rfl 70 51 fndC FndQ kinFnd (by decide) (.agg (fndC fnd0)) 104 Try.underlying25 Try.infoFnd3 rfl w.heap.size _ [] rfl HO7.out (some ⟨W6.heap.size, 0, none⟩) 1 [f0] (by rfl) HR7.out (by simp) (by unfold maxLen; simp) (by simp) hs7' ?_; intro v11 w11 hv11 hg11 _; have HV11 := Lib.hid hv11; have HB11 := Lib.hid (HB7.out.trans (HO7.out.grown hg11 hs7')); clear hv11 hg11))
      clear c60
      exact ⟨⟨HB11.out, .inr (.inl ⟨rfl, HV11.out⟩)⟩, by simp [intOf]⟩
    · have HOW := Lib.hid hown
      have HBR := Lib.hid hBr
      have zr := hBr.size
      clear hown hBr
      obtain ⟨W4, hW4⟩ : ∃ W, wr.alloc (.cells #[.int .i64 8, .int .i64 0] 124) = W := ⟨_, rfl⟩
      have hb4 : Below wr.heap.size wr W4 := by rw [← hW4]; exact (Below.refl _ _).alloc (Nat.le_refl _) _
      have hA4 : W4.heap[wr.heap.size]? = some (.cells #[.int .i64 8, .int .i64 0] 124 (0, 0)) := by rw [← hW4]; exact heap_alloc_new wr _
      have zA4 : wr.heap.size < W4.heap.size := (Array.getElem?_eq_some_iff.1 hA4).1
      have HA4 := Lib.hid hA4
      have HO4 := Lib.hid (HOW.out.below hb4)
      have HB4 := Lib.hid (HBR.out.trans (hb4.mono zr))
      have HW4 := Lib.hid hW4
      clear hW4 hb4 hA4
      go_upto_region 5 with (refine wpList_store_row rfl 124 _ _ rfl wr.heap.size #[.int .i64 8, .int .i64 0] rfl rfl 124 #[.int .i64 0, .int .i64 0] (heap_alloc_new wr _) HIA.out rfl rfl ?_; rw [World.setRow_alloc_new])
      rw [HW4.out]
      try rw [put_none]
      obtain ⟨p, hp⟩ : ∃ p, wr.heap.size = p := ⟨_, rfl⟩
      rw [hp] at HA4 zA4 zr ⊢
      clear hp
      have c40 : W4.cell? ⟨p, 0, none⟩ = some (.int .i64 8) := (cell_of_row _ _ _ _ _ _ HA4.out).trans rfl
      have c41 : W4.cell? ⟨p, 1, none⟩ = some (.int .i64 0) := (cell_of_row _ _ _ _ _ _ HA4.out).trans rfl
      go_wp2_with (refine wpList_build_on (by rfl) 65 _ rfl #[(0, .int .i64 1), (1, .int .i64 5), (2, .int .i64 2), (3, .int .i64 i), (5, .int .i64 0)] (by simp [Act.eval, Act.put]) _ HB1.out ?_)
      refine (HF1.out _).mono ?_
      rintro e5 w5 ⟨rfl, hB5⟩
      have z5 := hB5.size
      obtain ⟨W6, hW6⟩ : ∃ W, w5.alloc (.cells C1 68) = W := ⟨_, rfl⟩
      have hb6 : Below w5.heap.size w5 W6 := by rw [← hW6]; exact (Below.refl _ _).alloc (Nat.le_refl _) _
      have hF6 : W6.heap[w5.heap.size]? = some (.cells C1 68 (0, 0)) := by rw [← hW6]; exact heap_alloc_new w5 _
      have hb46 := hB5.trans (hb6.mono z5)
      have hA6 := (hb46.block p zA4).trans HA4.out
      have c60 : W6.cell? ⟨p, 0, none⟩ = some (.int .i64 8) := (cell_of_row _ _ _ _ _ _ hA6).trans rfl
      have HF6 := Lib.hid hF6
      have HO6 := Lib.hid (HO4.out.below hb46)
      have HB6 := Lib.hid (HB4.out.trans (hb46.mono (by omega)))
      have z6 := hb46.size
      have HW6 := Lib.hid hW6
      clear hB5 hW6 hb6 hF6 hb46 hA6 c40 c41
      go_upto_region 6 with (refine wpList_store_row rfl 68 _ _ rfl w5.heap.size C1 rfl rfl 68 ZF (heap_alloc_new w5 _) HI1.out HZ1.out HO1.out ?_; rw [World.setRow_alloc_new])
      rw [HW6.out]
      try rw [put_none]
      obtain ⟨p6, hp6⟩ : ∃ p, w5.heap.size = p := ⟨_, rfl⟩
      rw [hp6] at HF6 ⊢
      clear hp6
      obtain ⟨W7, hW7⟩ : ∃ W, W6.alloc (.cells D1 70) = W := ⟨_, rfl⟩
      have hb7 : Below W6.heap.size W6 W7 := by rw [← hW7]; exact (Below.refl _ _).alloc (Nat.le_refl _) _
      have hD7 : W7.heap[W6.heap.size]? = some (.cells D1 70 (0, 0)) := by rw [← hW7]; exact heap_alloc_new W6 _
      have HR7 : Hid (RowOf W7 51 fndC FndQ (some ⟨W6.heap.size, 0, none⟩) [f1]) := Lib.hid (one_rowOf (t := 70) (fr := (0, 0)) (by rw [HD1.out]; exact hD7) HQ1.out)
      have HO7 := Lib.hid (HO6.out.below hb7)
      have hs7 := HB6.out.size
      have HB7 := Lib.hid (HB6.out.trans (hb7.mono hs7))
      have hs7' := HB7.out.size
      have HW7 := Lib.hid hW7
      clear hW7 hb7 hD7
      go_wp2_with (first | (refine wpList_load_row rfl 68 _ rfl p6 rfl 68 _ _ _ HF6.out Try.underlying68 rfl HI1.out ?_) | (refine wpList_build_on (by rfl) 70 _ rfl #[(0, .int .i64 8), (1, .int .i64 i), (2, .agg C1)] (by simp [Act.eval, Act.put]) _ HBF1.out ?_) | (refine wpList_slice1f rfl (.tmp 39) rfl f1 HQ1.out.2.2.1.1 D1 HD1.out rfl ?_; rw [HW7.out]) | (at_builtin; refine wpList_appendM rfl (.tmp 34) (.tmp 40) 25 rfl 70 51 fndC FndQ kinFnd (by decide) (.agg (fndC fnd0)) 104 Try.underlying25 Try.infoFnd3 rfl w.heap.size _ [f0] rfl HO7.out (some ⟨W6.heap.size, 0, none⟩) 1 [f1] (by rfl) HR7.out (by simp) (by unfold maxLen; simp) (by simp) hs7' ?_; intro v11 w11 hv11 hg11 _; have HV11 := Lib.hid hv11; have HB11 := Lib.hid (HB7.out.trans (HO7.out.grown hg11 hs7')); clear hv11 hg11))
      clear c60
      exact ⟨⟨HB11.out, .inr (.inr ⟨rfl, HV11.out⟩)⟩, by simp [intOf]⟩
    · have HOW := Lib.hid hown
      have HBR := Lib.hid hBr
      clear hown hBr
      go_wp2
      go_ret
      exact ⟨_, rfl, HOW.out, HBR.out⟩
end Go.Proofs.Ytoiephmngdecaaa
namespace Go.Proofs.Ytoiephmngdecaaa
open Go.RowKit Go.Rv Rl Frm
set_option linter.unusedVariables false
attribute [local go_sem] Oper.semAt_some
theorem rowOf_take1 {α : Type} {w : World} {n : Nat} {X : α → Array Value} {Q : α → Prop} {a : Option Addr} {xs : List α} (h : RowOf w n X Q a xs) (k : Nat) : RowOf w n X Q a (xs.take k) := by
  rcases h with h | ⟨b, o, e, hb, hx⟩
  · exact .inl (by rw [h]; simp)
  · refine .inr ⟨b, o, e, hb, fun j x hj => hx j x ?_⟩
    rw [List.getElem?_take] at hj
    split at hj
    · exact hj
    · cases hj
theorem built_gA : Try.prog.built 23 [(0, .int .i64 3), (1, .int .i64 8), (2, .int .i64 8), (3, .int .i64 4), (5, .int .i64 4)] = some (GC gA) := by kernel_rfl
set_option maxRecDepth 100000 in
set_option maxHeartbeats 32000000 in
theorem roll_anchor (w : World) : Calls Try.prog 9 #[] w fun e w' => e = .returned (.bool true) ∧ Below w.heap.size w w' := by
  have hzg := (zero_of_info Try.infoGeoZ).1
  have hzs := (zero_of_info Try.infoSnz).1
  have hzr := (zero_of_info Try.infoRes).1
  have HGI := Lib.hid (gsize (g := gA))
  have HGB := Lib.hid built_gA
  have HGO : Hid ((GC gA).all (·.oneCell') = true) := Lib.hid (by simp [GC, Value.oneCell'])
  have HGZ : Hid ((GC ⟨0, 0, 0, 0, 0, 0⟩).size = (GC gA).size) := Lib.hid rfl
  have HSB := Lib.hid (fun p => built_snm 1 1 5 p)
  have HSI := Lib.hid (fun p => snsize 1 1 5 p)
  have HSO : Hid (∀ p, (SnC 1 1 5 p).all (·.oneCell') = true) := Lib.hid (fun p => by simp [SnC, Value.oneCell'])
  have HSZ : Hid (∀ p, SZ.size = (SnC 1 1 5 p).size) := Lib.hid (fun p => rfl)
  have HNW := Lib.hid (fun (W : World) => new_any W)
  have HBN := Lib.hid (fun (W : World) => bnew_any gA gA_right W)
  have HC0 := Lib.hid (fun (W : World) => copies_any 0 (.inl rfl) W)
  have HC1 := Lib.hid (fun (W : World) => copies_any 1 (.inr rfl) W)
  obtain ⟨GX, hGX⟩ : ∃ X, GC gA = X := ⟨_, rfl⟩
  rw [hGX] at HGI HGB HGO HGZ HBN
  obtain ⟨GZ, hGZ⟩ : ∃ X, GC ⟨0, 0, 0, 0, 0, 0⟩ = X := ⟨_, rfl⟩
  rw [hGZ] at hzg HGZ
  obtain ⟨XZ, hXZ⟩ : ∃ X, SZ = X := ⟨_, rfl⟩
  rw [hXZ] at hzs HSZ
  clear hGX hGZ hXZ
  obtain ⟨W1, hW1⟩ : ∃ W, w.alloc (.cells GX 23) = W := ⟨_, rfl⟩
  have hb1 : Below w.heap.size w W1 := by rw [← hW1]; exact (Below.refl _ _).alloc (Nat.le_refl _) _
  have hg1 : W1.heap[w.heap.size]? = some (.cells GX 23 (0, 0)) := by rw [← hW1]; exact heap_alloc_new w _
  have HG1 := Lib.hid hg1
  have HB1 := Lib.hid hb1
  have HW1 := Lib.hid hW1
  clear hb1 hg1 hW1
  go_enter Try.func9, Try.ntmps9
  go_upto_region 2 with (first | (refine wpList_build_on (by rfl) 23 _ rfl #[(0, .int .i64 3), (1, .int .i64 8), (2, .int .i64 8), (3, .int .i64 4), (5, .int .i64 4)] (by simp [Act.eval, Act.put]) _ HGB.out ?_) | (refine wpList_store_row rfl 23 _ _ rfl w.heap.size GX rfl rfl 23 GZ (heap_alloc_new w _) HGI.out HGZ.out HGO.out ?_; rw [World.setRow_alloc_new]))
  rw [HW1.out]
  try rw [put_none]
  go_wp2_with (refine wpList_load_row rfl 23 _ rfl w.heap.size rfl 23 _ _ _ HG1.out Try.underlying23 rfl HGI.out ?_)
  refine (HBN.out _).mono ?_
  rintro e2 w2 ⟨p, le, ll, rfl, hbm2, -, -, -, hB2⟩
  have HBM2 := Lib.hid hbm2
  have HB2 := Lib.hid (HB1.out.trans (hB2.mono HB1.out.size))
  clear hbm2 hB2
  obtain ⟨W5, hW5⟩ : ∃ W, w2.alloc (.cells (SnC 1 1 5 p) 29) = W := ⟨_, rfl⟩
  have hb5 : Below w2.heap.size w2 W5 := by rw [← hW5]; exact (Below.refl _ _).alloc (Nat.le_refl _) _
  have hs5 : W5.heap[w2.heap.size]? = some (.cells (SnC 1 1 5 p) 29 (0, 0)) := by rw [← hW5]; exact heap_alloc_new w2 _
  have zs5 : w2.heap.size < W5.heap.size := (Array.getElem?_eq_some_iff.1 hs5).1
  have HBM5 := Lib.hid (HBM2.out.below hb5)
  have HS5 := Lib.hid hs5
  have HB5 := Lib.hid (HB2.out.trans (hb5.mono HB2.out.size))
  have HW5 := Lib.hid hW5
  clear hb5 hs5 hW5
  go_upto_region 6 with (first | (refine wpList_build_on (by rfl) 29 _ rfl #[(0, .int .i64 1), (1, .int .i64 1), (2, .int .i64 5), (3, .pointer (some ⟨p, 0, none⟩))] (by simp [Act.eval, Act.put]) _ (HSB.out p) ?_) | (refine wpList_store_row rfl 29 _ _ rfl w2.heap.size (SnC 1 1 5 p) rfl rfl 29 XZ (heap_alloc_new w2 _) (HSI.out p) (HSZ.out p) (HSO.out p) ?_; rw [World.setRow_alloc_new]))
  rw [HW5.out]
  try rw [put_none]
  obtain ⟨bs, hbs⟩ : ∃ b, w2.heap.size = b := ⟨_, rfl⟩
  rw [hbs] at HS5 zs5 ⊢
  clear hbs
  go_wp2_with fail
  refine (HC0.out _).mono ?_
  rintro e6 w6 ⟨u6, rfl, ho6, hB6⟩
  have z6 := hB6.size
  have HO6 := Lib.hid ho6
  have HBM6 := Lib.hid (HBM5.out.below hB6)
  have HS6 := Lib.hid ((hB6.block bs zs5).trans HS5.out)
  have HB6 := Lib.hid (HB5.out.trans (hB6.mono HB5.out.size))
  have HB56 := Lib.hid hB6
  clear hB6 ho6
  go_wp2_with fail
  refine (HC1.out _).mono ?_
  rintro e7 w7 ⟨u7, rfl, ho7, hB7⟩
  have z7 := hB7.size
  obtain ⟨a7, c7, rfl, hr7, hn7, -, -, -⟩ := ho7.shape kinFnd
  have HO7 := Lib.hid (HO6.out.below hB7)
  have HR7 := Lib.hid hr7
  have HN7 := Lib.hid hn7
  have HBM7 := Lib.hid (HBM6.out.below hB7)
  have HS7 := Lib.hid ((hB7.block bs (by omega)).trans HS6.out)
  have HB7 := Lib.hid (HB6.out.trans (hB7.mono HB6.out.size))
  have hs7 : W5.heap.size ≤ w7.heap.size := by omega
  have HB57 := Lib.hid (HB56.out.trans (hB7.mono z6))
  clear hB7 ho7 hr7 hn7
  go_upto_region 7 with (at_builtin; refine wpList_appendM rfl (.tmp 20) (.tmp 21) 25 rfl 70 51 fndC FndQ kinFnd (by decide) (.agg (fndC fnd0)) 104 Try.underlying25 Try.infoFnd3 rfl W5.heap.size _ [fndA 0 0 8, fndA 0 8 0] rfl HO7.out a7 c7 [fndA 1 0 8, fndA 1 8 0] (by rfl) HR7.out HN7.out (by unfold maxLen; simp) (by simp) hs7 ?_; intro v8 w8 hv8 hg8 _; have HV8 := Lib.hid hv8; have HB8S := Lib.hid (HO7.out.grown hg8 hs7); clear hv8 hg8)
  have hv8 : OwnM w8 70 51 fndC FndQ W5.heap.size v8 LA := HV8.out
  have hB58 := HB8S.out
  obtain ⟨a8, c8, rfl, hr8, hn8, hc8, -, -⟩ := hv8.shape kinFnd
  obtain ⟨b8, o8, rfl, -, -, -⟩ := hr8.at (k := 0) (x := fndA 0 0 8) rfl
  have HR8 := Lib.hid hr8
  have hb8 := HB57.out.trans hB58
  have HBM8 := Lib.hid (show BmIs w8 p le ll gA.b.toNat (nz gA) gA esA (liveL (nz gA) esA) from HBM5.out.below hb8)
  have HS8 := Lib.hid ((hb8.block bs zs5).trans HS5.out)
  have HB8 := Lib.hid (HB5.out.trans (hb8.mono HB5.out.size))
  have zs8 : bs < w8.heap.size := by have := hb8.size; omega
  have hok : MapOk gA esA := mapOk_new gA gA_right
  have HRUN : Hid (∀ W, Below w8.heap.size w8 W → Calls Try.prog 11 #[.agg Tb.tabV, .agg (SnC 1 1 5 p), .slice (some ⟨b8, o8, none⟩) 4 c8] W fun e w' => ∃ u, e = .returned u ∧ RunT w8.heap.size gA 5 (runLen (recs gA 1 5 LA) 5) (runSt gA esA 5 (recs gA 1 5 LA)) (zonesOf (recs gA 1 5 LA)) u w' ∧ Below W.heap.size W w') := Lib.hid (fun W hW => rrun_fact W p le ll _ _ gA esA gA_right (HBM8.out.below hW) hok 1 1 5 sA_right (some ⟨b8, o8, none⟩) LA c8 (HR8.out.below hW) (by decide) hW.size)
  have h2A := rA2
  have h3A := rA3
  have h1A := rA1
  obtain ⟨stA, hstA⟩ : ∃ s, runSt gA esA 5 (recs gA 1 5 LA) = s := ⟨_, rfl⟩
  obtain ⟨zsA, hzsA⟩ : ∃ z, zonesOf (recs gA 1 5 LA) = z := ⟨_, rfl⟩
  rw [hstA] at h2A h3A HRUN
  rw [h1A, hzsA] at HRUN
  have HA23 := Lib.hid (And.intro h2A h3A)
  have hc8' : 4 ≤ c8 := hc8
  have e4 : LA.length = 4 := rfl
  rw [e4]
  obtain ⟨TV, hTV⟩ : ∃ T, Tb.tabV = T := ⟨_, rfl⟩
  rw [hTV] at HNW HRUN
  have HTV := Lib.hid hTV
  clear hv8 hB58 hr8 hn8 hc8 hb8 hok h1A h2A h3A hstA hzsA e4 hTV
  refine wp_region_conf13 9 [Fact.eq (.agg TV), Fact.eq (.agg (SnC 1 1 5 p)), Fact.eq (.slice (some ⟨b8, o8, none⟩) 4 c8), Fact.runT w8.heap.size gA 5 2 stA zsA, Fact.runT w8.heap.size gA 5 2 stA zsA, Fact.runA w8.heap.size gA 5 2 stA zsA, Fact.eq (.int .i64 0), Fact.eq undef, Fact.eq undef] 7 8 5 ResZ 35 ?raA (by kernel_rfl) (by kernel_rfl) (by kernel_rfl) (by kernel_rfl) ?rahA ?rahs ?raho ?rahend
  case rahA =>
    intro vv
    simp only [putRules, Nat.reduceAdd]
    rfl
  case rahs =>
    intro j u W g C hj hg hr hp
    match j, hj with
    | 0, _ => exact hp
    | 1, _ => exact hp
    | 2, _ => exact hp
    | 3, _ => exact RunT.setRow (show RunT w8.heap.size gA 5 2 stA zsA u W from hp) hr C
    | 4, _ => exact RunT.setRow (show RunT w8.heap.size gA 5 2 stA zsA u W from hp) hr C
    | 5, _ => exact RunA.setRow (show RunA w8.heap.size gA 5 2 stA zsA u W from hp) hr C
    | 6, _ => exact hp
    | 7, _ => exact hp
    | 8, _ => exact hp
  case raho =>
    refine ⟨?_, ?_, ?_, ?_, ?_, ?_, ?_, ?_, ?_, trivial⟩
    · intro vv W K hB hd HK
      simp only [conf8Rules] at HK
      clear hd
      go_wp2_with (refine (HNW.out _).mono ?_; rintro e w9 ⟨rfl, hB9⟩)
      refine HK.out _ _ hB9 ?_
      rfl
    · intro vv W K hB hd HK
      simp only [conf8Rules] at HK
      clear hd
      have hT := (hB.block bs zs8).trans HS8.out
      go_wp2_with (refine wpList_load_row rfl 29 _ rfl bs rfl 29 _ _ _ hT Try.underlying29 rfl (snsize _ _ _ _) ?_)
      refine HK.out _ _ (Below.refl _ _) ?_
      rfl
    · intro vv W K hB hd HK
      simp only [conf8Rules] at HK
      clear hd
      go_wp2
      refine HK.out _ _ (Below.refl _ _) ?_
      rfl
    · intro vv W K hB hd HK
      simp only [confRules, conf8Rules, cond7, runFRules] at hd HK
      obtain ⟨h0, h1, h2, _⟩ := hd
      simp only [h0, h1, h2] at HK ⊢
      clear h0 h1 h2
      go_wp2_with (refine (HRUN.out _ hB).mono ?_; rintro e w9 ⟨u9, rfl, hr9, hB9⟩)
      refine HK.out _ _ hB9 ?_
      exact hr9
    · intro vv W K hB hd HK
      simp only [confRules, conf8Rules, cond7, runFRules] at hd HK
      have r3 := hd
      clear hd
      simp only [] at HK ⊢
      skip
      go_wp2
      refine HK.out _ _ (Below.refl _ _) ?_
      exact r3
    · intro vv W K hB hd HK
      simp only [confRules, conf8Rules, cond7, runFRules] at hd HK
      have r4 := hd
      clear hd
      simp only [] at HK ⊢
      skip
      obtain ⟨pra, lera, llra, cera, clra, avra, cvra, aura, cura, hh, mra⟩ := r4
      simp only [hh] at HK ⊢
      clear hh
      go_wp2
      refine HK.out _ _ (Below.refl _ _) ?_
      exact ⟨pra, lera, llra, cera, clra, avra, cvra, aura, cura, rfl, mra⟩
    · intro vv W K hB hd HK
      simp only [confRules, conf8Rules, cond7, runFRules] at hd HK
      have r4 := hd
      clear hd
      simp only [] at HK ⊢
      skip
      obtain ⟨pra, lera, llra, cera, clra, avra, cvra, aura, cura, hh, mra⟩ := r4
      simp only [hh] at HK ⊢
      clear hh
      go_wp2
      refine HK.out _ _ (Below.refl _ _) ?_
      rfl
    · intro vv W K hB hd HK
      simp only [] at HK
      clear hd
      go_wp2
      refine HK.out _ _ hB.size ((Below.refl _ _).alloc (Nat.le_refl _) _) (heap_alloc_new _ _)
    · intro vv W K g hB hg hr hp hd HK
      simp only [confRules, conf8Rules, cond7, runFRules] at hd HK
      obtain ⟨r5, r3, h0, h1, h2, _, r4, _⟩ := hd
      simp only [hp, h0, h1, h2] at HK ⊢
      clear h0 h1 h2
      obtain ⟨i1, i2, i3, i4⟩ := r5.row
      go_wp2_with (refine wpList_store_row rfl 35 _ _ rfl g (rowT (vv 5)) rfl i4 35 ResZ hr i1 i2 i3 ?_)
      refine HK.out _ _ rfl ?_
      rfl
  case rahend =>
  intro vv W gra hB hf e7 lra rra
  have e5 := hf 5 (by decide) (by decide)
  simp only [conf8Rules, runFRules] at e5
  obtain ⟨pra, lera, llra, cera, clra, avra, cvra, aura, cura, e5, mra⟩ := e5
  have e6 := hf 6 (by decide) (by decide)
  simp only [conf8Rules] at e6
  rw [e5] at rra
  simp only [e5, e6, e7, dropRules]
  clear hf e7 e5 e6
  have zs9 : bs < W.heap.size := by have := hB.size; omega
  have HBM9 := Lib.hid (HBM8.out.below hB)
  have HS9 := Lib.hid ((hB.block bs zs8).trans HS8.out)
  have HR9 := Lib.hid (HR8.out.below hB)
  have HB9 := Lib.hid (HB8.out.trans (hB.mono HB8.out.size))
  have HM9 := Lib.hid mra
  have HG9 := Lib.hid rra
  obtain ⟨w9, hw9⟩ : ∃ w9, W = w9 := ⟨_, rfl⟩
  rw [hw9] at zs9 HBM9 HS9 HR9 HB9 HM9 HG9 ⊢
  clear hw9 hB mra rra
  have HLB := Lib.hid (show RowOf w9 51 fndC FndQ (some ⟨b8, o8, none⟩) LB from rowOf_take1 HR9.out 2)
  have hok : MapOk gA esA := mapOk_new gA gA_right
  have HRUN2 : Hid (∀ W, Below w9.heap.size w9 W → Calls Try.prog 11 #[.agg TV, .agg (SnC 1 1 5 p), .slice (some ⟨b8, o8, none⟩) 2 c8] W fun e w' => ∃ u, e = .returned u ∧ RunT w9.heap.size gA 5 (runLen (recs gA 1 5 LB) 5) (runSt gA esA 5 (recs gA 1 5 LB)) (zonesOf (recs gA 1 5 LB)) u w' ∧ Below W.heap.size W w') := Lib.hid (fun W hW => by rw [← HTV.out]; exact rrun_fact W p le ll _ _ gA esA gA_right (HBM9.out.below hW) hok 1 1 5 sA_right (some ⟨b8, o8, none⟩) LB c8 (HLB.out.below hW) (by decide) hW.size)
  have h1B := rB1
  have h3B := rB3
  obtain ⟨stB, hstB⟩ : ∃ s, runSt gA esA 5 (recs gA 1 5 LB) = s := ⟨_, rfl⟩
  obtain ⟨zsB, hzsB⟩ : ∃ z, zonesOf (recs gA 1 5 LB) = z := ⟨_, rfl⟩
  rw [hstB] at h3B HRUN2
  rw [h1B, hzsB] at HRUN2
  have HB3 := Lib.hid h3B
  clear hok h1B h3B hstB hzsB
  go_upto_region 8 with (fail)
  refine wp_region_conf13 10 [Fact.eq (.agg TV), Fact.eq (.agg (SnC 1 1 5 p)), Fact.eq (.slice (some ⟨b8, o8, none⟩) 4 c8), Fact.eq (.slice (some ⟨b8, o8, none⟩) 2 c8), Fact.runT w9.heap.size gA 5 1 stB zsB, Fact.runT w9.heap.size gA 5 1 stB zsB, Fact.runA w9.heap.size gA 5 1 stB zsB, Fact.eq (.int .i64 0), Fact.eq undef, Fact.eq undef] 8 9 6 ResZ 35 ?rbA (by kernel_rfl) (by kernel_rfl) (by kernel_rfl) (by kernel_rfl) ?rbhA ?rbhs ?rbho ?rbhend
  case rbhA =>
    intro vv
    simp only [putRules, Nat.reduceAdd]
    rfl
  case rbhs =>
    intro j u W g C hj hg hr hp
    match j, hj with
    | 0, _ => exact hp
    | 1, _ => exact hp
    | 2, _ => exact hp
    | 3, _ => exact hp
    | 4, _ => exact RunT.setRow (show RunT w9.heap.size gA 5 1 stB zsB u W from hp) hr C
    | 5, _ => exact RunT.setRow (show RunT w9.heap.size gA 5 1 stB zsB u W from hp) hr C
    | 6, _ => exact RunA.setRow (show RunA w9.heap.size gA 5 1 stB zsB u W from hp) hr C
    | 7, _ => exact hp
    | 8, _ => exact hp
    | 9, _ => exact hp
  case rbho =>
    refine ⟨?_, ?_, ?_, ?_, ?_, ?_, ?_, ?_, ?_, ?_, trivial⟩
    · intro vv W K hB hd HK
      simp only [conf8Rules] at HK
      clear hd
      go_wp2_with (refine (HNW.out _).mono ?_; rintro e w9 ⟨rfl, hB9⟩)
      refine HK.out _ _ hB9 ?_
      rfl
    · intro vv W K hB hd HK
      simp only [conf8Rules] at HK
      clear hd
      have hT := (hB.block bs zs9).trans HS9.out
      go_wp2_with (refine wpList_load_row rfl 29 _ rfl bs rfl 29 _ _ _ hT Try.underlying29 rfl (snsize _ _ _ _) ?_)
      refine HK.out _ _ (Below.refl _ _) ?_
      rfl
    · intro vv W K hB hd HK
      simp only [conf8Rules] at HK
      clear hd
      go_wp2
      refine HK.out _ _ (Below.refl _ _) ?_
      rfl
    · intro vv W K hB hd HK
      simp only [confRules, conf8Rules, cond7] at hd HK
      have h2 := hd
      clear hd
      simp only [h2] at HK ⊢
      clear h2
      go_wp2
      refine HK.out _ _ (Below.refl _ _) ?_
      rfl
    · intro vv W K hB hd HK
      simp only [confRules, conf8Rules, cond7, runFRules] at hd HK
      obtain ⟨h0, h1, h3, _⟩ := hd
      simp only [h0, h1, h3] at HK ⊢
      clear h0 h1 h3
      go_wp2_with (refine (HRUN2.out _ hB).mono ?_; rintro e w9 ⟨u9, rfl, hr9, hB9⟩)
      refine HK.out _ _ hB9 ?_
      exact hr9
    · intro vv W K hB hd HK
      simp only [confRules, conf8Rules, cond7, runFRules] at hd HK
      have r4 := hd
      clear hd
      simp only [] at HK ⊢
      skip
      go_wp2
      refine HK.out _ _ (Below.refl _ _) ?_
      exact r4
    · intro vv W K hB hd HK
      simp only [confRules, conf8Rules, cond7, runFRules] at hd HK
      have r5 := hd
      clear hd
      simp only [] at HK ⊢
      skip
      obtain ⟨prb, lerb, llrb, cerb, clrb, avrb, cvrb, aurb, curb, hh, mrb⟩ := r5
      simp only [hh] at HK ⊢
      clear hh
      go_wp2
      refine HK.out _ _ (Below.refl _ _) ?_
      exact ⟨prb, lerb, llrb, cerb, clrb, avrb, cvrb, aurb, curb, rfl, mrb⟩
    · intro vv W K hB hd HK
      simp only [confRules, conf8Rules, cond7, runFRules] at hd HK
      have r5 := hd
      clear hd
      simp only [] at HK ⊢
      skip
      obtain ⟨prb, lerb, llrb, cerb, clrb, avrb, cvrb, aurb, curb, hh, mrb⟩ := r5
      simp only [hh] at HK ⊢
      clear hh
      go_wp2
      refine HK.out _ _ (Below.refl _ _) ?_
      rfl
    · intro vv W K hB hd HK
      simp only [] at HK
      clear hd
      go_wp2
      refine HK.out _ _ hB.size ((Below.refl _ _).alloc (Nat.le_refl _) _) (heap_alloc_new _ _)
    · intro vv W K g hB hg hr hp hd HK
      simp only [confRules, conf8Rules, cond7, runFRules] at hd HK
      obtain ⟨r6, r4, h0, h1, h2, h3, _, r5, _⟩ := hd
      simp only [hp, h0, h1, h2, h3] at HK ⊢
      clear h0 h1 h2 h3
      obtain ⟨i1, i2, i3, i4⟩ := r6.row
      go_wp2_with (refine wpList_store_row rfl 35 _ _ rfl g (rowT (vv 6)) rfl i4 35 ResZ hr i1 i2 i3 ?_)
      refine HK.out _ _ rfl ?_
      rfl
  case rbhend =>
  intro vv W grb hB hf e8 lrb rrb
  have e6 := hf 6 (by decide) (by decide)
  simp only [conf8Rules, runFRules] at e6
  obtain ⟨prb, lerb, llrb, cerb, clrb, avrb, cvrb, aurb, curb, e6, mrb⟩ := e6
  have e7 := hf 7 (by decide) (by decide)
  simp only [conf8Rules] at e7
  rw [e6] at rrb
  simp only [e6, e7, e8, dropRules]
  clear hf e8 e6 e7
  have HM10 := Lib.hid (HM9.out.below hB)
  have HG10 := Lib.hid ((hB.block gra (Array.getElem?_eq_some_iff.1 HG9.out).1).trans HG9.out)
  have HB10 := Lib.hid (HB9.out.trans (hB.mono HB9.out.size))
  have HMB := Lib.hid mrb
  obtain ⟨x0, -, x2, -, -⟩ := resR_cells HG10.out
  obtain ⟨y0, y1, -, -, -⟩ := resR_cells rrb
  rw [HA23.out.1] at x2
  have hesA : stA.es.length ≤ 100000 := by have h1 := HM10.out.ok.len; have h2 : gA.b = 4 := rfl; omega
  have hesB : stB.es.length ≤ 100000 := by have h1 := HMB.out.ok.len; have h2 : gA.b = 4 := rfl; omega
  have HCA := Lib.hid (bcount_any W pra lera llra cera clra gA stA.es _ HM10.out.bm 1 hesA)
  have HCB : Hid (∀ W', Below W.heap.size W W' → Calls Try.prog 24 #[.pointer (some ⟨prb, 0, none⟩), .int .i64 1] W' fun e w' => e = .returned (.int .i64 (countB stB.es 1 : Nat)) ∧ Below W'.heap.size W' w') := Lib.hid (fun W' hW => bcount_any W' prb lerb llrb cerb clrb gA stB.es _ (HMB.out.bm.below hW) 1 hesB)
  rw [HA23.out.2] at HCA
  rw [HB3.out] at HCB
  have HY := Lib.hid (fun (W' : World) (hW : Below W.heap.size W W') => resR_cells ((hW.block grb (Array.getElem?_eq_some_iff.1 rrb).1).trans rrb))
  clear rrb mrb hesA hesB y0 y1 hB
  go_wp2_with fail
  refine HCA.out.mono ?_
  rintro e11 w11 ⟨rfl, hB11⟩
  obtain ⟨y0, y1, -, -, -⟩ := HY.out w11 hB11
  have HB11 := Lib.hid (HB10.out.trans (hB11.mono HB10.out.size))
  have HCB11 := Lib.hid (HCB.out w11 hB11)
  clear hB11 x0 x2
  go_wp2_with fail
  refine HCB11.out.mono ?_
  rintro e12 w12 ⟨rfl, hB12⟩
  have HB12 := Lib.hid (HB11.out.trans (hB12.mono HB11.out.size))
  clear hB12 y0 y1
  go_wp2
  go_ret
  exact ⟨rfl, HB12.out⟩
end Go.Proofs.Ytoiephmngdecaaa
namespace Go.Rv
open Go.RowKit
set_option linter.unusedVariables false
theorem chunk_one {cs : List Value} {i : Nat} {v : Value} (h : (cs.drop i).take 1 = [v]) : cs[i]? = some v := by
  have : ((cs.drop i).take 1)[0]? = some v := by rw [h]; rfl
  rw [List.getElem?_take] at this
  simpa using this
theorem u8_nat {n : Int} (h : (Lit.int .u8 n).wf = true) : ∃ m : Nat, n = (m : Nat) ∧ m < 256 := by
  obtain ⟨h0, h1⟩ := bounds_u8 h
  exact ⟨n.toNat, by omega, by omega⟩
theorem arr_of_fits {P : Program} {w : World} {d : Nat} {t e : TypeId} {n : Nat} {cs : List Value} (hu : P.underlying t = some (.array n e)) (he : P.underlying e = some (.int .u8)) (hc : P.cellsOf e = 1) (ht : P.cellsOf t = n) (h : Fits P w (d + 2) t cs) :
    ∃ l : List Nat, l.length = n ∧ (∀ c ∈ l, c < 256) ∧ cs = (byteCells l).toList := by
  obtain ⟨hl, hi⟩ := fits_array hu h
  rw [ht] at hl
  obtain ⟨l, hn, hx⟩ := list_of_forall (Q := fun i (x : Nat) => cs[i]? = some (.int .u8 (x : Nat)) ∧ x < 256) n (fun i hin => by
    have h1 := hi i hin
    rw [hc, Nat.mul_one] at h1
    obtain ⟨m, h2, h3⟩ := fits_int he h1
    obtain ⟨x, rfl, hx⟩ := u8_nat h3
    exact ⟨x, chunk_one h2, hx⟩)
  refine ⟨l, hn, fun c hc => ?_, ?_⟩
  · obtain ⟨i, hi⟩ := List.getElem?_of_mem hc
    exact (hx i c hi).2
  · apply List.ext_getElem?
    intro i
    by_cases h : i < n
    · have h1 : l[i]? = some l[i] := List.getElem?_eq_getElem (by omega)
      rw [(hx i _ h1).1]
      have h2 := byteCells_at l i (by omega)
      rw [Array.getElem?_toList, h2, List.getD_eq_getElem?_getD, h1]
      rfl
    · rw [List.getElem?_eq_none (by omega), List.getElem?_eq_none (by rw [Array.length_toList, size_byteCells]; omega)]
theorem agg_of_cells {v : Value} {n : Nat} (h : v.cells.toList.length = n) (h1 : n ≠ 1) : ∃ xs : Array Value, v = .agg xs := by
  cases v
  case agg xs => exact ⟨xs, rfl⟩
  all_goals (exfalso; exact h1 (h.symm.trans rfl))
end Go.Rv
namespace Go.Proofs.Ytoiephmngdecaaa
open Go.RowKit Go.Rv Frm
theorem six_parts (L : List Value) (a b c d e : Value) (m : List Value) (hl : L.length = 49) (h0 : (L.drop 0).take 1 = [a]) (h1 : (L.drop 1).take 1 = [b]) (h2 : (L.drop 2).take 1 = [c]) (h3 : (L.drop 3).take 1 = [d]) (h4 : (L.drop 4).take 1 = [e]) (h5 : (L.drop 5).take 44 = m) : L = a :: b :: c :: d :: e :: m := by
  match L, hl with
  | x0 :: x1 :: x2 :: x3 :: x4 :: r, hl =>
    simp at h0 h1 h2 h3 h4 h5 hl
    subst h0 h1 h2 h3 h4
    rw [List.take_of_length_le (by omega)] at h5
    rw [h5]
set_option maxRecDepth 100000 in
theorem frame_of_fits {w : World} {v : Value} (h : Fits Try.prog w 6 68 v.cells.toList) : ∃ f : Fr, v = .agg (FC f) ∧ Body f.body ∧ Num64 f := by
  obtain ⟨hl, hx⟩ := fits_struct (d := 5) Try.underlying68 h
  have k1 : Try.prog.cellsOf 3 = 1 := by kernel_rfl
  have k44 : Try.prog.cellsOf 57 = 44 := by kernel_rfl
  have k49 : Try.prog.cellsOf 68 = 49 := by kernel_rfl
  rw [k49] at hl
  obtain ⟨xs, rfl⟩ := agg_of_cells hl (by omega)
  simp only [List.forall_mem_cons, k1, k44] at hx
  obtain ⟨f0, f1, f2, f3, f4, f5, -⟩ := hx
  obtain ⟨n0, c0, w0⟩ := fits_int Try.underlying3 f0
  obtain ⟨n1, c1, w1⟩ := fits_int Try.underlying3 f1
  obtain ⟨n2, c2, w2⟩ := fits_int Try.underlying3 f2
  obtain ⟨n3, c3, w3⟩ := fits_int Try.underlying3 f3
  obtain ⟨n4, c4, w4⟩ := fits_int Try.underlying3 f4
  obtain ⟨l, hn, hb, c5⟩ := arr_of_fits (d := 3) Try.underlying57 Try.underlying5 (by kernel_rfl) k44 f5
  have he := six_parts _ _ _ _ _ _ _ hl c0 c1 c2 c3 c4 c5
  refine ⟨⟨n0, n1, n2, n3, n4, l⟩, ?_, ⟨hn, hb⟩, w0, w1, w2, w3, w4⟩
  have : xs = FC ⟨n0, n1, n2, n3, n4, l⟩ := by
    apply Array.toList_inj.1
    rw [show (FC ⟨n0, n1, n2, n3, n4, l⟩).toList = .int .i64 n0 :: .int .i64 n1 :: .int .i64 n2 :: .int .i64 n3 :: .int .i64 n4 :: (byteCells l).toList from by simp [FC]]
    exact he
  rw [this]
end Go.Proofs.Ytoiephmngdecaaa
namespace Go.Proofs.Ytoiephmngdecaaa
open Go.RowKit Go.Rv Rl Frm
set_option linter.unusedVariables false
set_option maxRecDepth 100000 in
theorem item17_of_fits {d : Nat} {w : World} {cs : List Value} (h : Fits Try.prog w (d + 3) 87 cs) : ∃ x : Int × BE, cs = (opC x).toList ∧ Op64 x := by
  obtain ⟨hl, hx⟩ := fits_struct (d := d + 2) Try.underlying87 h
  have k1 : Try.prog.cellsOf 3 = 1 := by kernel_rfl
  have k6 : Try.prog.cellsOf 54 = 6 := by kernel_rfl
  have k7 : Try.prog.cellsOf 87 = 7 := by kernel_rfl
  rw [k7] at hl
  simp only [List.forall_mem_cons, k1, k6] at hx
  obtain ⟨f0, f1, -⟩ := hx
  obtain ⟨n0, c0, w0⟩ := fits_int Try.underlying3 f0
  obtain ⟨e, c1, w1⟩ := ent_of_fits6 f1
  refine ⟨(n0, e), ?_, w0, w1⟩
  match cs, hl with
  | v :: r, hl =>
    simp at c0 c1 hl
    rw [List.take_of_length_le (by omega)] at c1
    rw [c0, c1]
    rfl
set_option maxRecDepth 100000 in
theorem items17_of_fits {w : World} {a : Option Addr} {len cap : Nat} (h : Fits Try.prog w 6 24 [.slice a len cap]) : ∃ xs : List (Int × BE), xs.length = len ∧ RowOf w 7 opC Op64 a xs ∧ len ≤ cap ∧ cap ≤ 9223372036854775807 ∧ (a = none → cap = 0) :=
  rowOf_of_fits (d := 5) 7 opC Op64 Try.underlying24 (by kernel_rfl) (by omega) (fun cs _ hf => item17_of_fits (d := 2) hf) h
set_option maxRecDepth 100000 in
theorem frame_of_cells4 {w : World} {cs : List Value} (hl : cs.length = 49) (h : Fits Try.prog w 4 68 cs) : ∃ f : Fr, cs = (FC f).toList ∧ FrQ f := by
  obtain ⟨-, hx⟩ := fits_struct (d := 3) Try.underlying68 h
  have k1 : Try.prog.cellsOf 3 = 1 := by kernel_rfl
  have k44 : Try.prog.cellsOf 57 = 44 := by kernel_rfl
  simp only [List.forall_mem_cons, k1, k44] at hx
  obtain ⟨f0, f1, f2, f3, f4, f5, -⟩ := hx
  obtain ⟨n0, c0, w0⟩ := fits_int Try.underlying3 f0
  obtain ⟨n1, c1, w1⟩ := fits_int Try.underlying3 f1
  obtain ⟨n2, c2, w2⟩ := fits_int Try.underlying3 f2
  obtain ⟨n3, c3, w3⟩ := fits_int Try.underlying3 f3
  obtain ⟨n4, c4, w4⟩ := fits_int Try.underlying3 f4
  obtain ⟨l, hn, hb, c5⟩ := arr_of_fits (d := 1) Try.underlying57 Try.underlying5 (by kernel_rfl) k44 f5
  have he := six_parts _ _ _ _ _ _ _ hl c0 c1 c2 c3 c4 c5
  refine ⟨⟨n0, n1, n2, n3, n4, l⟩, ?_, ⟨hn, hb⟩, w0, w1, w2, w3, w4⟩
  rw [show (FC ⟨n0, n1, n2, n3, n4, l⟩).toList = .int .i64 n0 :: .int .i64 n1 :: .int .i64 n2 :: .int .i64 n3 :: .int .i64 n4 :: (byteCells l).toList from by simp [FC]]
  exact he
set_option maxRecDepth 100000 in
theorem found_of_cells {w : World} {cs : List Value} (hl : cs.length = 51) (h : Fits Try.prog w 5 70 cs) : ∃ f : Fnd, cs = (fndC f).toList ∧ FndQ f := by
  obtain ⟨-, hx⟩ := fits_struct (d := 4) Try.underlying70 h
  have k1 : Try.prog.cellsOf 3 = 1 := by kernel_rfl
  have k49 : Try.prog.cellsOf 68 = 49 := by kernel_rfl
  simp only [List.forall_mem_cons, k1, k49] at hx
  obtain ⟨f0, f1, f2, -⟩ := hx
  obtain ⟨n0, c0, w0⟩ := fits_int Try.underlying3 f0
  obtain ⟨n1, c1, w1⟩ := fits_int Try.underlying3 f1
  obtain ⟨fr, c2, hq⟩ := frame_of_cells4 (by rw [List.length_take, List.length_drop]; omega) f2
  refine ⟨⟨n0, n1, fr⟩, ?_, w0, w1, hq⟩
  match cs, hl with
  | x0 :: x1 :: r, hl =>
    simp at c0 c1 c2 hl
    rw [List.take_of_length_le (by omega)] at c2
    rw [c0, c1, c2]
    simp [fndC]
set_option maxRecDepth 100000 in
theorem founds_of_fits {w : World} {a : Option Addr} {len cap : Nat} (h : Fits Try.prog w 6 25 [.slice a len cap]) : ∃ xs : List Fnd, xs.length = len ∧ RowOf w 51 fndC FndQ a xs ∧ len ≤ cap ∧ cap ≤ 9223372036854775807 ∧ (a = none → cap = 0) :=
  rowOf_of_fits 51 fndC FndQ Try.underlying25 (by kernel_rfl) (by omega) (fun _ hl hc => found_of_cells hl hc) h
end Go.Proofs.Ytoiephmngdecaaa
