/- Proved here, one behind the other: Proved here: the walk of the law on frames that are read as a snapshot. -/
import Derived.Test.YtjnneoejnpephaaBa
import Derived.Test.YtjnneoejnpephaaBc
import Derived.Test.YtjnneoejnpephaaBn
import Derived.Test.YtjnneoejnpephaaBs
namespace Go.Proofs.Ytjnneoejnpephaa
open Go.RowKit Go.Rv Frm
set_option linter.unusedVariables false
attribute [local go_sem] Oper.semAt_some
set_option maxRecDepth 100000 in
set_option maxHeartbeats 16000000 in
theorem sn_reads_walk (w : World) (a : Option Addr) (l : List Fr) (cap : Nat) (hI : RowOf w 49 FC FrQ a l) (hcap : l.length ≤ cap) (hcm : cap ≤ 9223372036854775807) :
    Calls Try.prog 5 #[.slice a l.length cap] w fun e w' => e = .returned (.bool true) ∧ Below w.heap.size w w' := by
  have HA := Lib.hid (fun W => sn_anchor W)
  by_cases hl : l.length ≤ 60
  · have HRD : Hid (∀ W, Below w.heap.size w W → Calls Try.prog 27 #[.slice a l.length cap] W (ReadPost W l)) := Lib.hid (fun W hW => by
      cases l with
      | nil => exact sread_nil W a cap
      | cons f r => exact sread_cons W a f r cap (hI.below hW) (by rw [List.length_cons] at hl; omega) hcap hcm)
    have t1 : decide (60 < (l.length : Int)) = false := decide_eq_false (by omega)
    have hsi : (Try.prog.info? 28).map (·.size) = some SZ.size := (zero_of_info Try.infoSnz).2
    have HSI := Lib.hid hsi
    have HS1 : Hid (SZ.all (·.oneCell') = true) := Lib.hid (by simp [SZ, Value.oneCell'])
    have hzs := (zero_of_info Try.infoSnz).1
    have HSZ : Hid (∀ (s : Sn.S) p, SZ.size = (SC s p).size) := Lib.hid (fun s p => rfl)
    have HSC1 : Hid (∀ (s : Sn.S) p, (SC s p).all (·.oneCell') = true) := Lib.hid (fun s p => by simp [SC, SnC, Value.oneCell'])
    have HSCI : Hid (∀ (s : Sn.S) p, (Try.prog.info? 28).map (·.size) = some (SC s p).size) := Lib.hid (fun s p => snsize _ _ _ _)
    have HSCC : Hid (∀ (W : World) (b : Nat) (s : Sn.S) p, W.heap[b]? = some (.cells (SC s p) 28 (0, 0)) → W.cell? ⟨b, 3, none⟩ = some (.pointer (some ⟨p, 0, none⟩))) := Lib.hid (fun W b s p h => (sn_cells h).2.2.2)
    have HSZC : Hid (∀ (W : World) (b : Nat), W.heap[b]? = some (.cells SZ 28 (0, 0)) → W.cell? ⟨b, 0, none⟩ = some (.int .i64 0) ∧ W.cell? ⟨b, 3, none⟩ = some (.pointer none)) := Lib.hid (fun W b h => ⟨(cell_of_row _ _ _ _ _ _ h).trans rfl, (cell_of_row _ _ _ _ _ _ h).trans rfl⟩)
    have HII := Lib.hid hI
    have HL := Lib.hid hl
    have HCAP := Lib.hid hcap
    obtain ⟨Z, hZ⟩ : ∃ Z, SZ = Z := ⟨_, rfl⟩
    have HZZ := Lib.hid hZ
    rw [hZ] at hsi HSI HS1 hzs HSZ HSZC
    clear hI hsi hl hcap hcm hZ
    go_enter Try.func5, Try.ntmps5
    go_wp2_with fail
    refine (HA.out _).mono ?_
    rintro e w0 ⟨rfl, hB0⟩
    have HB0 := Lib.hid hB0
    clear hB0
    go_wp2_with fail
    refine (HRD.out _ HB0.out).mono ?_
    rintro e w1 ⟨hB1, ⟨s, p, le, ll, ce, cl, hrs, rfl, hsn, q1, q2, q3⟩ | ⟨hrs, rfl⟩⟩
    · have HB1 := Lib.hid (HB0.out.trans (hB1.mono HB0.out.size))
      have hfit := Sn.read_some (fun f hf => (HII.out.all f hf).1.2) hrs
      obtain ⟨f0, r, hlr, hg, hmo, hok, hnp, hfr⟩ := hfit
      obtain ⟨n, hn⟩ : ∃ n, l.length = n := ⟨_, rfl⟩
      have hn1 : 1 ≤ n := by rw [← hn, hlr]; simp
      have h00 : l[0]? = some f0 := by rw [hlr]; rfl
      obtain ⟨b, o, rfl, hbl, -, -⟩ := HII.out.at h00
      obtain ⟨m, hm⟩ : ∃ m, Sn.nParts s.g = m := ⟨_, rfl⟩
      have hfl : (s.frames f0.zone).length = m := by rw [Sn.S.frames_length _ ((Geo.right_iff _).1 hg).1]; exact hm
      have hfq := Sn.frames_right hg hok
      have HRG : Hid (∀ (W : World) (k : Nat) (x : Fr), Below w.heap.size w W → l[k]? = some x → W.rangeAt b (o + k * 49) (FC x).toList) := Lib.hid (fun W k x hW hk => (HII.out.below hW).range hk (by rw [FC_size, (HII.out.all x (List.mem_of_getElem? hk)).1.1]))
      have HRZ : Hid (∀ W, Below w.heap.size w W → W.cell? ⟨b, o + 1, none⟩ = some (.int .i64 f0.zone)) := Lib.hid (fun W hW => by
        have h1 := HRG.out W 0 f0 hW h00 1 (.int .i64 f0.zone)
        rw [Nat.zero_mul, Nat.add_zero] at h1
        refine h1 ?_
        rw [Array.getElem?_toList]
        exact (FC_num f0).2.1)
      have HIX : Hid (∀ x ∈ l, (Try.prog.info? 42).map (·.size) = some (FC x).toList.length) := Lib.hid (fun x hx => by rw [FC_len (HII.out.all x hx).1.1]; exact (zero_of_info Try.infoFrame).2)
      have HQ : Hid (∀ x ∈ l, FrQ x) := Lib.hid HII.out.all
      have her : s.er f0.zone = 0 := by unfold Sn.S.er; rw [hok]; rfl
      have hfe : s.fr f0.zone = s.frames f0.zone := by unfold Sn.S.fr; rw [hok]; rfl
      have HFRM := Lib.hid (fun W (hW : SnIs W p le ll ce cl s) => sframes_any W p le ll ce cl s hW f0.zone)
      unfold FramesPost at HFRM
      rw [her, hfe] at HFRM
      have hsr : Sn.right s.gen s.epoch s.next s.es = true := by simp only [Sn.S.ok, Sn.S.right, Bool.and_eq_true] at hok; exact hok.1
      have hes : s.es.length ≤ 100000 := by have h1 := hmo.len; have := ((Geo.right_iff _).1 hg).1.2.2.2.1.2; omega
      have HRT : Hid (∀ W, SnIs W p le ll ce cl s → Calls Try.prog 18 #[.agg (SC s p)] W fun e w' => e = .returned (.bool true) ∧ Below W.heap.size W w') := Lib.hid (fun W hW => by
        have := sright_any W p le ll ce cl s.g s.es _ hW.bm hes s.gen s.epoch s.next
        rwa [hsr] at this)
      have hzf := (zero_of_info Try.infoFrame).1
      obtain ⟨X1, hX1⟩ : ∃ X1, SC s p = X1 := ⟨_, rfl⟩
      have HI1 : Hid ((Try.prog.info? 28).map (·.size) = some X1.size) := Lib.hid (by rw [← hX1]; exact HSCI.out _ _)
      have HZ1 : Hid (Z.size = X1.size) := Lib.hid (by rw [← hX1]; exact HSZ.out _ _)
      have H11 : Hid (X1.all (·.oneCell') = true) := Lib.hid (by rw [← hX1]; exact HSC1.out _ _)
      have HSC : Hid (∀ (W : World) (b : Nat), W.heap[b]? = some (.cells X1 28 (0, 0)) → W.cell? ⟨b, 3, none⟩ = some (.pointer (some ⟨p, 0, none⟩))) := Lib.hid (fun W b h => by rw [← hX1] at h; exact HSCC.out _ _ _ _ h)
      rw [hX1] at HFRM HRT
      rw [hX1]
      have hlm : m ≤ n := by rw [← hm, ← hn]; exact hnp
      have HHF : Hid (s.frames f0.zone = l.take m) := Lib.hid (by rw [← hm]; exact hfr)
      have HLN := Lib.hid hn
      have HFLN := Lib.hid hfl
      have HFQ := Lib.hid hfq
      have hn60 : n ≤ 60 := by rw [← hn]; exact HL.out
      have hnc : n ≤ cap := by rw [← hn]; exact HCAP.out
      have hm64 : m ≤ 64 := by rw [← hm]; exact Sn.nParts_64 hg
      rw [hn]
      obtain ⟨zone, hzone⟩ : ∃ z, f0.zone = z := ⟨_, rfl⟩
      rw [hzone] at HFRM HRZ HHF HFLN HFQ
      obtain ⟨own, hown⟩ : ∃ own, s.frames zone = own := ⟨_, rfl⟩
      rw [hown] at HFRM HHF HFLN HFQ
      obtain ⟨W2, hW2⟩ : ∃ W2, w1.alloc (.cells X1 28) = W2 := ⟨_, rfl⟩
      have hb2 : Below w1.heap.size w1 W2 := by rw [← hW2]; exact (Below.refl _ _).alloc (Nat.le_refl _) _
      have hS2 : W2.heap[w1.heap.size]? = some (.cells X1 28 (0, 0)) := by rw [← hW2]; exact heap_alloc_new w1 _
      have z2 : w1.heap.size < W2.heap.size := (Array.getElem?_eq_some_iff.1 hS2).1
      have HB2 := Lib.hid (HB1.out.trans (hb2.mono HB1.out.size))
      have HSN2 := Lib.hid (hsn.below hb2)
      have HS2 := Lib.hid hS2
      have HW2 := Lib.hid hW2
      clear hB1 hb2 hW2 hrs hsn h00 hlr hfr hg hmo hok hnp hfl hfq her hfe hsr hes hX1 hm hn hzone hown t1
      go_upto_region 6 with (refine wpList_store_row rfl 28 _ _ rfl w1.heap.size X1 rfl rfl 28 Z (heap_alloc_new w1 _) HI1.out HZ1.out H11.out ?_; rw [World.setRow_alloc_new])
      rw [HW2.out]
      have c3 := HSC.out _ _ hS2
      have t2 : ((n : Int) == 0) = false := by simp; omega
      go_wp2_with (refine wpList_row_on (by rfl) 28 _ rfl w1.heap.size rfl 28 _ _ _ hS2 Try.underlying28 rfl HI1.out ?_)
      refine (HRT.out _ HSN2.out).mono ?_
      rintro e3 w3 ⟨rfl, hB3⟩
      have z3 := hB3.size
      have HS3 := Lib.hid ((hB3.block w1.heap.size z2).trans HS2.out)
      have HSN3 := Lib.hid (HSN2.out.below hB3)
      have HB3 := Lib.hid (HB2.out.trans (hB3.mono HB2.out.size))
      clear hB3 hS2 c3 t2
      go_upto_region 10 with (fail)
      refine wp_region_conf2 10 [Fact.eq (.agg X1), Fact.eq (.slice (some ⟨b, o, none⟩) n cap), Fact.eq (.pointer (some ⟨b, o, none⟩)), Fact.eq (.pointer (some ⟨b, o + 1, none⟩)), Fact.eq (.int .i64 zone), VFact w3.heap.size 0 own, VFact w3.heap.size 0 own, VFact2 w3.heap.size own, Fact.eq (.int .i64 0), VFact2 w3.heap.size own] ?rbA (by kernel_rfl) (by kernel_rfl) ?rbhA ?rbho ?rbhend
      case rbhA =>
        intro vv
        simp only [putRules, Nat.reduceAdd]
        rfl
      case rbho =>
        refine ⟨?_, ?_, ?_, ?_, ?_, ?_, ?_, ?_, ?_, ?_, trivial⟩
        · intro vv W K hB hd HK
          simp only [confRules, vRules] at HK
          clear hd
          have hT := (hB.block w1.heap.size (by omega)).trans HS3.out
          go_wp2_with (refine wpList_row_on (by rfl) 28 _ rfl w1.heap.size rfl 28 _ _ _ hT Try.underlying28 rfl HI1.out ?_)
          refine HK.out _ _ (Below.refl _ _) ?_
          rfl
        · intro vv W K hB hd HK
          simp only [confRules, vRules] at HK
          clear hd
          go_wp2
          refine HK.out _ _ (Below.refl _ _) ?_
          rfl
        · intro vv W K hB hd HK
          simp only [confRules, vRules] at hd HK
          have h1 := hd
          clear hd
          simp only [h1] at HK ⊢
          clear h1
          go_wp2
          refine HK.out _ _ (Below.refl _ _) ?_
          rfl
        · intro vv W K hB hd HK
          simp only [confRules, vRules] at hd HK
          have h2 := hd
          clear hd
          simp only [h2] at HK ⊢
          clear h2
          go_wp2
          refine HK.out _ _ (Below.refl _ _) ?_
          rfl
        · intro vv W K hB hd HK
          simp only [confRules, vRules] at hd HK
          have h3 := hd
          clear hd
          simp only [h3] at HK ⊢
          clear h3
          have c1 := HRZ.out _ (HB3.out.trans (hB.mono HB3.out.size))
          go_wp2
          refine HK.out _ _ (Below.refl _ _) ?_
          rfl
        · intro vv W K hB hd HK
          simp only [confRules, vRules] at hd HK
          obtain ⟨h0, h4⟩ := hd
          simp only [h0, h4] at HK ⊢
          clear h0 h4
          have hT := HSN3.out.below hB
          go_wp2_with (refine (HFRM.out _ hT).mono ?_; rintro e w9 ⟨v9, rfl, ho9, hB9⟩)
          refine HK.out _ _ hB9 ?_
          exact ⟨v9, rfl, ho9.mono hB.size⟩
        · intro vv W K hB hd HK
          simp only [confRules, vRules] at hd HK
          obtain ⟨v5, h5, p5⟩ := hd
          simp only [h5] at HK ⊢
          clear h5
          go_wp2
          refine HK.out _ _ (Below.refl _ _) ?_
          exact ⟨v5, rfl, p5⟩
        · intro vv W K hB hd HK
          simp only [confRules, vRules] at hd HK
          obtain ⟨v6, h6, p6⟩ := hd
          simp only [h6] at HK ⊢
          clear h6
          go_wp2
          refine HK.out _ _ (Below.refl _ _) ?_
          exact ⟨v6, rfl, p6⟩
        · intro vv W K hB hd HK
          simp only [confRules, vRules, cond7] at hd HK
          obtain ⟨v6, h6, p6⟩ := hd
          simp only [h6] at HK ⊢
          clear h6
          go_wp2
          refine HK.out _ _ (Below.refl _ _) ?_
          rfl
        · intro vv W K hB hd HK
          simp only [confRules, vRules, cond7] at hd HK
          obtain ⟨⟨v7, h7, p7⟩, ⟨v5, h5, p5⟩, h0, h1, h2, h3, h4, _, ⟨v6, h6, p6⟩, _⟩ := hd
          simp only [h7, h5, h0, h1, h2, h3, h4, h6] at HK ⊢
          clear h7 h5 h0 h1 h2 h3 h4 h6
          go_wp2
          refine HK.out _ _ (Below.refl _ _) ?_
          exact ⟨v7, rfl, p7⟩
      case rbhend =>
        intro vv W hB hf
        have e8 := hf 8 (by decide)
        have e9 := hf 9 (by decide)
        simp only [endRules, vRules] at e8 e9
        obtain ⟨v9, e9, p9⟩ := e9
        simp only [e8, e9, dropRules]
        clear hf e8 e9
        have HV := Lib.hid p9
        have HBW := Lib.hid (HB3.out.trans (hB.mono HB3.out.size))
        clear hB p9
        obtain ⟨av, cv, rfl, hrv, -, hcv1, hcv2, hxv⟩ := HV.out.shape kinF
        have HRV := Lib.hid hrv
        rw [HFLN.out]
        clear hrv hcv1 hxv HV
        have t5 : decide ((n : Int) < (m : Int)) = false := decide_eq_false (by omega)
        go_wp2
        rw [show decide (n < m) = false from decide_eq_false (by omega)]
        clear t5
        go_loopw [66] (fun u wr => ∃ j : Nat, j ≤ m ∧ u = .int .i64 j ∧ Below W.heap.size W wr) (fun u _ => m - (intOf u).toNat)
        case atStart => exact ⟨0, Nat.zero_le _, rfl, Below.refl _ _⟩
        case round =>
          obtain ⟨j, hj, rfl, hBr⟩ := hrel
          have zr' := hBr.size
          have HBR := Lib.hid hBr
          have HBwr := Lib.hid (HBW.out.trans (hBr.mono HBW.out.size))
          clear hBr
          by_cases hjt : j < m
          · obtain ⟨x, hx⟩ : ∃ x, own[j]? = some x := ⟨_, List.getElem?_eq_getElem (by rw [HFLN.out]; exact hjt)⟩
            have hy : l[j]? = some x := by rw [HHF.out, List.getElem?_take, if_pos hjt] at hx; exact hx
            have hqx := HFQ.out x (List.mem_of_getElem? hx)
            obtain ⟨ba, oa, rfl, -, -, -⟩ := HRV.out.at hx
            have hrx := (HRV.out.below HBR.out).range hx (by rw [FC_size, hqx.1.1])
            have hix : (Try.prog.info? 42).map (·.size) = some (FC x).toList.length := by rw [FC_len hqx.1.1]; exact (zero_of_info Try.infoFrame).2
            have HIC : Hid ((Try.prog.info? 42).map (·.size) = some (FC x).size) := Lib.hid (size_frq hqx.1.1)
            have HZC : Hid ((FC Fr.zero).size = (FC x).size) := Lib.hid (by rw [FC_size, FC_size, hqx.1.1]; rfl)
            have H1C := Lib.hid (FC_one x)
            have HGY : Hid (∀ W', Below wr.heap.size wr W' → W'.rangeAt b (o + j * 49) (FC x).toList) := Lib.hid (fun W' hW => HRG.out W' j x (HBwr.out.trans (hW.mono HBwr.out.size)) hy)
            have HEQ := Lib.hid (fun W => eq_frame x x hqx.1 hqx.1 hqx.2.1 hqx.2.1 true (by simp) W)
            obtain ⟨XL, hXL⟩ : ∃ XL, (FC x).toList = XL := ⟨_, rfl⟩
            have hXC : FC x = XL.toArray := by rw [← hXL]
            rw [hXL] at hrx hix HGY
            rw [hXC] at HIC HZC H1C HEQ
            have HGX := Lib.hid hrx
            have HIL := Lib.hid hix
            clear hx hy hqx hrx hix hXL hXC
            obtain ⟨W7, hW7⟩ : ∃ W7, wr.alloc (.cells XL.toArray 42) = W7 := ⟨_, rfl⟩
            have hb7 : Below wr.heap.size wr W7 := by rw [← hW7]; exact (Below.refl _ _).alloc (Nat.le_refl _) _
            have hF7 : W7.heap[wr.heap.size]? = some (.cells XL.toArray 42 (0, 0)) := by rw [← hW7]; exact heap_alloc_new wr _
            have zF7 : wr.heap.size < W7.heap.size := (Array.getElem?_eq_some_iff.1 hF7).1
            have HF7 := Lib.hid hF7
            have HB7 := Lib.hid hb7
            have HW7 := Lib.hid hW7
            have t0 : decide ((j : Int) < (m : Int)) = true := decide_eq_true (by omega)
            clear hb7 hW7 hF7
            go_upto_region 16 with (first | (refine wpList_load_mid rfl 42 _ rfl ba (oa + j * 49) rfl XL _ HGX.out Try.underlying42 rfl HIL.out ?_) | (refine wpList_store_row rfl 42 _ _ rfl wr.heap.size XL.toArray rfl rfl 42 (FC Fr.zero) (heap_alloc_new wr _) HIC.out HZC.out H1C.out ?_; rw [World.setRow_alloc_new]))
            rw [HW7.out, put_none]
            clear t0
            refine wp_region_conf2 5 [Fact.eq (.agg XL.toArray), Fact.eq (.slice (some ⟨b, o, none⟩) n cap), Fact.eq (.int .i64 (j : Nat)), Fact.eq (.pointer (some ⟨b, o + j * 49, none⟩)), Fact.eq (.agg XL.toArray)] ?rcA (by kernel_rfl) (by kernel_rfl) ?rchA ?rcho ?rchend
            case rchA =>
              intro vv
              simp only [putRules, Nat.reduceAdd]
              rfl
            case rcho =>
              refine ⟨?_, ?_, ?_, ?_, ?_, trivial⟩
              · intro vv W K hB hd HK
                simp only [confRules] at HK
                clear hd
                have hT := (hB.block wr.heap.size zF7).trans HF7.out
                go_wp2_with (refine wpList_row_on (by rfl) 42 _ rfl wr.heap.size rfl 42 _ _ _ hT Try.underlying42 rfl HIC.out ?_)
                refine HK.out _ _ (Below.refl _ _) ?_
                rfl
              · intro vv W K hB hd HK
                simp only [confRules] at HK
                clear hd
                go_wp2
                refine HK.out _ _ (Below.refl _ _) ?_
                rfl
              · intro vv W K hB hd HK
                simp only [confRules] at HK
                clear hd
                go_wp2
                refine HK.out _ _ (Below.refl _ _) ?_
                rfl
              · intro vv W K hB hd HK
                simp only [confRules] at hd HK
                obtain ⟨h1, h2⟩ := hd
                simp only [h1, h2] at HK ⊢
                clear h1 h2
                go_wp2
                refine HK.out _ _ (Below.refl _ _) ?_
                rfl
              · intro vv W K hB hd HK
                simp only [confRules] at hd HK
                have h3 := hd
                clear hd
                simp only [h3] at HK ⊢
                clear h3
                have hT := HGY.out _ (HB7.out.trans (hB.mono HB7.out.size))
                go_wp2_with (refine wpList_load_mid rfl 42 _ rfl b (o + j * 49) rfl XL _ hT Try.underlying42 rfl HIL.out ?_)
                refine HK.out _ _ (Below.refl _ _) ?_
                rfl
            case rchend =>
              intro vv W hB hf
              have e0 := hf 0 (by decide)
              have e4 := hf 4 (by decide)
              simp only [endRules] at e0 e4
              simp only [e0, e4, dropRules]
              clear hf e0 e4
              have HB8 := Lib.hid (HB7.out.trans (hB.mono HB7.out.size))
              clear hB
              go_wp2_with (refine wpList_neq_on (by rfl) 42 42 _ _ rfl XL.toArray XL.toArray rfl rfl (by kernel_rfl) true HEQ.out ?_)
              go_roundw
              case rel => exact ⟨j + 1, by omega, by go_num, HBR.out.trans (HB8.out.mono HBR.out.size)⟩
              case measure => simp [intOf]; omega
          · obtain rfl : j = m := by omega
            go_wp2
            go_ret
            exact ⟨rfl, HBwr.out⟩
    · obtain ⟨W2, hW2⟩ : ∃ W2, w1.alloc (.cells Z 28) = W2 := ⟨_, rfl⟩
      have hb2 : Below w1.heap.size w1 W2 := by rw [← hW2]; exact (Below.refl _ _).alloc (Nat.le_refl _) _
      have hS2 : W2.heap[w1.heap.size]? = some (.cells Z 28 (0, 0)) := by rw [← hW2]; exact heap_alloc_new w1 _
      have HB2 := Lib.hid ((HB0.out.trans (hB1.mono HB0.out.size)).trans (hb2.mono (HB0.out.trans (hB1.mono HB0.out.size)).size))
      have HW2 := Lib.hid hW2
      obtain ⟨c0, c3⟩ := HSZC.out _ _ hS2
      rw [HZZ.out]
      clear hB1 hb2 hW2 hrs hS2
      go_upto_region 6 with (refine wpList_store_row rfl 28 _ _ rfl w1.heap.size Z rfl rfl 28 Z (heap_alloc_new w1 _) HSI.out rfl HS1.out ?_; rw [World.setRow_alloc_new])
      rw [HW2.out]
      go_wp2
      go_ret
      exact ⟨rfl, HB2.out⟩
  · have t1 : decide (60 < (l.length : Int)) = true := decide_eq_true (by omega)
    clear hI hcap hcm
    go_enter Try.func5, Try.ntmps5
    go_wp2_with fail
    refine (HA.out _).mono ?_
    rintro e w0 ⟨rfl, hB0⟩
    go_wp2
    go_ret
    exact ⟨rfl, hB0⟩
end Go.Proofs.Ytjnneoejnpephaa
