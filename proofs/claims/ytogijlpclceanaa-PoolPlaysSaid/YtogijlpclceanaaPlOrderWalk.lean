/- Proved here: the walk of the law on the order in which a pool's zones are taken. -/
import Derived.Test.YtogijlpclceanaaPlStart
import Derived.Test.YtogijlpclceanaaQRef
import Derived.Test.YtogijlpclceanaaGeoFits
namespace PoolM
/-- what lies in a domain, if there is one -/
def wantOf (D : Nat) (z : Int) (L : List Int) (d : Int) : List Int := if 0 ≤ d ∧ d < (D : Int) then dl z L d.toNat else []
theorem want_nil (D : Nat) (z d : Int) : wantOf D z [] d = [] := by
  unfold wantOf
  split
  · rfl
  · rfl
theorem give_cases (D : Nat) (z : Int) (L : List Int) (x : Int) : ((0 ≤ x ∧ x < (D : Int) * z) ∧ x ∉ L ∧ giveOf D z L x = (L ++ [x], 0)) ∨ ∃ e, e ≠ 0 ∧ giveOf D z L x = (L, e) := by
  by_cases h1 : 0 ≤ x ∧ x < (D : Int) * z
  · by_cases h2 : x ∈ L
    · exact .inr ⟨16, by decide, by unfold giveOf; rw [if_pos h1, if_pos h2]⟩
    · exact .inl ⟨h1, h2, by unfold giveOf; rw [if_pos h1, if_neg h2]⟩
  · exact .inr ⟨13, by decide, by unfold giveOf; rw [if_neg h1]⟩
theorem want_app {D : Nat} {z : Int} {L : List Int} {x d : Int} (hz : 1 ≤ z) (h : 0 ≤ x ∧ x < (D : Int) * z) : wantOf D z (L ++ [x]) d = wantOf D z L d ++ if x / z = d then [x] else [] := by
  obtain ⟨k, hk, e, -, -⟩ := dom_of hz h
  unfold wantOf
  by_cases hd : 0 ≤ d ∧ d < (D : Int)
  · rw [if_pos hd, if_pos hd, dl_app]
    by_cases h2 : x / z = d
    · rw [if_pos h2, if_pos (by omega)]
    · rw [if_neg h2, if_neg (by omega)]
  · rw [if_neg hd, if_neg hd, if_neg (by omega)]
    rfl
theorem take_want {D : Nat} {z : Int} {L : List Int} {d x : Int} {t : List Int} (hn : L.Nodup) (h : wantOf D z L d = x :: t) : takeOf D z L d = (less L x, x, 0) ∧ wantOf D z (less L x) d = t := by
  unfold wantOf at h ⊢
  split at h
  · rename_i hd
    unfold takeOf
    rw [if_pos hd, if_pos hd, h]
    exact ⟨rfl, dl_less_first hn h⟩
  · simp at h
theorem take_nil {D : Nat} {z : Int} {L : List Int} {d : Int} (h : wantOf D z L d = []) : (∃ e, e ≠ 0 ∧ takeOf D z L d = (L, 0, e)) ∧ countOf D z L d = 0 := by
  unfold wantOf at h
  unfold takeOf countOf
  split at h
  · rename_i hd
    rw [if_pos hd, if_pos hd, h]
    exact ⟨⟨15, by decide, rfl⟩, by unfold cnt; rw [h]; rfl⟩
  · rename_i hd
    rw [if_neg hd, if_neg hd]
    exact ⟨⟨13, by decide, rfl⟩, rfl⟩
theorem want_len {D : Nat} {z : Int} {L : List Int} {d : Int} (h : Ok D z L) : (wantOf D z L d).length ≤ z.toNat := by
  unfold wantOf
  split
  · exact h.dl_len _
  · simp
end PoolM
namespace Go.Proofs.Ytogijlpclceanaa
open Go.Conc Go.RowKit Go.Rv Go.Shelf
set_option linter.unusedVariables false
attribute [local go_sem] Oper.semAt_some
open PoolM (dl cnt Ok less allTo giveOf dropOf takeOf pairOf countOf wantOf)
theorem PoolIs.grown {w w' : World} {P : PR} {L : List Int} (h : PoolIs w P L) {row : Option Nat} (hg : w.grownBy w' row) (hr : ∀ k, row = some k → k ∉ P.bs) : PoolIs w' P L := by
  refine h.only (S := row.toList) ⟨hg.os, hg.tape, hg.output, hg.size, fun i hi hn => hg.block i hi (fun e => hn (by rw [← e]; simp))⟩ (fun k hk => hr k (by simpa using hk))
set_option maxRecDepth 100000 in
set_option maxHeartbeats 4000000 in
theorem pl_order_core (g : Geo.G) (hr : Geo.right g = true) (a : Option Addr) (l : List Int) (cp : Nat) (d : Int) (w : World) (hI : Ints w a l) (hl : l.length ≤ 60) :
    Calls Try.prog 7 #[.agg (GC g), .slice a l.length cp, .int .i64 d] w fun e w' => e = .returned (.bool true) ∧ Below w.heap.size w w' := by
  have hs := ((Geo.right_iff g).1 hr).1
  have HA := Lib.hid (fun W => pl_anchor W)
  have HST := Lib.hid (fun W => pstart_any g hr W)
  have HGI := Lib.hid (gsize (g := g))
  have HDM := Lib.hid (fun x W => gdomain_any g x W hs)
  have HI := Lib.hid hI
  have hinfo : (Try.prog.info? 3).map (fun i => (i.zero, i.size, i.bytes)) = some (some (.int .i64 0), 1, 8) := by kernel_rfl
  have HIN := Lib.hid hinfo
  have HRI : Hid (∀ d z v, (Try.prog.info? 61).map (·.size) = some (RP d z v).size) := Lib.hid (fun _ _ _ => (zero_of_info Try.infoRP).2)
  have hz := (zero_of_info Try.infoRP).1
  have t1 : decide (60 < (l.length : Int)) = false := decide_eq_false (by omega)
  have hal := (Below.refl w.heap.size w).alloc (Nat.le_refl _) (.cells (GC g) 58)
  have hnew := heap_alloc_new w (.cells (GC g) 58)
  have hsz : w.heap.size < (w.alloc (.cells (GC g) 58)).heap.size := by simp
  have HGG := Lib.hid (show ∀ P : PR, P.g = g → domOf P.g = domOf g ∧ P.g.z = g.z ∧ Geo.Small g from fun P h => by rw [h]; exact ⟨rfl, rfl, hs⟩)
  clear hI hinfo hs hr
  generalize hC : GC g = C at *
  clear hC
  go_enter Try.func7, Try.ntmps7
  go_wp2_with fail
  refine (HA.out _).mono ?_
  rintro e w0 ⟨rfl, hB0⟩
  have hg0 := (hB0.block w.heap.size hsz).trans hnew
  have hBx := hal.trans (hB0.mono hal.size)
  have z0 := hB0.size
  clear hal hnew hB0
  go_wp2_with (refine wpList_row_on (by rfl) 58 _ rfl w.heap.size rfl 58 _ _ _ hg0 Try.underlying58 rfl HGI.out ?_)
  refine (HST.out _).mono ?_
  rintro e w1 ⟨P, rfl, hPg, hP, hbs, hB1⟩
  have hg1 := (hB1.block w.heap.size (by omega)).trans hg0
  have HBW1 := Lib.hid (hBx.trans (hB1.mono hBx.size))
  obtain ⟨W2, hW2⟩ : ∃ W2, w1.alloc (.cells (RP g.d g.z (.slice none 0 0)) 61) = W2 := ⟨_, rfl⟩
  have hb2 : Below w1.heap.size w1 W2 := by rw [← hW2]; exact (Below.refl _ _).alloc (Nat.le_refl _) _
  have z1 : w.heap.size < w1.heap.size := (Array.getElem?_eq_some_iff.1 hg1).1
  have HG2 := Lib.hid ((hb2.block w.heap.size z1).trans hg1)
  have HP2 := Lib.hid (hP.below hb2)
  have HBW2 := Lib.hid (HBW1.out.trans (hb2.mono HBW1.out.size))
  have HBS : Hid (∀ k ∈ P.bs, w.heap.size < k) := Lib.hid (fun k hk => by have := hbs k hk; omega)
  have HLT := Lib.hid HP2.out.lt
  have HW2 := Lib.hid hW2
  obtain ⟨hgd, hgz, hgs⟩ := HGG.out P hPg
  have HGD := Lib.hid hgd
  have HGS := Lib.hid hgs
  have z2 := HBW2.out.size
  have zw2 : w.heap.size < W2.heap.size := (Array.getElem?_eq_some_iff.1 HG2.out).1
  clear hb2 hW2 hP hbs hB1 hBx hg0 hgd hgs
  go_upto_region 4 with (refine wpList_store_row rfl 61 _ _ rfl w1.heap.size (RP g.d g.z (.slice none 0 0)) rfl rfl 61 (RP 0 0 (.slice none 0 0)) (heap_alloc_new w1 _) (HRI.out _ _ _) rfl (RP_one _ _ _ _ _) ?_; rw [World.setRow_alloc_new])
  rw [HW2.out]
  clear hg1
  go_wp2
  go_loopw [10, 44] (fun v i wr => ∃ (k : Nat) (L : List Int) (o : Value), k ≤ l.length ∧ i = .int .i64 k ∧ o = v ∧ OwnV wr 3 W2.heap.size o (iV (wantOf P.qc.length P.g.z L d)) ∧ PoolIs wr P L ∧ Only P.cs W2 wr) (fun _ i _ => l.length - (intOf i).toNat)
  case atStart => exact ⟨0, [], _, Nat.zero_le _, rfl, rfl, by rw [PoolM.want_nil]; exact OwnV.nil _ _ _, HP2.out, Only.refl _ _⟩
  case round =>
    obtain ⟨k, L, o, hk, rfl, rfl, hown, hpl, hO⟩ := hrel
    have HPL := Lib.hid hpl
    have HOWN := Lib.hid hown
    have hg := hO.get HG2.out (fun h => by have := HBS.out _ (PR.cs_bs h); omega)
    have HGR := Lib.hid hg
    have HOR := Lib.hid hO
    have hzz := hO.size
    clear hpl hown hg hO
    by_cases hlt : k < l.length
    · obtain ⟨b, ob, y, rfl, hbl, hcz, -, -, hy⟩ := HI.out.at hlt
      have hcell := (World.cell?_of_block (a := ⟨b, ob + k, none⟩) (HOR.out.block b (by omega) (fun h => by have := HBS.out _ (PR.cs_bs h); omega))).trans ((HBW2.out.cell (p := ⟨b, ob + k, none⟩) hbl).trans hcz)
      clear hcz hy
      have HGV := Lib.hid (pgive_any wr P L HPL.out y)
      rcases PoolM.give_cases P.qc.length P.g.z L y with ⟨hrg, hnm, he⟩ | ⟨e0, hne, he⟩
      · rw [he] at HGV
        have HWA := Lib.hid (PoolM.want_app (D := P.qc.length) (L := L) (d := d) HPL.out.ok.z1 hrg)
        have HDV : Hid (domOf g y = y / P.g.z) := Lib.hid (by rw [← HGD.out]; unfold domOf; rw [if_pos (by rw [← HPL.out.len]; exact hrg)])
        have HWL := Lib.hid (PoolM.want_len (d := d) HPL.out.ok)
        have hcap := HPL.out.cap1
        clear he hnm hrg
        go_wp2_with fail
        refine HGV.out.mono ?_
        rintro e w3 ⟨rfl, hp3, hO3⟩
        have HP3 := Lib.hid hp3
        have hO3' := HOR.out.trans hO3
        have HO3 := Lib.hid hO3'
        have hg3 := hO3'.get HG2.out (fun h => by have := HBS.out _ (PR.cs_bs h); omega)
        have HOW3 := Lib.hid (HOWN.out.only hO3 (fun j hj hm => HPL.out.cells_ne (HOWN.out.cells hj).2.choose_spec hm))
        have z3 := hO3.size
        have HG3 := Lib.hid hg3
        clear hp3 hO3 hO3'
        go_wp2_with (refine wpList_row_on (by rfl) 58 _ rfl w.heap.size rfl 58 _ _ _ hg3 Try.underlying58 rfl HGI.out ?_)
        refine (HDM.out _ _).mono ?_
        rintro e w4 ⟨rfl, hB4⟩
        rw [HDV.out]
        have HP4 := Lib.hid (HP3.out.below hB4)
        have HOW4 := Lib.hid (HOW3.out.below hB4)
        have HO4 : Hid (Only P.cs W2 w4) := Lib.hid (HO3.out.trans (Only.of_below hB4))
        have z4 := hB4.size
        clear hB4 hg3
        by_cases hd : y / P.g.z = d
        · have t5 : (y / P.g.z == d) = true := by simpa using hd
          have HS : Hid (iV (wantOf P.qc.length P.g.z (L ++ [y]) d) = iV (wantOf P.qc.length P.g.z L d) ++ [.int .i64 y]) := Lib.hid (by rw [HWA.out, if_pos hd, iV_app]; rfl)
          have hown4 := HOW4.out.below ((Below.refl _ w4).alloc (Nat.le_refl _) (.cells #[.int .i64 y] 3))
          have HP5 := Lib.hid (HP4.out.below ((Below.refl _ w4).alloc (Nat.le_refl _) (.cells #[.int .i64 y] 3)))
          have HO5 : Hid (Only P.cs W2 (w4.alloc (.cells #[.int .i64 y] 3))) := Lib.hid (HO4.out.alloc _)
          have hb : ∀ j, o.ownBlock = some j → W2.heap.size ≤ j := fun j hj => (hown4.cells hj).1
          have HLEN : Hid ((iV (wantOf P.qc.length P.g.z L d)).length ≤ 4096) := Lib.hid (by rw [iV_length]; have := HWL.out; omega)
          clear hd HWA
          generalize y / P.g.z = yz at *
          go_wp2_with (at_builtin; refine wpList_append_one rfl (.tmp 59) (.tmp 61) 32 rfl 3 (.int .i64 0) 8 Try.underlying32 HIN.out rfl W2.heap.size _ _ rfl hown4 _ (.int .i64 y) _ _ rfl (heap_alloc_new _ _) rfl (by have := HLEN.out; unfold maxLen; omega) (by have := HLEN.out; omega) (by simp; omega) ?_; intro v' w' hv hg)
          have HP6 := Lib.hid (HP5.out.grown hg (fun j e h => by have h1 := hb j e; have := HLT.out j h; omega))
          have HO6 := Lib.hid (HO5.out.grown hg (fun j e => .inr (hb j e)))
          go_roundw
          case rel => exact ⟨k + 1, L ++ [y], _, by omega, by go_num, rfl, by rw [HS.out]; exact hv, HP6.out, HO6.out⟩
          case measure => simp [intOf]; omega
        · have t5 : (y / P.g.z == d) = false := by simpa using hd
          have HS : Hid (wantOf P.qc.length P.g.z (L ++ [y]) d = wantOf P.qc.length P.g.z L d) := Lib.hid (by rw [HWA.out, if_neg hd, List.append_nil])
          clear hd HWA
          generalize y / P.g.z = yz at *
          go_wp2
          go_roundw
          case rel => exact ⟨k + 1, L ++ [y], _, by omega, by go_num, rfl, by rw [HS.out]; exact HOW4.out, HP4.out, HO4.out⟩
          case measure => simp [intOf]; omega
      · rw [he] at HGV
        have t5 : (e0 == 0) = false := by simpa using hne
        clear he hne
        go_wp2_with fail
        refine HGV.out.mono ?_
        rintro e w3 ⟨rfl, hp3, hO3⟩
        have HP3 := Lib.hid hp3
        have HO3 := Lib.hid (HOR.out.trans hO3)
        have HOW3 := Lib.hid (HOWN.out.only hO3 (fun j hj hm => HPL.out.cells_ne (HOWN.out.cells hj).2.choose_spec hm))
        clear hp3 hO3
        go_wp2
        go_roundw
        case rel => exact ⟨k + 1, L, _, by omega, by go_num, rfl, HOW3.out, HP3.out, HO3.out⟩
        case measure => simp [intOf]; omega
    · obtain rfl : k = l.length := by omega
      have HWL := Lib.hid (PoolM.want_len (d := d) HPL.out.ok)
      have hcap := HPL.out.cap1
      obtain ⟨wl, hwl⟩ : ∃ wl, wantOf P.qc.length P.g.z L d = wl := ⟨_, rfl⟩
      have HWE := Lib.hid hwl
      have hown1 := HOWN.out
      have hwl2 := HWL.out
      rw [hwl] at hown1 hwl2
      obtain ⟨sa, sc, rfl, -, -⟩ := hown1.shape
      rw [iV_length] at hown1 ⊢
      have HOW1 := Lib.hid hown1
      clear hown1 hwl HOWN
      obtain ⟨wo, hwo⟩ : ∃ wo : World, wo = wr := ⟨_, rfl⟩
      subst hwo
      go_wp2
      go_loopw [66] (fun i wx => ∃ (j : Nat) (M : List Int), j ≤ wl.length ∧ i = .int .i64 j ∧ wantOf P.qc.length P.g.z M d = wl.drop j ∧ OwnV wx 3 W2.heap.size (.slice sa wl.length sc) (iV wl) ∧ PoolIs wx P M ∧ Only P.cs W2 wx) (fun i _ => wl.length - (intOf i).toNat)
      case atStart => exact ⟨0, L, Nat.zero_le _, rfl, HWE.out, HOW1.out, HPL.out, HOR.out⟩
      case round =>
        obtain ⟨j, M, hj, rfl, hwm, hown, hpl, hO⟩ := hrel
        have HPM := Lib.hid hpl
        have HOW := Lib.hid hown
        have HOM := Lib.hid hO
        clear hpl hO
        by_cases hlt : j < wl.length
        · obtain ⟨y, hy⟩ : ∃ y, wl[j]? = some y := ⟨_, List.getElem?_eq_getElem hlt⟩
          obtain ⟨gb, cpx, e, -, -, -, -, hcl, -⟩ := hown.open (by rw [iV_length]; omega)
          simp only [Value.slice.injEq] at e
          obtain ⟨rfl, -, rfl⟩ := e
          have hcell := hcl j _ (iV_at wl j y hy)
          have hdr : wl.drop j = y :: wl.drop (j + 1) := by
            obtain ⟨hj', rfl⟩ := List.getElem?_eq_some_iff.1 hy
            rw [List.drop_eq_getElem_cons hj']
          rw [hdr] at hwm
          obtain ⟨htk, hnx⟩ := PoolM.take_want HPM.out.ok.nd hwm
          have HTK := Lib.hid (ptake_any wr P M HPM.out d)
          rw [htk] at HTK
          have HNX := Lib.hid hnx
          clear hwm hown hcl hdr htk hnx hy
          go_wp2_with fail
          refine HTK.out.mono ?_
          rintro e w3 ⟨rfl, hp3, hO3⟩
          have HP3 := Lib.hid hp3
          have HO3 := Lib.hid (HOM.out.trans hO3)
          have HOW3 := Lib.hid (HOW.out.only hO3 (fun j hj hm => HPM.out.cells_ne (HOW.out.cells hj).2.choose_spec hm))
          clear hp3 hO3
          go_wp2
          go_roundw
          case rel => exact ⟨j + 1, _, by omega, by go_num, HNX.out, HOW3.out, HP3.out, HO3.out⟩
          case measure => simp [intOf]; omega
        · obtain rfl : j = wl.length := by omega
          rw [List.drop_length] at hwm
          obtain ⟨⟨e0, hne, htk⟩, hct⟩ := PoolM.take_nil hwm
          have HTK := Lib.hid (ptake_any wr P M HPM.out d)
          rw [htk] at HTK
          have HCT := Lib.hid (fun (W : World) (h : PoolIs W P M) => by have := pcount_any W P M h d; rwa [hct] at this)
          have t5 : (e0 != 0) = true := by simpa using hne
          clear hwm hown htk hct hne
          go_wp2_with fail
          refine HTK.out.mono ?_
          rintro e w3 ⟨rfl, hp3, hO3⟩
          have HP3 := Lib.hid hp3
          have HO3 := Lib.hid (HOM.out.trans hO3)
          clear hp3 hO3
          go_wp2_with fail
          refine (HCT.out _ HP3.out).mono ?_
          rintro e w4 ⟨rfl, rfl⟩
          go_wp2
          go_ret
          exact ⟨rfl, HBW2.out.trans (HO3.out.below (fun k hk => by have := HBS.out k (PR.cs_bs hk); omega) z2)⟩
set_option maxRecDepth 100000 in
set_option maxHeartbeats 2000000 in
theorem pl_order_walk (g : Geo.G) (a : Option Addr) (l : List Int) (cp : Nat) (d : Int) (w : World) (hI : Ints w a l) (h63 : l.length ≤ 9223372036854775807) :
    Calls Try.prog 7 #[.agg (GC g), .slice a l.length cp, .int .i64 d] w fun e w' => e = .returned (.bool true) ∧ Below w.heap.size w w' := by
  cases hr : Geo.right g
  · have HST := Lib.hid (fun W => pstart_no g hr W)
    have HRT : Hid (∀ W, Calls Try.prog 29 #[.agg (GC g)] W fun e w' => e = .returned (.bool false) ∧ Below W.heap.size W w') := Lib.hid (fun W => by have := gright_any g W; rwa [hr] at this)
    have HA := Lib.hid (fun W => pl_anchor W)
    have HGI := Lib.hid (gsize (g := g))
    have HRI : Hid (∀ d z v, (Try.prog.info? 61).map (·.size) = some (RP d z v).size) := Lib.hid (fun _ _ _ => (zero_of_info Try.infoRP).2)
    have hz := (zero_of_info Try.infoRP).1
    have hal := (Below.refl w.heap.size w).alloc (Nat.le_refl _) (.cells (GC g) 58)
    have hnew := heap_alloc_new w (.cells (GC g) 58)
    have hsz : w.heap.size < (w.alloc (.cells (GC g) 58)).heap.size := by simp
    clear hr hI
    generalize hC : GC g = C at *
    clear hC
    go_enter Try.func7, Try.ntmps7
    go_wp2_with fail
    refine (HA.out _).mono ?_
    rintro e w0 ⟨rfl, hB0⟩
    have hg0 := (hB0.block w.heap.size hsz).trans hnew
    have hBx := hal.trans (hB0.mono hal.size)
    have z0 := hB0.size
    clear hal hnew hB0
    go_wp2_with (refine wpList_row_on (by rfl) 58 _ rfl w.heap.size rfl 58 _ _ _ hg0 Try.underlying58 rfl HGI.out ?_)
    refine (HST.out _).mono ?_
    rintro e w1 ⟨rfl, hB1⟩
    have hg1 := (hB1.block w.heap.size (by omega)).trans hg0
    have HBW1 := Lib.hid (hBx.trans (hB1.mono hBx.size))
    have z1 : w.heap.size < w1.heap.size := (Array.getElem?_eq_some_iff.1 hg1).1
    obtain ⟨W2, hW2⟩ : ∃ W2, w1.alloc (.cells (RP 0 0 (.slice none 0 0)) 61) = W2 := ⟨_, rfl⟩
    have hb2 : Below w1.heap.size w1 W2 := by rw [← hW2]; exact (Below.refl _ _).alloc (Nat.le_refl _) _
    have HG2 := Lib.hid ((hb2.block w.heap.size z1).trans hg1)
    have HBW2 := Lib.hid (HBW1.out.trans (hb2.mono HBW1.out.size))
    have HW2 := Lib.hid hW2
    clear hb2 hW2 hB1 hBx hg0 hg1
    go_upto_region 4 with (refine wpList_store_row rfl 61 _ _ rfl w1.heap.size (RP 0 0 (.slice none 0 0)) rfl rfl 61 (RP 0 0 (.slice none 0 0)) (heap_alloc_new w1 _) (HRI.out _ _ _) rfl (RP_one _ _ _ _ _) ?_; rw [World.setRow_alloc_new])
    rw [HW2.out]
    go_wp2_with (refine wpList_row_on (by rfl) 58 _ rfl w.heap.size rfl 58 _ _ _ HG2.out Try.underlying58 rfl HGI.out ?_)
    refine (HRT.out _).mono ?_
    rintro e w3 ⟨rfl, hB3⟩
    have hBB := HBW2.out.trans (hB3.mono HBW2.out.size)
    clear hB3
    go_wp2
    go_ret
    exact ⟨rfl, hBB⟩
  · by_cases hl : l.length ≤ 60
    · exact pl_order_core g hr a l cp d w hI hl
    have t1 : decide (60 < (l.length : Int)) = true := decide_eq_true (by omega)
    have HST := Lib.hid (fun W => pstart_any g hr W)
    have HRT : Hid (∀ W, Calls Try.prog 29 #[.agg (GC g)] W fun e w' => e = .returned (.bool true) ∧ Below W.heap.size W w') := Lib.hid (fun W => by have := gright_any g W; rwa [hr] at this)
    have HA := Lib.hid (fun W => pl_anchor W)
    have HGI := Lib.hid (gsize (g := g))
    have HRI : Hid (∀ d z v, (Try.prog.info? 61).map (·.size) = some (RP d z v).size) := Lib.hid (fun _ _ _ => (zero_of_info Try.infoRP).2)
    have hz := (zero_of_info Try.infoRP).1
    have hal := (Below.refl w.heap.size w).alloc (Nat.le_refl _) (.cells (GC g) 58)
    have hnew := heap_alloc_new w (.cells (GC g) 58)
    have hsz : w.heap.size < (w.alloc (.cells (GC g) 58)).heap.size := by simp
    clear hr hI
    generalize hC : GC g = C at *
    clear hC
    go_enter Try.func7, Try.ntmps7
    go_wp2_with fail
    refine (HA.out _).mono ?_
    rintro e w0 ⟨rfl, hB0⟩
    have hg0 := (hB0.block w.heap.size hsz).trans hnew
    have hBx := hal.trans (hB0.mono hal.size)
    have z0 := hB0.size
    clear hal hnew hB0
    go_wp2_with (refine wpList_row_on (by rfl) 58 _ rfl w.heap.size rfl 58 _ _ _ hg0 Try.underlying58 rfl HGI.out ?_)
    refine (HST.out _).mono ?_
    rintro e w1 ⟨P, rfl, -, -, -, hB1⟩
    have hg1 := (hB1.block w.heap.size (by omega)).trans hg0
    have HBW1 := Lib.hid (hBx.trans (hB1.mono hBx.size))
    have z1 : w.heap.size < w1.heap.size := (Array.getElem?_eq_some_iff.1 hg1).1
    obtain ⟨W2, hW2⟩ : ∃ W2, w1.alloc (.cells (RP g.d g.z (.slice none 0 0)) 61) = W2 := ⟨_, rfl⟩
    have hb2 : Below w1.heap.size w1 W2 := by rw [← hW2]; exact (Below.refl _ _).alloc (Nat.le_refl _) _
    have HG2 := Lib.hid ((hb2.block w.heap.size z1).trans hg1)
    have HBW2 := Lib.hid (HBW1.out.trans (hb2.mono HBW1.out.size))
    have HW2 := Lib.hid hW2
    clear hb2 hW2 hB1 hBx hg0 hg1
    go_upto_region 4 with (refine wpList_store_row rfl 61 _ _ rfl w1.heap.size (RP g.d g.z (.slice none 0 0)) rfl rfl 61 (RP 0 0 (.slice none 0 0)) (heap_alloc_new w1 _) (HRI.out _ _ _) rfl (RP_one _ _ _ _ _) ?_; rw [World.setRow_alloc_new])
    rw [HW2.out]
    go_wp2_with (refine wpList_row_on (by rfl) 58 _ rfl w.heap.size rfl 58 _ _ _ HG2.out Try.underlying58 rfl HGI.out ?_)
    refine (HRT.out _).mono ?_
    rintro e w3 ⟨rfl, hB3⟩
    have hBB := HBW2.out.trans (hB3.mono HBW2.out.size)
    clear hB3
    go_wp2
    go_ret
    exact ⟨rfl, hBB⟩
end Go.Proofs.Ytogijlpclceanaa
