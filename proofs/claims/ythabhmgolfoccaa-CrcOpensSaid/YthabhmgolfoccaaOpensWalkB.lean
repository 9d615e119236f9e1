/- Proved here: what the text of the law CrcOpens does where the second list has four bytes at least: it answers true. -/
import Derived.Test.YthabhmgolfoccaaOpensWalk
namespace Go.Proofs.Ythabhmgolfoccaa
open Go.RowKit Go.Rv
set_option linter.unusedVariables false
theorem last_cells {W : World} {b0 o0 : Nat} {m : List Nat} {n c0 c1 c2 c3 : Nat} (h : Bytes W (some ⟨b0, o0, none⟩) m) (hd : m.drop n = [c0, c1, c2, c3]) : W.cell? ⟨b0, o0 + n, none⟩ = some (.int .u8 (c0 : Nat)) ∧ W.cell? ⟨b0, o0 + (n + 1), none⟩ = some (.int .u8 (c1 : Nat)) ∧ W.cell? ⟨b0, o0 + (n + 2), none⟩ = some (.int .u8 (c2 : Nat)) ∧ W.cell? ⟨b0, o0 + (n + 3), none⟩ = some (.int .u8 (c3 : Nat)) := by
  have h' := h.drop n
  rw [hd] at h'
  rcases h'.2 with h0 | ⟨b, o, e, _, hc⟩
  · cases h0
  · cases e
    refine ⟨hc 0 (by simp), ?_, ?_, ?_⟩
    · rw [← Nat.add_assoc]; exact hc 1 (by simp)
    · rw [← Nat.add_assoc]; exact hc 2 (by simp)
    · rw [← Nat.add_assoc]; exact hc 3 (by simp)
theorem last_four {m : List Nat} {n : Nat} (hn : n + 4 = m.length) (hm : ∀ c ∈ m, c < 256) : ∃ c0 c1 c2 c3, c0 < 256 ∧ c1 < 256 ∧ c2 < 256 ∧ c3 < 256 ∧ m.drop n = [c0, c1, c2, c3] := by
  have hl : (m.drop n).length = 4 := by simp; omega
  have hd : ∀ c ∈ m.drop n, c < 256 := fun c hc => hm c (List.mem_of_mem_drop hc)
  generalize m.drop n = d at *
  match d, hl with
  | [c0, c1, c2, c3], _ => exact ⟨c0, c1, c2, c3, hd c0 (by simp), hd c1 (by simp), hd c2 (by simp), hd c3 (by simp), rfl⟩
theorem sum_last {d : List Nat} {c0 c1 c2 c3 s : Nat} (h0 : c0 < 256) (h1 : c1 < 256) (h2 : c2 < 256) (h3 : c3 < 256) (hd : d = [c0, c1, c2, c3]) (hs : s < 2 ^ 32) : d = Crc.le4 s ↔ c0 + 256 * c1 + 65536 * c2 + 16777216 * c3 = s := by
  rw [hd, ← Crc.le4_of h0 h1 h2 h3]
  constructor
  · intro h
    exact Crc.le4_inj (by omega) hs h
  · intro h
    rw [h]
set_option maxRecDepth 100000 in
set_option maxHeartbeats 1000000 in
theorem opens_walk2 (a b : Option Addr) (l m : List Nat) (ca cb : Nat) (w : World) (ha : Bytes w a l) (hb : Bytes w b m) (hca : a = none → ca = 0) (hcb : b = none → cb = 0) (h300 : l.length ≤ 300) (hm300 : m.length ≤ 300) (hlc : l.length ≤ ca) (hmc : m.length ≤ cb)
    (r : Option (List Nat)) (k : Int) (hO : ∀ W, Bytes W b m → Calls Try.prog 20 #[.agg Tb.tabV, .slice b m.length cb] W (OpenPost r k W)) (n : Nat) (hn : n + 4 = m.length) (hr : r = none) (hk : k = 11) (hne : m.drop n ≠ Crc.le4 (Crc.sum (m.take n))) :
    Calls Try.prog 9 #[.slice a l.length ca, .slice b m.length cb] w fun e w' => e = .returned (.bool true) ∧ Below w.heap.size w w' := by
  have hz := (zero_of_info Try.infoTab).1
  have hi : (Try.prog.info? 25).map (·.size) = some Tb.tabV.size := by rw [Tb.size_tabV]; exact (zero_of_info Try.infoTab).2
  have hI := Lib.hid hi
  clear hi
  obtain ⟨S, hS⟩ : ∃ S, S = l ++ Crc.le4 (Crc.sum l) := ⟨_, rfl⟩
  have hSl : S.length = l.length + 4 := by rw [hS]; simp [Crc.le4]
  have hSt : S.take l.length = l := by rw [hS]; simp
  have hSo : S.drop (S.length - 4) = Crc.le4 (Crc.sum (S.take (S.length - 4))) := by
    rw [hSl, Nat.add_sub_cancel, hSt, hS]; simp
  have hSt4 : S.take (S.length - 4) = l := by rw [hSl, Nat.add_sub_cancel, hSt]
  have hseal := fun W hb => seal_any a l ca W hb hca (by omega)
  rw [← hS] at hseal
  have HSE := Lib.hid hseal
  have hopen := fun (g c : Nat) (W : World) hb (hc : S.length ≤ c) => open_ok (some ⟨g, 0, none⟩) S c W hb (fun e => by cases e) hc (by omega) (by omega) hSo
  rw [hSt4] at hopen
  have HOP := Lib.hid hopen
  have HSL := Lib.hid hSl
  have HST := Lib.hid hSt
  have HSame := Lib.hid (fun (x y : Option Addr) (cx cy : Nat) (W : World) hx hy => same_yes x y l cx cy l.length W hx hy (by omega) rfl)
  have HOB := Lib.hid hO
  clear hS hSl hSt hSo hSt4 hseal hopen hO
  subst hr hk
  obtain ⟨b0, o0, _, rfl, _⟩ := hb.at (show 0 < m.length by omega)
  obtain ⟨c0, c1, c2, c3', hc0, hc1, hc2, hc3, hdrop⟩ := last_four hn hb.1
  have hX := Lib.hid (sum_last (s := Crc.sum (m.take n)) hc0 hc1 hc2 hc3 hdrop (Crc.sum_lt (hb.take n).1))
  have HRS := Lib.hid (fun (W : World) hb => rsum_any (some ⟨b0, o0, none⟩) (m.take n) cb W hb (by simp; omega))
  rw [List.length_take, Nat.min_eq_left (by omega)] at HRS
  have hnI : (m.length : Int) - 4 = (n : Int) := by omega
  have hncb : (n : Int) ≤ (cb : Int) := by omega
  have i0 : (n : Int) < (m.length : Int) := by omega
  have i1 : (n : Int) + 1 < (m.length : Int) := by omega
  have i2 : (n : Int) + 2 < (m.length : Int) := by omega
  have i3 : (n : Int) + 3 < (m.length : Int) := by omega
  generalize hgs : Crc.sum (m.take n) = sm at *
  have HGS := Lib.hid hgs
  have hXn : ((c0 : Int) + 256 * (c1 : Int) + 65536 * (c2 : Int) + 16777216 * (c3' : Int) != (sm : Int)) = true := by
    rw [bne_iff_ne]
    intro h
    exact hne (hX.out.2 (by omega))
  clear hgs
  have hSne : ((S.length : Int) != (l.length : Int) + 4) = false := by rw [bne_eq_false_iff_eq]; have := HSL.out; omega
  have tok1 : True := trivial
  go_enter Try.func9, Try.ntmps9
  go_wp2_with (first | (go_at_call 11; refine (anchor_any _).mono ?_; rintro e w1 ⟨rfl, hB1⟩) | (go_at_call 12; refine (new_any _).mono ?_; rintro e w2 ⟨rfl, hB2⟩) | (refine wpList_store_row rfl 25 _ _ rfl w2.heap.size Tb.tabV rfl rfl 25 Tb.zero (heap_alloc_new w2 _) hI.out (by rw [Tb.size_zero, Tb.size_tabV]) Tb.one_tabV ?_; rw [World.setRow_alloc_new]; have z1 := hB1.size; have z2 := hB2.size; have hBa := (hB1.trans (hB2.mono z1)).alloc (by omega) (.cells Tb.tabV 25); have hTa := heap_alloc_new w2 (.cells Tb.tabV 25); have hla : w2.heap.size < (w2.alloc (.cells Tb.tabV 25)).heap.size := by simp) | (refine wpList_load_row rfl 25 _ rfl w2.heap.size rfl 25 _ _ _ hTa Try.underlying25 rfl hI.out ?_) | (go_at_call 19; refine (HSE.out _ (ha.below hBa)).mono ?_; rintro e w3 ⟨v3, rfl, hown3, hB3⟩; obtain ⟨g3, c3, rfl, hbg3, hlt3, hlc3, hcm3, hc3, hf3⟩ := hown3.open (by have := HSL.out; omega); clear hc3 hf3; have hlc3' : l.length ≤ c3 := by { have := HSL.out; omega }; have hT3 := (hB3.block _ hla).trans hTa; have hB3' := hBa.trans (hB3.mono hBa.size); have BS3 := own_read hown3) | (refine wpList_load_row rfl 25 _ rfl w2.heap.size rfl 25 _ _ _ hT3 Try.underlying25 rfl hI.out ?_) | (go_at_call 20; have _t := tok1; refine (HOP.out g3 c3 _ BS3 hlc3).mono ?_; rintro e w4 ⟨⟨v4, rfl, hown4⟩, hB4⟩; clear tok1; obtain ⟨p4, c4, rfl, BX4, _, _⟩ := OwnB.bytes hown4; have tok2 : True := trivial; have hl3 := Nat.lt_of_lt_of_le hla hB3.size; have hT4 := (hB4.block _ hl3).trans hT3; have hB4' := hB3'.trans (hB4.mono hB3'.size); have BS4 := BS3.below hB4) | (go_at_call 21; have _t := tok2; refine (HSame.out p4 a c4 ca _ BX4 (ha.below hB4')).mono ?_; rintro e w5 ⟨rfl, hB5⟩; clear tok2; have tok3 : True := trivial; have hl4 := Nat.lt_of_lt_of_le hl3 hB4.size; have hT5 := (hB5.block _ hl4).trans hT4; have hB5' := hB4'.trans (hB5.mono hB4'.size); have BS5 := BS4.below hB5) | (go_at_call 21; have _t := tok3; refine (HSame.out (some ⟨g3, 0, none⟩) a c3 ca _ (by rw [← HST.out]; exact BS5.take _) (ha.below hB5')).mono ?_; rintro e w6 ⟨rfl, hB6⟩; clear tok3; have tok4 : True := trivial; have hl5 := Nat.lt_of_lt_of_le hl4 hB5.size; have hT6 := (hB6.block _ hl5).trans hT5; have hB6' := hB5'.trans (hB6.mono hB5'.size)) | (refine wpList_load_row rfl 25 _ rfl w2.heap.size rfl 25 _ _ _ hT6 Try.underlying25 rfl hI.out ?_) | (go_at_call 20; have _t := tok4; refine (HOB.out _ (hb.below hB6')).mono ?_; rintro e w7 ⟨⟨v7, rfl, hv7⟩, hB7⟩; clear tok4; have hB7' := hB6'.trans (hB7.mono hB6'.size); subst hv7))
  have hbW := hb.below hB7'
  obtain ⟨q0, q1, q2, q3⟩ := last_cells hbW hdrop
  clear hn
  go_quiet (fail)
  go_wp2_with (go_at_call 17; refine (HRS.out _ ((hbW.take n).below (below_drewN (Below.refl _ _) _))).mono ?_; rintro e w8 ⟨rfl, rfl⟩)
  go_ret
  exact ⟨rfl, below_drewN hB7' _⟩
set_option maxRecDepth 100000 in
set_option maxHeartbeats 1000000 in
theorem opens_walk3 (a b : Option Addr) (l m : List Nat) (ca cb : Nat) (w : World) (ha : Bytes w a l) (hb : Bytes w b m) (hca : a = none → ca = 0) (hcb : b = none → cb = 0) (h300 : l.length ≤ 300) (hm300 : m.length ≤ 300) (hlc : l.length ≤ ca) (hmc : m.length ≤ cb)
    (r : Option (List Nat)) (k : Int) (hO : ∀ W, Bytes W b m → Calls Try.prog 20 #[.agg Tb.tabV, .slice b m.length cb] W (OpenPost r k W)) (n : Nat) (hn : n + 4 = m.length) (hr : r = some (m.take n)) (hk : k = 0) (hne : m.drop n = Crc.le4 (Crc.sum (m.take n))) :
    Calls Try.prog 9 #[.slice a l.length ca, .slice b m.length cb] w fun e w' => e = .returned (.bool true) ∧ Below w.heap.size w w' := by
  have hz := (zero_of_info Try.infoTab).1
  have hi : (Try.prog.info? 25).map (·.size) = some Tb.tabV.size := by rw [Tb.size_tabV]; exact (zero_of_info Try.infoTab).2
  have hI := Lib.hid hi
  clear hi
  obtain ⟨S, hS⟩ : ∃ S, S = l ++ Crc.le4 (Crc.sum l) := ⟨_, rfl⟩
  have hSl : S.length = l.length + 4 := by rw [hS]; simp [Crc.le4]
  have hSt : S.take l.length = l := by rw [hS]; simp
  have hSo : S.drop (S.length - 4) = Crc.le4 (Crc.sum (S.take (S.length - 4))) := by
    rw [hSl, Nat.add_sub_cancel, hSt, hS]; simp
  have hSt4 : S.take (S.length - 4) = l := by rw [hSl, Nat.add_sub_cancel, hSt]
  have hseal := fun W hb => seal_any a l ca W hb hca (by omega)
  rw [← hS] at hseal
  have HSE := Lib.hid hseal
  have hopen := fun (g c : Nat) (W : World) hb (hc : S.length ≤ c) => open_ok (some ⟨g, 0, none⟩) S c W hb (fun e => by cases e) hc (by omega) (by omega) hSo
  rw [hSt4] at hopen
  have HOP := Lib.hid hopen
  have HSL := Lib.hid hSl
  have HST := Lib.hid hSt
  have HSame := Lib.hid (fun (x y : Option Addr) (cx cy : Nat) (W : World) hx hy => same_yes x y l cx cy l.length W hx hy (by omega) rfl)
  have HOB := Lib.hid hO
  clear hS hSl hSt hSo hSt4 hseal hopen hO
  subst hr hk
  obtain ⟨b0, o0, _, rfl, _⟩ := hb.at (show 0 < m.length by omega)
  obtain ⟨c0, c1, c2, c3', hc0, hc1, hc2, hc3, hdrop⟩ := last_four hn hb.1
  have hX := Lib.hid (sum_last (s := Crc.sum (m.take n)) hc0 hc1 hc2 hc3 hdrop (Crc.sum_lt (hb.take n).1))
  have HRS := Lib.hid (fun (W : World) hb => rsum_any (some ⟨b0, o0, none⟩) (m.take n) cb W hb (by simp; omega))
  rw [List.length_take, Nat.min_eq_left (by omega)] at HRS
  have hnI : (m.length : Int) - 4 = (n : Int) := by omega
  have hncb : (n : Int) ≤ (cb : Int) := by omega
  have i0 : (n : Int) < (m.length : Int) := by omega
  have i1 : (n : Int) + 1 < (m.length : Int) := by omega
  have i2 : (n : Int) + 2 < (m.length : Int) := by omega
  have i3 : (n : Int) + 3 < (m.length : Int) := by omega
  generalize hgs : Crc.sum (m.take n) = sm at *
  have HGS := Lib.hid hgs
  have hXn : ((c0 : Int) + 256 * (c1 : Int) + 65536 * (c2 : Int) + 16777216 * (c3' : Int) != (sm : Int)) = false := by
    rw [bne_eq_false_iff_eq]
    have := hX.out.1 hne
    omega
  have HSB := Lib.hid (fun (x y : Option Addr) (cx cy : Nat) (W : World) hx hy => same_yes x y (m.take n) cx cy n W hx hy (by simp; omega) (by simp; omega))
  have hmt : (m.take n).length = n := by simp; omega
  clear hgs
  have hSne : ((S.length : Int) != (l.length : Int) + 4) = false := by rw [bne_eq_false_iff_eq]; have := HSL.out; omega
  have tok1 : True := trivial
  go_enter Try.func9, Try.ntmps9
  go_wp2_with (first | (go_at_call 11; refine (anchor_any _).mono ?_; rintro e w1 ⟨rfl, hB1⟩) | (go_at_call 12; refine (new_any _).mono ?_; rintro e w2 ⟨rfl, hB2⟩) | (refine wpList_store_row rfl 25 _ _ rfl w2.heap.size Tb.tabV rfl rfl 25 Tb.zero (heap_alloc_new w2 _) hI.out (by rw [Tb.size_zero, Tb.size_tabV]) Tb.one_tabV ?_; rw [World.setRow_alloc_new]; have z1 := hB1.size; have z2 := hB2.size; have hBa := (hB1.trans (hB2.mono z1)).alloc (by omega) (.cells Tb.tabV 25); have hTa := heap_alloc_new w2 (.cells Tb.tabV 25); have hla : w2.heap.size < (w2.alloc (.cells Tb.tabV 25)).heap.size := by simp) | (refine wpList_load_row rfl 25 _ rfl w2.heap.size rfl 25 _ _ _ hTa Try.underlying25 rfl hI.out ?_) | (go_at_call 19; refine (HSE.out _ (ha.below hBa)).mono ?_; rintro e w3 ⟨v3, rfl, hown3, hB3⟩; obtain ⟨g3, c3, rfl, hbg3, hlt3, hlc3, hcm3, hc3, hf3⟩ := hown3.open (by have := HSL.out; omega); clear hc3 hf3; have hlc3' : l.length ≤ c3 := by { have := HSL.out; omega }; have hT3 := (hB3.block _ hla).trans hTa; have hB3' := hBa.trans (hB3.mono hBa.size); have BS3 := own_read hown3) | (refine wpList_load_row rfl 25 _ rfl w2.heap.size rfl 25 _ _ _ hT3 Try.underlying25 rfl hI.out ?_) | (go_at_call 20; have _t := tok1; refine (HOP.out g3 c3 _ BS3 hlc3).mono ?_; rintro e w4 ⟨⟨v4, rfl, hown4⟩, hB4⟩; clear tok1; obtain ⟨p4, c4, rfl, BX4, _, _⟩ := OwnB.bytes hown4; have tok2 : True := trivial; have hl3 := Nat.lt_of_lt_of_le hla hB3.size; have hT4 := (hB4.block _ hl3).trans hT3; have hB4' := hB3'.trans (hB4.mono hB3'.size); have BS4 := BS3.below hB4) | (go_at_call 21; have _t := tok2; refine (HSame.out p4 a c4 ca _ BX4 (ha.below hB4')).mono ?_; rintro e w5 ⟨rfl, hB5⟩; clear tok2; have tok3 : True := trivial; have hl4 := Nat.lt_of_lt_of_le hl3 hB4.size; have hT5 := (hB5.block _ hl4).trans hT4; have hB5' := hB4'.trans (hB5.mono hB4'.size); have BS5 := BS4.below hB5) | (go_at_call 21; have _t := tok3; refine (HSame.out (some ⟨g3, 0, none⟩) a c3 ca _ (by rw [← HST.out]; exact BS5.take _) (ha.below hB5')).mono ?_; rintro e w6 ⟨rfl, hB6⟩; clear tok3; have tok4 : True := trivial; have hl5 := Nat.lt_of_lt_of_le hl4 hB5.size; have hT6 := (hB6.block _ hl5).trans hT5; have hB6' := hB5'.trans (hB6.mono hB5'.size)) | (refine wpList_load_row rfl 25 _ rfl w2.heap.size rfl 25 _ _ _ hT6 Try.underlying25 rfl hI.out ?_) | (go_at_call 20; have _t := tok4; refine (HOB.out _ (hb.below hB6')).mono ?_; rintro e w7 ⟨⟨v7, rfl, hv7⟩, hB7⟩; clear tok4; have hB7' := hB6'.trans (hB7.mono hB6'.size); have hv7' : OwnB _ 5 _ _ _ := hv7; obtain ⟨p7, c7, hev, BX7, _, _⟩ := OwnB.bytes hv7'; rw [hmt] at hev; subst hev; clear hv7 hv7'))
  have hbW := hb.below hB7'
  obtain ⟨q0, q1, q2, q3⟩ := last_cells hbW hdrop
  clear hn
  go_quiet (fail)
  go_wp2_with (go_at_call 17; refine (HRS.out _ ((hbW.take n).below (below_drewN (Below.refl _ _) _))).mono ?_; rintro e w8 ⟨rfl, rfl⟩)
  refine (HSB.out p7 (some ⟨b0, o0, none⟩) c7 cb _ (BX7.below (below_drewN (Below.refl _ _) _)) ((hbW.take n).below (below_drewN (Below.refl _ _) _))).mono ?_
  rintro e w8 ⟨rfl, hB8⟩
  go_wp2
  go_ret
  have hB9 : Below w.heap.size w (w7.drewN nq) := below_drewN hB7' _
  exact ⟨rfl, hB9.trans (hB8.mono hB9.size)⟩
end Go.Proofs.Ythabhmgolfoccaa
