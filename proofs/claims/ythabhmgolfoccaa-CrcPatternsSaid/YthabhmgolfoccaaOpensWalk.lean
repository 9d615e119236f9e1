/- Proved here: what the law CrcOpens' text does: it answers true. -/
import Derived.Test.YthabhmgolfoccaaSeal
import Derived.Deep.QuietTactic
import Derived.BigQuiet
namespace Go.Proofs.Ythabhmgolfoccaa
open Go.RowKit Go.Rv
set_option linter.unusedVariables false
theorem open_ok (a : Option Addr) (l : List Nat) (cap : Nat) (w : World) (hb : Bytes w a l) (hcap : a = none → cap = 0) (hlc : l.length ≤ cap) (h4 : 4 ≤ l.length) (hlen : l.length ≤ 140737488355000) (h : l.drop (l.length - 4) = Crc.le4 (Crc.sum (l.take (l.length - 4)))) :
    Calls Try.prog 20 #[.agg Tb.tabV, .slice a l.length cap] w (OpenPost (some (l.take (l.length - 4))) 0 w) := by
  have := open_at a l cap w hb hcap hlc h4 hlen
  rwa [if_pos h] at this
theorem open_bad (a : Option Addr) (l : List Nat) (cap : Nat) (w : World) (hb : Bytes w a l) (hcap : a = none → cap = 0) (hlc : l.length ≤ cap) (h4 : 4 ≤ l.length) (hlen : l.length ≤ 140737488355000) (h : l.drop (l.length - 4) ≠ Crc.le4 (Crc.sum (l.take (l.length - 4)))) :
    Calls Try.prog 20 #[.agg Tb.tabV, .slice a l.length cap] w (OpenPost none 11 w) := by
  have := open_at a l cap w hb hcap hlc h4 hlen
  rwa [if_neg h] at this
theorem same_yes (a b : Option Addr) (l : List Nat) (ca cb n : Nat) (w : World) (ha : Bytes w a l) (hb : Bytes w b l) (hl : l.length ≤ 9223372036854775807) (hn : l.length = n) :
    Calls Try.prog 21 #[.slice a n ca, .slice b n cb] w fun e w' => e = .returned (.bool true) ∧ Below w.heap.size w w' := by
  subst hn
  refine (rsame_any a b l l ca cb w ha hb hl hl).mono fun e w' ⟨he, n, hw⟩ => ⟨by rw [he]; simp, ?_⟩
  rw [hw]
  exact below_drewN (Below.refl _ _) _
theorem own_read {w : World} {e : TypeId} {base g c : Nat} {l : List Nat} (h : OwnB w e base (.slice (some ⟨g, 0, none⟩) l.length c) l) : Bytes w (some ⟨g, 0, none⟩) l := by
  obtain ⟨a', c', e', hb', _⟩ := h.bytes
  cases e'
  exact hb'
set_option maxRecDepth 100000 in
set_option maxHeartbeats 1000000 in
theorem opens_walk (a b : Option Addr) (l m : List Nat) (ca cb : Nat) (w : World) (ha : Bytes w a l) (hb : Bytes w b m) (hca : a = none → ca = 0) (hcb : b = none → cb = 0) (h300 : l.length ≤ 300) (hm300 : m.length ≤ 300) (hlc : l.length ≤ ca) (hmc : m.length ≤ cb)
    (r : Option (List Nat)) (k : Int) (hO : ∀ W, Bytes W b m → Calls Try.prog 20 #[.agg Tb.tabV, .slice b m.length cb] W (OpenPost r k W)) (h4 : m.length < 4) (hr : r = none) (hk : k = 14) :
    Calls Try.prog 9 #[.slice a l.length ca, .slice b m.length cb] w fun e w' => e = .returned (.bool true) ∧ Below w.heap.size w w' := by
  have hz := (zero_of_info Try.infoTab).1
  have hi : (Try.prog.info? 25).map (·.size) = some Tb.tabV.size := by rw [Tb.size_tabV]; exact (zero_of_info Try.infoTab).2
  have hI := Lib.hid hi
  clear hi
  obtain ⟨S, hS⟩ : ∃ S, S = l ++ Crc.le4 (Crc.sum l) := ⟨_, rfl⟩
  have hSl : S.length = l.length + 4 := by rw [hS]; simp [Crc.le4]
  have hSt : S.take l.length = l := by rw [hS]; simp
  have hSo : S.drop (S.length - 4) = Crc.le4 (Crc.sum (S.take (S.length - 4))) := by
    rw [hSl, Nat.add_sub_cancel, hSt, hS]; simp
  have hSt4 : S.take (S.length - 4) = l := by rw [hSl, Nat.add_sub_cancel, hSt]
  have hseal := fun W hb => seal_any a l ca W hb hca (by omega)
  rw [← hS] at hseal
  have HSE := Lib.hid hseal
  have hopen := fun (g c : Nat) (W : World) hb (hc : S.length ≤ c) => open_ok (some ⟨g, 0, none⟩) S c W hb (fun e => by cases e) hc (by omega) (by omega) hSo
  rw [hSt4] at hopen
  have HOP := Lib.hid hopen
  have HSL := Lib.hid hSl
  have HST := Lib.hid hSt
  have HSame := Lib.hid (fun (x y : Option Addr) (cx cy : Nat) (W : World) hx hy => same_yes x y l cx cy l.length W hx hy (by omega) rfl)
  have HOB := Lib.hid hO
  clear hS hSl hSt hSo hSt4 hseal hopen hO
  subst hr hk
  have hSne : ((S.length : Int) != (l.length : Int) + 4) = false := by rw [bne_eq_false_iff_eq]; have := HSL.out; omega
  have tok1 : True := trivial
  go_enter Try.func9, Try.ntmps9
  go_wp2_with (first | (go_at_call 11; refine (anchor_any _).mono ?_; rintro e w1 ⟨rfl, hB1⟩) | (go_at_call 12; refine (new_any _).mono ?_; rintro e w2 ⟨rfl, hB2⟩) | (refine wpList_store_row rfl 25 _ _ rfl w2.heap.size Tb.tabV rfl rfl 25 Tb.zero (heap_alloc_new w2 _) hI.out (by rw [Tb.size_zero, Tb.size_tabV]) Tb.one_tabV ?_; rw [World.setRow_alloc_new]; have z1 := hB1.size; have z2 := hB2.size; have hBa := (hB1.trans (hB2.mono z1)).alloc (by omega) (.cells Tb.tabV 25); have hTa := heap_alloc_new w2 (.cells Tb.tabV 25); have hla : w2.heap.size < (w2.alloc (.cells Tb.tabV 25)).heap.size := by simp) | (refine wpList_load_row rfl 25 _ rfl w2.heap.size rfl 25 _ _ _ hTa Try.underlying25 rfl hI.out ?_) | (go_at_call 19; refine (HSE.out _ (ha.below hBa)).mono ?_; rintro e w3 ⟨v3, rfl, hown3, hB3⟩; obtain ⟨g3, c3, rfl, hbg3, hlt3, hlc3, hcm3, hc3, hf3⟩ := hown3.open (by have := HSL.out; omega); clear hc3 hf3; have hlc3' : l.length ≤ c3 := by { have := HSL.out; omega }; have hT3 := (hB3.block _ hla).trans hTa; have hB3' := hBa.trans (hB3.mono hBa.size); have BS3 := own_read hown3) | (refine wpList_load_row rfl 25 _ rfl w2.heap.size rfl 25 _ _ _ hT3 Try.underlying25 rfl hI.out ?_) | (go_at_call 20; have _t := tok1; refine (HOP.out g3 c3 _ BS3 hlc3).mono ?_; rintro e w4 ⟨⟨v4, rfl, hown4⟩, hB4⟩; clear tok1; obtain ⟨p4, c4, rfl, BX4, _, _⟩ := OwnB.bytes hown4; have tok2 : True := trivial; have hl3 := Nat.lt_of_lt_of_le hla hB3.size; have hT4 := (hB4.block _ hl3).trans hT3; have hB4' := hB3'.trans (hB4.mono hB3'.size); have BS4 := BS3.below hB4) | (go_at_call 21; have _t := tok2; refine (HSame.out p4 a c4 ca _ BX4 (ha.below hB4')).mono ?_; rintro e w5 ⟨rfl, hB5⟩; clear tok2; have tok3 : True := trivial; have hl4 := Nat.lt_of_lt_of_le hl3 hB4.size; have hT5 := (hB5.block _ hl4).trans hT4; have hB5' := hB4'.trans (hB5.mono hB4'.size); have BS5 := BS4.below hB5) | (go_at_call 21; have _t := tok3; refine (HSame.out (some ⟨g3, 0, none⟩) a c3 ca _ (by rw [← HST.out]; exact BS5.take _) (ha.below hB5')).mono ?_; rintro e w6 ⟨rfl, hB6⟩; clear tok3; have tok4 : True := trivial; have hl5 := Nat.lt_of_lt_of_le hl4 hB5.size; have hT6 := (hB6.block _ hl5).trans hT5; have hB6' := hB5'.trans (hB6.mono hB5'.size)) | (refine wpList_load_row rfl 25 _ rfl w2.heap.size rfl 25 _ _ _ hT6 Try.underlying25 rfl hI.out ?_) | (go_at_call 20; have _t := tok4; refine (HOB.out _ (hb.below hB6')).mono ?_; rintro e w7 ⟨⟨v7, rfl, hv7⟩, hB7⟩; clear tok4; have hB7' := hB6'.trans (hB7.mono hB6'.size); subst hv7))
  go_ret
  exact ⟨rfl, hB7'⟩
end Go.Proofs.Ythabhmgolfoccaa
