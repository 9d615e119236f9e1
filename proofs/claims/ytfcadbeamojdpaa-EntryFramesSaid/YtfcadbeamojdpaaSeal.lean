/- Proved here: the contract of Seal: what was handed in, and behind it its sum in four bytes, in memory of the call's own. -/
import Derived.Test.YtfcadbeamojdpaaOver
import Derived.Test.YtfcadbeamojdpaaCodNum
import Derived.Test.YtfcadbeamojdpaaConf
import Derived.Deep.DeepMust
namespace Go.Proofs.Ytfcadbeamojdpaa
open Go.RowKit Go.Rv
set_option linter.unusedVariables false
/-- the value is a row of the call's own with these bytes; nothing that was there has turned -/
def RowPost (l : List Nat) (w : World) (e : Ending) (w' : World) : Prop := ∃ v, e = .returned v ∧ OwnB w' 5 w.heap.size v l ∧ Below w.heap.size w w'
theorem le4_cells (s : Nat) (h : s < 2 ^ 32) : #[Value.int .u8 ((s : Int) % 256), .int .u8 ((s : Int) / 256 % 256), .int .u8 ((s : Int) / 65536 % 256), .int .u8 ((s : Int) / 16777216)] = byteCells (Crc.le4 s) := by
  simp [byteCells, Crc.le4]
  omega
theorem own_ge {B g : Nat} {n c : Nat} (h : B ≤ g) : ∀ k, (Value.slice (some ⟨g, 0, none⟩) n c).ownBlock = some k → B ≤ k := by
  intro k hk
  simp [Value.ownBlock] at hk
  omega
set_option maxRecDepth 100000 in
set_option maxHeartbeats 400000 in
theorem seal_any (a : Option Addr) (l : List Nat) (cap : Nat) (w : World) (hb : Bytes w a l) (hcap : a = none → cap = 0) (hlen : l.length ≤ 140737488355000) :
    Calls Try.prog 41 #[.agg Tb.tabV, .slice a l.length cap] w (RowPost (l ++ Crc.le4 (Crc.sum l)) w) := by
  have hi : (Try.prog.info? 28).map (·.size) = some Tb.tabV.size := by rw [Tb.size_tabV]; exact (zero_of_info Try.infoTab).2
  have hI := Lib.hid hi
  clear hi
  have hB0 : Below w.heap.size w (w.alloc (.cells Tb.tabV 28)) := (Below.refl _ _).alloc (Nat.le_refl _) _
  have hT0 := heap_alloc_new w (.cells Tb.tabV 28)
  have hs32 := Crc.sum_lt hb.1
  have HS := Lib.hid (fun (W : World) hb => sum_any a l cap W hb (by omega))
  have HL := Lib.hid (Crc.le4_lt (Crc.sum l))
  generalize Crc.sum l = s at *
  go_enter Try.func41, Try.ntmps41
  go_wp2_with (first | (refine wpList_load_row rfl 28 _ rfl w.heap.size rfl 28 _ _ _ hT0 Try.underlying28 rfl hI.out ?_) | (go_at_call 56; refine (HS.out _ (hb.below hB0)).mono ?_; rintro e w1 ⟨rfl, hB1⟩; have hB1' := hB0.trans (hB1.mono (by simp)); have z1 := hB1'.size) | (at_builtin; refine wpList_append_bytes rfl (.tmp 9) (.tmp 10) 47 rfl 5 Try.underlying47 Try.infoU8 w.heap.size _ [] rfl (OwnB.made (g := w1.heap.size) z1 (heap_alloc_new w1 _) rfl (by unfold maxLen; omega)) a cap l rfl (hb.below (hB1'.alloc z1 _)) hcap (by simp; omega) (by simp; omega) ?_; intro v2 w2 hown2 hgrow2; have hb2 := (hB1'.alloc z1 _).trans (Below.of_grown hgrow2 (by simp; omega) (own_ge z1)); have z2 := hb2.size) | (at_builtin; go_must (refine wpList_append_bytes rfl (.tmp 11) (.tmp 23) 47 rfl 5 Try.underlying47 Try.infoU8 w.heap.size v2 l rfl (hown2.below ((Below.refl _ _).alloc (Nat.le_refl _) _)) (some ⟨w2.heap.size, 0, none⟩) 4 (Crc.le4 s) rfl (byteCells_row (by rw [heap_alloc_new, le4_cells s hs32]) HL.out) (fun e => by cases e) (by simp [Crc.le4]; omega) (by simp; omega) ?_; intro v3 w3 hown3 hgrow3)))
  go_ret
  refine ⟨v3, rfl, hown3, (hb2.alloc z2 _).trans ((hown2.below ((Below.refl _ _).alloc (Nat.le_refl _) _)).grown hgrow3 (by simp; omega))⟩
theorem le4_at (s k : Nat) (hk : k < 4) : (Crc.le4 s)[k]? = some (s / 256 ^ k % 256) := by
  have h : k = 0 ∨ k = 1 ∨ k = 2 ∨ k = 3 := by omega
  rcases h with rfl | rfl | rfl | rfl <;> simp [Crc.le4]
/-- what Open tells: two results -/
def OpenPost (r : Option (List Nat)) (k : Int) (w : World) (e : Ending) (w' : World) : Prop :=
  (∃ v, e = .returned (.tuple #[v, .int .i64 k]) ∧ (match r with | none => v = .slice none 0 0 | some l => OwnB w' 5 w.heap.size v l)) ∧ Below w.heap.size w w'
set_option maxRecDepth 100000 in
set_option maxHeartbeats 400000 in
theorem open_size (a : Option Addr) (l : List Nat) (cap : Nat) (w : World) (hlen : l.length < 4) :
    Calls Try.prog 42 #[.agg Tb.tabV, .slice a l.length cap] w (OpenPost none 14 w) := by
  have hB0 : Below w.heap.size w (w.alloc (.cells Tb.tabV 28)) := (Below.refl _ _).alloc (Nat.le_refl _) _
  go_enter Try.func42, Try.ntmps42
  go_wp2
  go_ret2
  exact ⟨⟨_, rfl, rfl⟩, hB0⟩
set_option maxRecDepth 100000 in
set_option maxHeartbeats 1000000 in
theorem open_at (a : Option Addr) (l : List Nat) (cap : Nat) (w : World) (hb : Bytes w a l) (hcap : a = none → cap = 0) (hlc : l.length ≤ cap) (h4 : 4 ≤ l.length) (hlen : l.length ≤ 140737488355000) :
    Calls Try.prog 42 #[.agg Tb.tabV, .slice a l.length cap] w (if l.drop (l.length - 4) = Crc.le4 (Crc.sum (l.take (l.length - 4))) then OpenPost (some (l.take (l.length - 4))) 0 w else OpenPost none 11 w) := by
  have hi : (Try.prog.info? 28).map (·.size) = some Tb.tabV.size := by rw [Tb.size_tabV]; exact (zero_of_info Try.infoTab).2
  have hI := Lib.hid hi
  clear hi
  obtain ⟨n, hn⟩ : ∃ n, n + 4 = l.length := ⟨l.length - 4, by omega⟩
  have hnn : l.length - 4 = n := by omega
  rw [hnn]
  have hnI : (l.length : Int) - 4 = (n : Int) := by omega
  have HN := Lib.hid hn
  clear hnn hn
  have hB0 : Below w.heap.size w (w.alloc (.cells Tb.tabV 28)) := (Below.refl _ _).alloc (Nat.le_refl _) _
  have hT0 := heap_alloc_new w (.cells Tb.tabV 28)
  have e4 : l.length - n = 4 := by have := HN.out; omega
  obtain ⟨b0, o0, c0, rfl, _⟩ := hb.at (show 0 < l.length by omega)
  have hbt := Lib.hid ((hb.below hB0).take n)
  have hs32 := Crc.sum_lt (hb.take n).1
  have HS := Lib.hid (fun (W : World) hb => sum_any (some ⟨b0, o0, none⟩) (l.take n) cap W hb (by simp; omega))
  rw [List.length_take, Nat.min_eq_left (by have := HN.out; omega)] at HS
  have hnc : (n : Int) ≤ (cap : Int) := by have := HN.out; omega
  have hnl : n ≤ l.length := by have := HN.out; omega
  generalize Crc.sum (l.take n) = s at *
  go_enter Try.func42, Try.ntmps42
  go_wp2_with fail
  refine wp_region_conf 5 [Fact.eq ?r4x0, Fact.eq ?r4x1, Fact.eq ?r4x2, Fact.eq ?r4x3, Fact.eq ?r4x4] ?r4A (by kernel_rfl) (by kernel_rfl) ?r4hA ?r4ho ?r4hend
  case r4hA =>
    intro vv
    simp only [putRules, Nat.reduceAdd]
    rfl
  case r4ho =>
    refine ⟨?_, ?_, ?_, ?_, ?_, trivial⟩
    · intro vv W K hB hd hK
      simp only [confRules] at hK
      have HK := Lib.hid hK
      clear hK hd
      have hT := (hB.block w.heap.size (by simp)).trans hT0
      go_wp2_with (refine wpList_load_row rfl 28 _ rfl w.heap.size rfl 28 _ _ _ hT Try.underlying28 rfl hI.out ?_)
      refine HK.out _ _ (Below.refl _ _) ?_
      rfl
    · intro vv W K hB hd hK
      simp only [confRules] at hK
      have HK := Lib.hid hK
      clear hK hd
      go_wp2
      refine HK.out _ _ (Below.refl _ _) ?_
      rfl
    · intro vv W K hB hd hK
      simp only [confRules] at hK
      have HK := Lib.hid hK
      clear hK hd
      go_wp2
      refine HK.out _ _ (Below.refl _ _) ?_
      rfl
    · intro vv W K hB hd hK
      simp only [confRules] at hd hK
      obtain ⟨h1, h2⟩ := hd
      simp only [h1, h2] at hK ⊢
      clear h1 h2
      have HK := Lib.hid hK
      clear hK
      go_wp2
      refine HK.out _ _ (Below.refl _ _) ?_
      rfl
    · intro vv W K hB hd hK
      simp only [confRules] at hd hK
      obtain ⟨h0, h3⟩ := hd
      simp only [h0, h3] at hK ⊢
      clear h0 h3
      have HK := Lib.hid hK
      clear hK
      go_wp2_with (go_at_call 56; refine (HS.out _ (hbt.out.below hB)).mono ?_; rintro e w8 ⟨rfl, hB8⟩)
      refine HK.out _ _ hB8 ?_
      rfl
  case r4hend =>
    intro vv W hB hf
    have e4 := hf 4 (by decide)
    simp only [endRules] at e4
    simp only [e4, dropRules]
    clear hf e4
    have hBW := hB0.trans (hB.mono (by simp))
    have hbW := hb.below hBW
    clear hB hT0 hbt HS hI hB0
    go_wp2
    go_loop [7, 24] (fun t i => ∃ k : Nat, k ≤ 4 ∧ i = .int .i64 k ∧ t = .int .u32 (s / 256 ^ k : Nat) ∧ (l.drop n).take k = (Crc.le4 s).take k) (fun _ i => 4 - (intOf i).toNat)
    case atStart => exact ⟨0, by omega, rfl, by simp, by simp⟩
    case round =>
      obtain ⟨k, hk, rfl, rfl, hpre⟩ := hrel
      by_cases hlt : k < 4
      · obtain ⟨b1, o1, c, e1, hbl, hc, hc8, hlk⟩ := hbW.at (show n + k < l.length by omega)
        cases e1
        have hc' : W.cell? ⟨b0, o0 + n + k, none⟩ = some (.int .u8 (c : Nat)) := by rw [Nat.add_assoc]; exact hc
        have ht32 : s / 256 ^ k < 2 ^ 32 := Nat.lt_of_le_of_lt (Nat.div_le_self _ _) hs32
        have hnx := Lib.hid (show s / 256 ^ k / 256 = s / 256 ^ (k + 1) by rw [Nat.div_div_eq_div_mul, Nat.pow_succ])
        have hby := Lib.hid (le4_at s k hlt)
        have HP := Lib.hid hpre
        have HK := Lib.hid (show (l.drop n)[k]? = some c by rw [List.getElem?_drop]; exact hlk)
        clear hpre hlk hc
        generalize s / 256 ^ k = t at *
        by_cases hct : c = t % 256
        · have hne : ((c : Int) != (t : Int) % 256) = false := by rw [bne_eq_false_iff_eq]; omega
          have hnx2 := Lib.hid (same_pref HP.out HK.out hby.out hct)
          clear hct
          go_wp2
          go_round
          case rel => exact ⟨k + 1, by omega, by go_num, by rw [← hnx.out]; rfl, hnx2.out⟩
          case measure => simp [intOf]; omega
        · have hne : ((c : Int) != (t : Int) % 256) = true := by rw [bne_iff_ne]; omega
          have hno := same_no HK.out hby.out hct
          have HNO := Lib.hid hno
          clear hct hno
          go_wp2
          go_ret2
          exact ⟨⟨_, rfl, rfl⟩, hBW⟩
      · obtain rfl : k = 4 := by omega
        have heq : l.drop n = Crc.le4 s := by
          have h1 : (l.drop n).length = 4 := by simp; omega
          rw [← h1, List.take_length] at hpre
          rw [hpre, h1]
          rfl
        have HEQ := Lib.hid heq
        have hbt := hbW.take n
        have hlt' : (l.take n).length = n := by simp; omega
        have HLT := Lib.hid hlt'
        clear heq hpre hlt hlt'
        have zW := hBW.size
        go_wp2_with (at_builtin; go_must (refine wpList_append_bytes rfl (.tmp 35) (.tmp 38) 47 rfl 5 Try.underlying47 Try.infoU8 w.heap.size _ [] rfl (OwnB.made (g := W.heap.size) zW (heap_alloc_new W _) rfl (by unfold maxLen; omega)) (some ⟨b0, o0, none⟩) cap (l.take n) (by rw [HLT.out]; rfl) (hbt.below ((Below.refl _ _).alloc (Nat.le_refl _) _)) (fun e => by cases e) (by simp; omega) (by simp; omega) ?_; intro v3 w3 hown3 hgrow3))
        go_ret2
        exact ⟨⟨v3, rfl, hown3⟩, (hBW.alloc zW _).trans (Below.of_grown hgrow3 (by simp; omega) (own_ge zW))⟩
end Go.Proofs.Ytfcadbeamojdpaa
