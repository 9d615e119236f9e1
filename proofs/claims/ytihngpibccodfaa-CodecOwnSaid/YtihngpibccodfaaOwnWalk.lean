/- Proved here: what the text of the law CodecOwn does: it answers true. -/
import Derived.Test.YtihngpibccodfaaCodAnchor
import Derived.Test.YtihngpibccodfaaRd
import Derived.Deep.RegionHeld3
import Derived.Deep.DrawnRows
namespace Go.Proofs.Ytihngpibccodfaa
open Go.RowKit Go.Rv
set_option linter.unusedVariables false
attribute [local go_sem ↓] Go.wp_at_zero Go.wp_at_succ
theorem inc_step {w : World} {g k c N x B : Nat} {L : List Nat} (h : ∀ z, z < 256 → Hid (OwnB (w.setCell ⟨g, k, none⟩ (.int .u8 (z : Nat))) 5 B (.slice (some ⟨g, 0, none⟩) N c) (L.set k z))) :
    Hid (OwnB (w.setCell ⟨g, k, none⟩ (.int .u8 (((x : Int) + 1) % 256))) 5 B (.slice (some ⟨g, 0, none⟩) N c) (L.set k ((x + 1) % 256))) := by
  have e : ((x : Int) + 1) % 256 = (((x + 1) % 256 : Nat) : Int) := by omega
  rw [e]
  exact h _ (Nat.mod_lt _ (by omega))
set_option maxRecDepth 100000 in
set_option maxHeartbeats 1000000 in
theorem own_walk (a : Option Addr) (l : List Nat) (cap n : Nat) (w : World) (ha : Bytes w a l) (hcap : a = none → cap = 0) (hlc : l.length ≤ cap) (h1 : 1 ≤ l.length) (h200 : l.length ≤ 200) (hn : n ≤ l.length) :
    Calls Try.prog 4 #[.slice a l.length cap, .int .i64 n] w fun e w' => e = .returned (.bool true) ∧ Below w.heap.size w w' := by
  have q1 : ((l.length : Int) == 0) = false := by rw [beq_eq_false_iff_ne]; omega
  have q2 : decide ((200 : Int) < (l.length : Int)) = false := decide_eq_false (by omega)
  have q3 : decide ((n : Int) < 0) = false := decide_eq_false (by omega)
  have q4 : decide ((l.length : Int) < (n : Int)) = false := decide_eq_false (by omega)
  have q5 : decide (l.length < n) = false := decide_eq_false (by omega)
  obtain ⟨b0, o0, _, rfl, _⟩ := ha.at (show 0 < l.length by omega)
  go_enter Try.func4, Try.ntmps4
  go_wp2_with (first | (go_at_call 8; refine (anchor_any _).mono ?_; rintro e w1 ⟨rfl, hB1⟩; have z1 := hB1.size) | (at_builtin; refine wpList_append_bytes_at rfl (.tmp 36) (.tmp 37) 26 rfl 5 Try.underlying26 Try.infoU8 w1.heap.size _ [] rfl (OwnB.made (g := w1.heap.size) (Nat.le_refl _) (heap_alloc_new w1 _) rfl (by unfold maxLen; omega)) (some ⟨b0, o0, none⟩) cap l rfl (ha.below (hB1.alloc z1 _)) hcap (by simp; omega) (by simp) ?_; intro v2 w2 hown2 hgr2 hat2; rw [List.nil_append] at hown2))
  have hB12 : Below w1.heap.size w1 w2 := ((Below.refl _ _).alloc (Nat.le_refl _) _).trans (Below.of_grown hgr2 (by simp) (fun k hk => by simp [Act.eval, Value.ownBlock] at hk; omega))
  have hB2 := hB1.trans (hB12.mono z1)
  have z2 := hB12.size
  obtain ⟨gi, ci, rfl, hgi, hgil, hlci, hcm, -, -⟩ := hown2.open h1
  clear hat2 hgr2
  have hb2 := hown2.read
  go_wp2_with fail
  refine (rd_new (some ⟨gi, 0, none⟩) l ci w2 hb2 (fun e => by cases e) (by omega)).mono ?_
  rintro e w3 ⟨g6, rfl, hg6, hR3, hB3⟩
  have z3 := hB3.size
  have hB3' := hB2.trans (hB3.mono hB2.size)
  have hown3 := hown2.below hB3
  go_wp2_with fail
  have hp3 := PenAt.new w3
  have hBa : Below w3.heap.size w3 (w3.alloc (.cells #[.slice none 0 0, .bool false] 30)) := (Below.refl _ _).alloc (Nat.le_refl _) _
  have hg6l := hR3.lt
  refine (pen_bytes w3.heap.size none [] false (some ⟨gi, 0, none⟩) l ci _ hp3 ((hown3.below hBa).read) (fun e => by cases e) (by simp) (by omega)).mono ?_
  rintro e w4 ⟨rfl, fp, hp4, hO4, hf4⟩
  rw [List.nil_append] at hp4
  have z4 := hO4.size
  simp only [World.size_alloc] at z4
  have hB34 : Below w3.heap.size w3 w4 := hBa.trans (hO4.below (by simp) (by simp))
  have hB4 := hB3'.trans (hB34.mono hB3'.size)
  have hR4 := hR3.below hB34
  have hown4 := hown3.below hB34
  clear hp3 hO4 hR3 hown3 hown2 hb2
  obtain ⟨N, hN⟩ : ∃ N, N = l.length := ⟨_, rfl⟩
  rw [← hN] at hown4 q1 q2 q4 q5 hlci hlc h1 h200 hn ⊢
  have HN := Lib.hid hN
  clear hN
  go_wp2
  go_loopw [45] (fun i wr => ∃ k : Nat, k ≤ N ∧ i = .int .i64 k ∧ (∃ L : List Nat, L.length = N ∧ OwnB wr 5 w1.heap.size (.slice (some ⟨gi, 0, none⟩) N ci) L) ∧ Only [gi] w4 wr) (fun i _ => N - (intOf i).toNat)
  case atStart => exact ⟨0, by omega, rfl, ⟨l, HN.out.symm, hown4⟩, Only.refl _ _⟩
  case round =>
    obtain ⟨k, hk, rfl, ⟨L, hL, ho⟩, hO⟩ := hrel
    by_cases hlt : k < N
    · obtain ⟨g', c', hv, -, hgl, -, -, hcell, hfr⟩ := OwnB.open (l := L) (v := .slice (some ⟨gi, 0, none⟩) L.length ci) (by rw [hL]; exact ho) (by omega)
      cases hv
      have hx := hcell k (by omega)
      have hfz := hfr k
      have hset := fun z hz => Lib.hid (OwnB.set (w := wr) (e := 5) (base := w1.heap.size) (g := gi) (cap := ci) (l := L) (by rw [hL]; exact ho) k z hz)
      rw [hL] at hset
      have HL := Lib.hid hL
      have HO := Lib.hid hO
      generalize L.getD k 0 = x at *
      clear hcell hfr hL hO
      go_wp2
      go_roundw
      case rel =>
        refine ⟨k + 1, by omega, by go_num, ⟨_, ?_, (inc_step hset).out⟩, HO.out.setCell (by simp) _⟩
        rw [List.length_set]
        exact HL.out
      case measure => simp [intOf]; omega
    · obtain rfl : N = k := by omega
      have hB5 : Below w.heap.size w wr := hB4.trans (hO.below (by simp; omega) (by omega))
      have hR5 := hR4.only hO (by simp; omega) (by simp; omega)
      have hp5 := hp4.only hO (by simp; omega) (by
        intro j hj
        rcases hf4 with h | ⟨j', h, hj'⟩
        · rw [h] at hj; cases hj
        · rw [h] at hj; cases hj; simp at hj' ⊢; omega)
      obtain ⟨w5, rfl⟩ : ∃ w5 : World, w5 = wr := ⟨_, rfl⟩
      clear hp4 hR4 hown4 ho
      have z5 := hO.size
      go_wp2_with fail
      refine (pen_out _ _ _ _ _ hp5 (by have := HN.out; omega)).mono ?_
      rintro e w6 ⟨⟨v6, rfl, hown6, -⟩, hB6⟩
      simp only [Bool.false_eq_true, if_false] at hown6
      obtain ⟨a6, c6, rfl, hb6, hn6, hx6⟩ := hown6.bytes
      have hp6 := hp5.below hB6
      have hR6 := hR5.below hB6
      have z6 := hB6.size
      have hB6' := hB5.trans (hB6.mono hB5.size)
      go_wp2_with fail
      refine (pen_out _ _ _ _ _ hp6 (by have := HN.out; omega)).mono ?_
      rintro e w7 ⟨⟨v7, rfl, hown7, -⟩, hB7⟩
      simp only [Bool.false_eq_true, if_false] at hown7
      obtain ⟨ga, ca, rfl, hga, hgal, hlca, hcma, -, -⟩ := hown7.open (by have := HN.out; omega)
      have hp7 := hp6.below hB7
      have hR7 := hR6.below hB7
      have hb7 := hb6.below hB7
      have z7 := hB7.size
      have hB7' := hB6'.trans (hB7.mono hB6'.size)
      rw [← HN.out] at hown7 hlca ⊢
      go_wp2
      go_loopw [65] (fun i wr => ∃ k : Nat, k ≤ N ∧ i = .int .i64 k ∧ (∃ L : List Nat, L.length = N ∧ OwnB wr 5 w6.heap.size (.slice (some ⟨ga, 0, none⟩) N ca) L) ∧ Only [ga] w7 wr) (fun i _ => N - (intOf i).toNat)
      case atStart => exact ⟨0, by omega, rfl, ⟨l, HN.out.symm, hown7⟩, Only.refl _ _⟩
      case round =>
        obtain ⟨k, hk, rfl, ⟨L, hL, ho⟩, hO2⟩ := hrel
        by_cases hlt : k < N
        · obtain ⟨g', c', hv, -, hgl, -, -, hcell, hfr⟩ := OwnB.open (l := L) (v := .slice (some ⟨ga, 0, none⟩) L.length ca) (by rw [hL]; exact ho) (by omega)
          cases hv
          have hx := hcell k (by omega)
          have hfz := hfr k
          have hset := fun z hz => Lib.hid (OwnB.set (w := wr) (e := 5) (base := w6.heap.size) (g := ga) (cap := ca) (l := L) (by rw [hL]; exact ho) k z hz)
          rw [hL] at hset
          have HL := Lib.hid hL
          have HO := Lib.hid hO2
          generalize L.getD k 0 = x at *
          clear hcell hfr hL hO2
          go_wp2
          go_roundw
          case rel =>
            refine ⟨k + 1, by omega, by go_num, ⟨_, ?_, (inc_step hset).out⟩, HO.out.setCell (by simp) _⟩
            rw [List.length_set]
            exact HL.out
          case measure => simp [intOf]; omega
        · obtain rfl : N = k := by omega
          obtain ⟨w8, rfl⟩ : ∃ w8 : World, w8 = wr := ⟨_, rfl⟩
          have hB8 : Below w.heap.size w w8 := hB7'.trans (hO2.below (by simp; have := hB6'.size; omega) (by have := hB7'.size; omega))
          have hp8 := hp7.only hO2 (by simp; omega) (by
            intro j hj
            have := hp6.row_lt hj
            simp
            omega)
          have hBw7 : Below w7.heap.size w7 w7 := Below.refl _ _
          have hR8 : RdAt w8 w2.heap.size g6 l false := hR6.below (hB7.trans (hO2.below (by simp; omega) (by omega)))
          have hb8 := hb7.only hO2 (by
            intro x hx
            have := (hx6 x hx).2.1
            simp
            omega)
          clear hown7 ho hp7 hR7 hp6 hR6
          go_wp2_with fail
          refine (pen_out _ _ _ _ _ hp8 (by have := HN.out; omega)).mono ?_
          rintro e w9 ⟨⟨v9, rfl, hown9, -⟩, hB9⟩
          simp only [Bool.false_eq_true, if_false] at hown9
          obtain ⟨a9, c9, rfl, hb9, hn9, hx9⟩ := hown9.bytes
          have hR9 := hR8.below hB9
          have hb69 := hb8.below hB9
          have hB9' := hB8.trans (hB9.mono hB8.size)
          have haW := ha.below hB9'
          have hl9 : l.length ≤ 9223372036854775807 := by have := HN.out; omega
          have ht9 : (l.take n).length ≤ 9223372036854775807 := by have := HN.out; simp; omega
          have HS1 := Lib.hid (fun W h1 h2 => rsame_b a6 (some ⟨b0, o0, none⟩) l l c6 cap W h1 h2 hl9 hl9 true (by simp))
          have HS2 := Lib.hid (fun W h1 h2 => rsame_b a9 (some ⟨b0, o0, none⟩) l l c9 cap W h1 h2 hl9 hl9 true (by simp))
          have HS3 := Lib.hid (fun W aa h1 h2 => rsame_b aa (some ⟨b0, o0, none⟩) (l.take n) (l.take n) n cap W h1 h2 ht9 ht9 true (by simp))
          have hln : (l.take n).length = n := by have := HN.out; simp; omega
          have hld : ((l.drop n).length : Int) = (N : Int) - (n : Int) := by have := HN.out; simp; omega
          have HRE := Lib.hid (fun W (hR : RdAt W w2.heap.size g6 (l.drop n) false) => rd_rest g6 (l.drop n) false W hR)
          rw [hld] at HRE
          rw [hln] at HS3
          have HRB := Lib.hid (fun W (hR : RdAt W w2.heap.size g6 l false) => rd_bytes_yes g6 l n W hR (by have := HN.out; omega))
          rw [← HN.out] at HS1 HS2 ⊢
          have i1 : (0 : Int) ≤ (n : Int) := by omega
          have i2 : (n : Int) ≤ (N : Int) := by omega
          have i3 : (n : Int) ≤ (cap : Int) := by omega
          have e1 : IntKind.i64.wrap ((N : Int) - (n : Int)) = (N : Int) - (n : Int) := IntWalk.i64_in _ (by omega)
          clear hln hld
          have tok1 : True := trivial
          obtain ⟨H, hH⟩ : ∃ H, H = w9.heap.size := ⟨_, rfl⟩
          have hbel0 : Below H w9 w9 := Below.refl _ _
          have HH := Lib.hid hH
          clear hH
          go_wp2_with fail
          go_region_held3 (fun _ => True) (trivial) (first | (go_at_call 14; have _t := tok1; refine (HS1.out _ (hb69.below (Below.refl _ _).drew) (haW.below (Below.refl _ _).drew)).mono ?_; rintro e w10 ⟨rfl, hB10⟩; clear tok1; have tok2 : True := trivial; have hC10 : Below w9.heap.size w9 w10 := (Below.refl w9.heap.size w9).drew.trans hB10) | (go_at_call 14; have _t := tok2; refine (HS2.out _ (hb9.below hC10) (haW.below hC10)).mono ?_; rintro e w11 ⟨rfl, hB11⟩; clear tok2; have tok3 : True := trivial; have hC11 : Below w9.heap.size w9 w11 := hC10.trans (hB11.mono hC10.size); have hD11 : Below w.heap.size w w11 := hB9'.trans (hC11.mono hB9'.size)) | (go_at_call 15; refine (HRB.out _ (hR9.below hC11)).mono ?_; rintro e w12 ⟨aa, rfl, hbt, hnn, hxx, hR12, hO12⟩; have hD12 : Below w.heap.size w w12 := hD11.trans (hO12.below (by simp; omega) hD11.size)) | (go_at_call 14; have _t := tok3; refine (HS3.out _ aa hbt ((ha.below hD12).take n)).mono ?_; rintro e w13 ⟨rfl, hB13⟩; clear tok3; have hD13 : Below w.heap.size w w13 := hD12.trans (hB13.mono hD12.size)) | (go_at_call 16; refine (HRE.out _ (hR12.below hB13)).mono ?_; rintro e w14 ⟨rfl, rfl⟩))
          go_wp2
          go_ret
          exact ⟨rfl, hD13⟩
end Go.Proofs.Ytihngpibccodfaa
