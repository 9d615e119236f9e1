/- Proved here: the walk of the law on plays of a queue. -/
import Derived.Test.YtogijlpclceanaaQRef
import Derived.Test.YtogijlpclceanaaFit
import Derived.Deep.LoopGhost
import Derived.Deep.Cut
import Derived.Deep.CutRange
import Derived.Deep.CutBlock
namespace Go.Proofs.Ytogijlpclceanaa
open Go.Conc Go.RowKit Go.Rv Go.Shelf
set_option linter.unusedVariables false
attribute [local go_sem] Oper.semAt_some
/-- a slice of steps -/
def Steps2 (w : World) (a : Option Addr) (xs : List (Int × Int)) : Prop :=
  xs = [] ∨ ∃ b o, a = some ⟨b, o, none⟩ ∧ b < w.heap.size ∧ ∀ k x, xs[k]? = some x → w.cell? ⟨b, o + k * 2, none⟩ = some (.int .i64 x.1) ∧ w.cell? ⟨b, o + k * 2 + 1, none⟩ = some (.int .i64 x.2) ∧ In64 x.1 ∧ In64 x.2
theorem _root_.Go.Rv.IntsC.chan {w w' : World} {v : Value} {l : List Int} (h : IntsC w v l) {q c cap : Nat} {m : List Value} (hq : QiIsQ w q c cap m) (hO : Only [c] w w') : IntsC w' v l := by
  obtain ⟨a, cp, e, hI, r⟩ := h
  refine ⟨a, cp, e, ⟨hI.1, ?_⟩, r⟩
  rcases hI.2 with h0 | ⟨b, o, ha, hlt, hc⟩
  · exact .inl h0
  · by_cases h0 : l = []
    · exact .inl h0
    · refine .inr ⟨b, o, ha, Nat.lt_of_lt_of_le hlt hO.size, fun i hi => ?_⟩
      obtain ⟨s, r, hch⟩ := hq.2
      have hbc := cell_ne_chan (hc i hi) hch
      rw [← hc i hi]
      exact World.cell?_of_block (hO.block b hlt (by simpa using hbc))
theorem _root_.Go.Rv.IntsC.below {w w' : World} {v : Value} {l : List Int} (h : IntsC w v l) (hb : Below w.heap.size w w') : IntsC w' v l := by
  obtain ⟨a, cp, e, hI, r⟩ := h
  exact ⟨a, cp, e, hI.below hb, r⟩
set_option maxRecDepth 100000 in
set_option maxHeartbeats 8000000 in
theorem q_plays_core (n : Nat) (h1 : 1 ≤ n) (h2 : n ≤ 4096) (a : Option Addr) (l : List (Int × Int)) (cp : Nat) (stop : Int) (w : World) (hI : Steps2 w a l) (hl : l.length ≤ 80) :
    Calls Try.prog 5 #[.int .i64 (n : Nat), .slice a l.length cp, .int .i64 stop] w fun e w' => e = .returned (.bool true) ∧ Below w.heap.size w w' := by
  have HA := Lib.hid (fun W => q_anchor W)
  have HN := Lib.hid (fun W => qi_new n W h1 h2)
  have HI := Lib.hid hI
  clear hI
  have t1 : decide ((n : Int) < 1) = false := decide_eq_false (by omega)
  have t2 : decide (4096 < (n : Int)) = false := decide_eq_false (by omega)
  have t3 : decide (80 < (l.length : Int)) = false := decide_eq_false (by omega)
  refine calls_of_marks Try.func5 rfl ?_
  simp only [Try.ntmps5, List.size_toArray, List.length_cons, List.length_nil, Nat.reduceAdd, Nat.reduceSub, Array.replicate_succ, Array.replicate_zero, List.push_toArray, List.append_toArray, List.nil_append, List.cons_append]
  have hbx := heap_alloc_new w (.cells #[.int .i64 stop] 3)
  have hbB := (Below.refl w.heap.size w).alloc (Nat.le_refl _) (.cells #[.int .i64 stop] 3)
  go_wp2_with fail
  refine (HA.out _).mono ?_
  rintro e w0 ⟨rfl, hB0⟩
  have hbx0 := (hB0.block w.heap.size (by simp)).trans hbx
  have hb0 := hbB.trans (hB0.mono hbB.size)
  have z0 := hB0.size
  rw [World.size_alloc] at z0
  clear hB0 hbx hbB
  go_wp2_with fail
  refine (HN.out _).mono ?_
  rintro e w1 ⟨rfl, hQ1, hB1, z1⟩
  have hBW := hb0.trans (hB1.mono hb0.size)
  have hbx1 := (hB1.block w.heap.size (by omega)).trans hbx0
  obtain ⟨c, hc⟩ : ∃ c, w0.heap.size = c := ⟨_, rfl⟩
  have zc : w.heap.size < c := by omega
  rw [hc] at hQ1 z1 ⊢
  have HQ1 := Lib.hid hQ1
  have HZ1 := Lib.hid z1
  have HBX := Lib.hid hbx1
  clear hQ1 hb0 hB1 hc HA HN z1 hbx0 hbx1 z0
  go_wp2
  refine wp_loop_ghost_k (fun (m : Nat) (a' : Act) (w' : World) => ∃ (u6 u9 u11 u12 u13 u14 u15 u16 u17 u48 u49 u50 u51 u52 u53 u54 u55 u56 u57 u58 u59 u60 u61 u62 u63 u64 u65 u66 u67 u68 u69 u70 u71 u72 u73 u74 u75 u76 u77 u78 u79 u80 u81 u82 u83 u84 u85 u86 u87 u88 u89 u90 u91 u92 u93 u94 u95 u96 u97 u98 u99 u100 u101 u102 u103 u104 u105 u106 u107 u108 u109 u110 u111 u112 u113 u114 u115 u116 u117 u118 : Value) (ds : List Nat), a' = { tmps := ((Value.int IntKind.i64 ↑n) :: (Value.slice a l.length cp) :: (Value.int IntKind.i64 stop) :: undef :: undef :: (Value.pointer (some { block := w.heap.size, off := 0 })) :: u6 :: (Value.pointer (some { block := c + 1, off := 0 })) :: (Value.int IntKind.i64 0) :: u9 :: undef :: u11 :: u12 :: u13 :: u14 :: u15 :: u16 :: u17 :: (Value.bool true) :: (Value.bool false) :: (Value.tuple #[Value.pointer (some { block := c + 1, off := 0 }), Value.int IntKind.i64 0]) :: (Value.int IntKind.i64 ↑n) :: (Value.tuple #[Value.pointer (some { block := c + 1, off := 0 }), Value.int IntKind.i64 0]) :: (Value.pointer (some { block := c + 1, off := 0 })) :: (Value.int IntKind.i64 0) :: (Value.int IntKind.i64 ↑n) :: (Value.bool false) :: (Value.bool false) :: (Value.int IntKind.i64 ↑n) :: (Value.bool false) :: (Value.bool false) :: undef :: undef :: undef :: undef :: undef :: undef :: (Value.int IntKind.i64 0) :: (Value.bool false) :: (Value.bool false) :: (Value.pointer (some { block := c + 1, off := 0 })) :: (Value.bool false) :: (Value.bool false) :: (Value.slice a l.length cp) :: (Value.int IntKind.i64 ↑l.length) :: (Value.bool false) :: (Value.slice a l.length cp) :: (Value.int IntKind.i64 ↑l.length) :: u48 :: u49 :: u50 :: u51 :: u52 :: u53 :: u54 :: u55 :: u56 :: u57 :: u58 :: u59 :: u60 :: u61 :: u62 :: u63 :: u64 :: u65 :: u66 :: u67 :: u68 :: u69 :: u70 :: u71 :: u72 :: u73 :: u74 :: u75 :: u76 :: u77 :: u78 :: u79 :: u80 :: u81 :: u82 :: u83 :: u84 :: u85 :: u86 :: u87 :: u88 :: u89 :: u90 :: u91 :: u92 :: u93 :: u94 :: u95 :: u96 :: u97 :: u98 :: u99 :: u100 :: u101 :: u102 :: u103 :: u104 :: u105 :: u106 :: u107 :: u108 :: u109 :: u110 :: u111 :: u112 :: u113 :: u114 :: u115 :: u116 :: u117 :: u118 :: []).toArray, defers := marks ds } ∧ (∃ (k : Nat) (cur : List Int), k ≤ l.length ∧ m = l.length - k ∧ u48 = .int .i64 k ∧ IntsC w' u9 cur ∧ cur.length ≤ n ∧ QiIsQ w' (c + 1) c n (iV cur) ∧ Only [c] w1 w' ∧ ds.Nodup ∧ ∀ D ∈ ds, w1.heap.size ≤ D ∧ w'.heap[D]? = some (.deferred (some [])))) l.length ?start ?round
  case start => exact ⟨_, _, _, _, _, _, _, _, _, _, _, _, _, _, _, _, _, _, _, _, _, _, _, _, _, _, _, _, _, _, _, _, _, _, _, _, _, _, _, _, _, _, _, _, _, _, _, _, _, _, _, _, _, _, _, _, _, _, _, _, _, _, _, _, _, _, _, _, _, _, _, _, _, _, _, _, _, _, _, _, [], rfl, 0, [], Nat.zero_le _, rfl, rfl, ⟨none, 0, rfl, Ints.nil _ _, fun _ => rfl, Nat.le_refl _, by omega⟩, by simp, by simpa [iV] using HQ1.out, Only.refl _ _, by simp, by simp⟩
  case round =>
    intro m a' wr hinv J K hJ hK
    obtain ⟨u6, hinv⟩ := hinv
    obtain ⟨u9, hinv⟩ := hinv
    obtain ⟨u11, hinv⟩ := hinv
    obtain ⟨u12, hinv⟩ := hinv
    obtain ⟨u13, hinv⟩ := hinv
    obtain ⟨u14, hinv⟩ := hinv
    obtain ⟨u15, hinv⟩ := hinv
    obtain ⟨u16, hinv⟩ := hinv
    obtain ⟨u17, hinv⟩ := hinv
    obtain ⟨u48, hinv⟩ := hinv
    obtain ⟨u49, hinv⟩ := hinv
    obtain ⟨u50, hinv⟩ := hinv
    obtain ⟨u51, hinv⟩ := hinv
    obtain ⟨u52, hinv⟩ := hinv
    obtain ⟨u53, hinv⟩ := hinv
    obtain ⟨u54, hinv⟩ := hinv
    obtain ⟨u55, hinv⟩ := hinv
    obtain ⟨u56, hinv⟩ := hinv
    obtain ⟨u57, hinv⟩ := hinv
    obtain ⟨u58, hinv⟩ := hinv
    obtain ⟨u59, hinv⟩ := hinv
    obtain ⟨u60, hinv⟩ := hinv
    obtain ⟨u61, hinv⟩ := hinv
    obtain ⟨u62, hinv⟩ := hinv
    obtain ⟨u63, hinv⟩ := hinv
    obtain ⟨u64, hinv⟩ := hinv
    obtain ⟨u65, hinv⟩ := hinv
    obtain ⟨u66, hinv⟩ := hinv
    obtain ⟨u67, hinv⟩ := hinv
    obtain ⟨u68, hinv⟩ := hinv
    obtain ⟨u69, hinv⟩ := hinv
    obtain ⟨u70, hinv⟩ := hinv
    obtain ⟨u71, hinv⟩ := hinv
    obtain ⟨u72, hinv⟩ := hinv
    obtain ⟨u73, hinv⟩ := hinv
    obtain ⟨u74, hinv⟩ := hinv
    obtain ⟨u75, hinv⟩ := hinv
    obtain ⟨u76, hinv⟩ := hinv
    obtain ⟨u77, hinv⟩ := hinv
    obtain ⟨u78, hinv⟩ := hinv
    obtain ⟨u79, hinv⟩ := hinv
    obtain ⟨u80, hinv⟩ := hinv
    obtain ⟨u81, hinv⟩ := hinv
    obtain ⟨u82, hinv⟩ := hinv
    obtain ⟨u83, hinv⟩ := hinv
    obtain ⟨u84, hinv⟩ := hinv
    obtain ⟨u85, hinv⟩ := hinv
    obtain ⟨u86, hinv⟩ := hinv
    obtain ⟨u87, hinv⟩ := hinv
    obtain ⟨u88, hinv⟩ := hinv
    obtain ⟨u89, hinv⟩ := hinv
    obtain ⟨u90, hinv⟩ := hinv
    obtain ⟨u91, hinv⟩ := hinv
    obtain ⟨u92, hinv⟩ := hinv
    obtain ⟨u93, hinv⟩ := hinv
    obtain ⟨u94, hinv⟩ := hinv
    obtain ⟨u95, hinv⟩ := hinv
    obtain ⟨u96, hinv⟩ := hinv
    obtain ⟨u97, hinv⟩ := hinv
    obtain ⟨u98, hinv⟩ := hinv
    obtain ⟨u99, hinv⟩ := hinv
    obtain ⟨u100, hinv⟩ := hinv
    obtain ⟨u101, hinv⟩ := hinv
    obtain ⟨u102, hinv⟩ := hinv
    obtain ⟨u103, hinv⟩ := hinv
    obtain ⟨u104, hinv⟩ := hinv
    obtain ⟨u105, hinv⟩ := hinv
    obtain ⟨u106, hinv⟩ := hinv
    obtain ⟨u107, hinv⟩ := hinv
    obtain ⟨u108, hinv⟩ := hinv
    obtain ⟨u109, hinv⟩ := hinv
    obtain ⟨u110, hinv⟩ := hinv
    obtain ⟨u111, hinv⟩ := hinv
    obtain ⟨u112, hinv⟩ := hinv
    obtain ⟨u113, hinv⟩ := hinv
    obtain ⟨u114, hinv⟩ := hinv
    obtain ⟨u115, hinv⟩ := hinv
    obtain ⟨u116, hinv⟩ := hinv
    obtain ⟨u117, hinv⟩ := hinv
    obtain ⟨u118, hinv⟩ := hinv
    obtain ⟨ds, ha, hinv⟩ := hinv
    subst ha
    obtain ⟨k, cur, hk, rfl, rfl, hv, hcn, hq, hO, hnd, hds⟩ := hinv
    have HJ := Lib.hid hJ
    have HK := Lib.hid hK
    have HDS := Lib.hid hds
    have HQ := Lib.hid hq
    have HV := Lib.hid hv
    clear hJ hK hds hq hv HQ1
    have hbx : Below w.heap.size w wr := hBW.trans (hO.below (B := w.heap.size) (by simp; omega) (by have := HZ1.out; omega))
    have hstop := hO.get HBX.out (by simp; omega)
    have HST := Lib.hid hstop
    clear hstop
    by_cases hlt : k < l.length
    · obtain ⟨x, hx⟩ : ∃ x, l[k]? = some x := ⟨_, List.getElem?_eq_getElem hlt⟩
      obtain ⟨b, o, rfl, hbl, hcs⟩ := HI.out.resolve_left (by intro e; rw [e] at hlt; simp at hlt)
      obtain ⟨hx1, hx2, hi1, hi2⟩ := hcs k x hx
      have hc1 := (hbx.cell (p := ⟨b, o + k * 2, none⟩) hbl).trans hx1
      have hc2 := (hbx.cell (p := ⟨b, o + k * 2 + 1, none⟩) hbl).trans hx2
      clear hx1 hx2 hcs hx
      obtain ⟨kind, xv⟩ := x
      simp only at hc1 hc2 hi1 hi2
      go_upto_block 2 with (fail)
      go_cut [9, 48] from 48 to 118 (fun v9 v48 wx => v48 = .int .i64 (k : Nat) ∧ ∃ cur' : List Int, IntsC wx v9 cur' ∧ cur'.length ≤ n ∧ QiIsQ wx (c + 1) c n (iV cur') ∧ Only [c] wr wx)
      case first =>
        have hal := (Below.refl wr.heap.size wr).alloc (Nat.le_refl _) (.cells #[.int .i64 kind, .int .i64 xv] 43)
        have hnb := heap_alloc_new wr (.cells #[.int .i64 kind, .int .i64 xv] 43)
        obtain ⟨WA, hWA⟩ : ∃ WA, wr.alloc (.cells #[.int .i64 kind, .int .i64 xv] 43) = WA := ⟨_, rfl⟩
        rw [hWA] at hal hnb ⊢
        have hzA : wr.heap.size < WA.heap.size := (Array.getElem?_eq_some_iff.1 hnb).1
        have HVA := HV.out.below hal
        have HQA := HQ.out.only (Only.of_below (S := []) hal) (by simp) (by simp)
        have HOA : Only [c] wr WA := Only.of_below hal
        obtain ⟨av, cv, rfl, hIv, hnv, hlv, hmv⟩ := HVA
        have HIV := Lib.hid hIv
        have HNV := Lib.hid hnv
        have HQA := Lib.hid HQA
        have HNB := Lib.hid hnb
        clear hWA HV hIv hnv hnb hal hc1 hc2 HI HST HDS HBX
        have hbox : ∀ W', Below WA.heap.size WA W' → W'.cell? ⟨wr.heap.size, 1, none⟩ = some (.int .i64 xv) := fun W' hb => by
          rw [cell_of_row _ _ _ _ _ _ ((hb.block _ hzA).trans HNB.out)]
          rfl
        have hcA0 : WA.cell? ⟨wr.heap.size, 0, none⟩ = some (.int .i64 kind) := by
          rw [cell_of_row _ _ _ _ _ _ HNB.out]
          rfl
        have hcA1 := hbox WA (Below.refl _ _)
        have HBOX := Lib.hid hbox
        clear hbox
        by_cases k1 : kind = 1
        · subst k1
          by_cases hroom : cur.length < n
          · have HP := Lib.hid (rput_room av cur cv n xv WA hroom (by omega) HIV.out HNV.out hi2)
            go_wp2_with fail
            refine HP.out.mono ?_
            rintro e W2 ⟨v2, rfl, hv2, hB2⟩
            have HQ2 := Lib.hid (HQA.out.only (Only.of_below (S := []) hB2) (by simp) (by simp))
            have HPQ := Lib.hid (qi_put_room W2 (c + 1) c n _ (.int .i64 xv) HQ2.out (by rw [iV_length]; exact hroom))
            have HV2 := Lib.hid hv2
            have hcB := HBOX.out W2 hB2
            clear hv2 HP hcA0 hcA1
            go_wp2_with fail
            refine HPQ.out.mono ?_
            rintro e W3 ⟨rfl, hq3, hO3⟩
            have HR : Hid (∃ cur' : List Int, IntsC W3 v2 cur' ∧ cur'.length ≤ n ∧ QiIsQ W3 (c + 1) c n (iV cur') ∧ Only [c] wr W3) := Lib.hid ⟨cur ++ [xv], HV2.out.chan HQ2.out hO3, by simp; omega, by rw [iV_app]; exact hq3, (HOA.trans (Only.of_below hB2)).trans hO3⟩
            clear HQ2 HV2 hq3 hO3 HPQ hcB
            go_wp2
            go_meet
            case rel => exact ⟨rfl, HR.out⟩
          · have HP := Lib.hid (rput_full av cur cv n xv WA (by omega) (by omega))
            have HPQ := Lib.hid (qi_put_full WA (c + 1) c n _ (.int .i64 xv) HQA.out (by rw [iV_length]; omega))
            go_wp2_with fail
            refine HP.out.mono ?_
            rintro e W2 ⟨rfl, rfl⟩
            clear HP
            go_wp2_with fail
            refine HPQ.out.mono ?_
            rintro e W3 ⟨rfl, rfl⟩
            have HR : Hid (∃ cur' : List Int, IntsC WA (.slice av cur.length cv) cur' ∧ cur'.length ≤ n ∧ QiIsQ WA (c + 1) c n (iV cur') ∧ Only [c] wr WA) := Lib.hid ⟨cur, ⟨av, cv, rfl, HIV.out, HNV.out, hlv, hmv⟩, hcn, HQA.out, HOA⟩
            go_wp2
            go_meet
            case rel => exact ⟨rfl, HR.out⟩
        · have k1' : (kind == 1) = false := by simpa using k1
          by_cases k2 : kind = 2
          · subst k2
            cases cur with
            | nil =>
              have HP := Lib.hid (rtake_none av cv WA)
              have HPQ := Lib.hid (qi_take_none WA (c + 1) c n HQA.out)
              have HR : Hid (∃ cur' : List Int, IntsC WA (.slice av 0 cv) cur' ∧ cur'.length ≤ n ∧ QiIsQ WA (c + 1) c n (iV cur') ∧ Only [c] wr WA) := Lib.hid ⟨[], ⟨av, cv, rfl, HIV.out, HNV.out, hlv, hmv⟩, hcn, HQA.out, HOA⟩
              rw [List.length_nil]
              go_wp2_with fail
              refine HP.out.mono ?_
              rintro e W2 ⟨rfl, rfl⟩
              clear HP
              go_wp2_with fail
              refine HPQ.out.mono ?_
              rintro e W3 ⟨rfl, rfl⟩
              go_wp2
              go_meet
              case rel => exact ⟨rfl, HR.out⟩
            | cons y t =>
              obtain ⟨bv, ov, rfl, -, -⟩ := HIV.out.2.resolve_left (by simp)
              have HP := Lib.hid (rtake_some bv ov y t cv WA HIV.out hlv hmv)
              go_wp2_with fail
              refine HP.out.mono ?_
              rintro e W2 ⟨v2, rfl, hv2, hB2⟩
              have HQ2 := Lib.hid (HQA.out.only (Only.of_below (S := []) hB2) (by simp) (by simp))
              have HPQ := Lib.hid (qi_take_some W2 (c + 1) c n _ _ HQ2.out)
              have HV2 := Lib.hid hv2
              clear hv2 HP hcA0 hcA1
              go_wp2_with fail
              refine HPQ.out.mono ?_
              rintro e W3 ⟨rfl, hq3, hO3⟩
              have HR : Hid (∃ cur' : List Int, IntsC W3 v2 cur' ∧ cur'.length ≤ n ∧ QiIsQ W3 (c + 1) c n (iV cur') ∧ Only [c] wr W3) := Lib.hid ⟨t, HV2.out.chan HQ2.out hO3, by simp at hcn; omega, hq3, (HOA.trans (Only.of_below hB2)).trans hO3⟩
              clear HQ2 HV2 hq3 hO3 HPQ
              go_wp2
              go_meet
              case rel => exact ⟨rfl, HR.out⟩
          · have k2' : (kind == 2) = false := by simpa using k2
            by_cases k3 : kind = 3
            · subst k3
              have HP := Lib.hid (reven_any av cur cv WA HIV.out (by omega))
              go_wp2_with fail
              refine HP.out.mono ?_
              rintro e W2 ⟨v2, rfl, hv2, hB2⟩
              have HQ2 := Lib.hid (HQA.out.only (Only.of_below (S := []) hB2) (by simp) (by simp))
              have HPQ := Lib.hid (q_keep_even evenB W2 (c + 1) c n cur HQ2.out hcn h2 (fun x W => even_any x W))
              have hfl := List.length_filter_le evenB cur
              have hda := dropN_all evenB cur
              have HV2 := Lib.hid hv2
              obtain ⟨a2, c2, rfl, -⟩ := hv2
              obtain ⟨fl, hfe⟩ : ∃ fl, (cur.filter evenB).length = fl := ⟨_, rfl⟩
              obtain ⟨dn, hdn⟩ : ∃ dn, dropN evenB cur cur.length = dn := ⟨_, rfl⟩
              rw [hfe] at hfl hda
              rw [hdn] at hda HPQ
              rw [hfe]
              have t5 : ((dn : Int) == (cur.length : Int) - (fl : Int)) = true := by rw [beq_iff_eq]; omega
              have HFE := Lib.hid hfe
              clear HP hcA0 hcA1 hfe hdn hda
              go_wp2_with fail
              refine HPQ.out.mono ?_
              rintro e W3 ⟨rfl, hq3, hO3⟩
              have HR : Hid (∃ cur' : List Int, IntsC W3 (.slice a2 fl c2) cur' ∧ cur'.length ≤ n ∧ QiIsQ W3 (c + 1) c n (iV cur') ∧ Only [c] wr W3) := Lib.hid ⟨cur.filter evenB, by have := HV2.out.chan HQ2.out hO3; rwa [HFE.out] at this, by rw [HFE.out]; omega, hq3, (HOA.trans (Only.of_below hB2)).trans hO3⟩
              clear HQ2 HV2 hq3 hO3 HPQ
              go_wp2
              go_meet
              case rel => exact ⟨rfl, HR.out⟩
            · have k3' : (kind == 3) = false := by simpa using k3
              have HR : Hid (∃ cur' : List Int, IntsC WA (.slice av cur.length cv) cur' ∧ cur'.length ≤ n ∧ QiIsQ WA (c + 1) c n (iV cur') ∧ Only [c] wr WA) := Lib.hid ⟨cur, ⟨av, cv, rfl, HIV.out, HNV.out, hlv, hmv⟩, hcn, HQA.out, HOA⟩
              go_wp2
              go_meet
              case rel => exact ⟨rfl, HR.out⟩
      case rest =>
        obtain ⟨rfl, cur', hv', hcn', hq', hO'⟩ := hcut
        have hzc := hO'.size
        have HDC : Hid (∀ D ∈ ds, w1.heap.size ≤ D ∧ wc.heap[D]? = some (.deferred (some []))) := Lib.hid (fun D hD => ⟨(HDS.out D hD).1, hO'.get (HDS.out D hD).2 (fun hx => by
          obtain rfl : D = c := by simpa using hx
          obtain ⟨s1, r1, h1⟩ := HQ.out.2
          rw [(HDS.out _ hD).2] at h1
          simp at h1)⟩)
        have hstc := hO'.get HST.out (by simp; omega)
        have HVC := Lib.hid hv'
        have HQC := Lib.hid hq'
        have HA := Lib.hid (fun W => q_all (some ⟨c + 1, 0, none⟩) W)
        clear hv' hq' hc1 hc2 HV HQ HST HDS HBX HI
        go_wp2_with fail
        refine (HA.out _).mono ?_
        rintro e w2 ⟨rfl, rfl⟩
        obtain ⟨WL, hWL⟩ : ∃ WL, (wc.alloc (.cells #[.int .i64 0] 3)).alloc (.cells #[.pointer (some ⟨c + 1, 0, none⟩)] 33) = WL := ⟨_, rfl⟩
        have hOL : Only [] wc WL := by rw [← hWL]; exact ((Only.refl [] wc).alloc _).alloc _
        have zL : WL.heap.size = wc.heap.size + 1 + 1 := by rw [← hWL]; simp
        have hbn : WL.heap[wc.heap.size]? = some (.cells #[.int .i64 0] 3 (0, 0)) := by rw [← hWL]; (repeat (first | exact alloc_new _ _ (by simp) | refine (alloc_old _ _ (by (try simp only [World.size_alloc]); omega)).trans ?_))
        have hbp : WL.heap[wc.heap.size + 1]? = some (.cells #[.pointer (some ⟨c + 1, 0, none⟩)] 33 (0, 0)) := by rw [← hWL]; (repeat (first | exact alloc_new _ _ (by simp) | refine (alloc_old _ _ (by (try simp only [World.size_alloc]); omega)).trans ?_))
        rw [hWL, World.size_alloc]
        clear hWL
        have hQL := HQC.out.only hOL (by simp) (by simp)
        have hstL := hOL.get hstc (by simp)
        have hcz : c + 1 < wc.heap.size := HQC.out.lt.1
        clear hstc
        go_wp2
        refine (wpIn_wide (n := 8)).1 (wpIn_rangeT1 rfl (by omega) (gf := 42) (lb := #[.pointer (some ⟨wc.heap.size + 1, 0, none⟩)]) rfl trivial (enters_of Try.func42 (by kernel_rfl) rfl)
          (qall1_stops 7 (by omega) (wc.heap.size + 1) (c + 1) c n cur' WL (cell_of_one hbp) hQL hcn' h2) (Below.refl _ _) (fun _ => rfl)
          [wc.heap.size] (by simp; omega) (by simp; omega)
          (fun pre W => W.heap[wc.heap.size]? = some (.cells #[.int .i64 (pre.length : Nat)] 3 (0, 0)) ∧ QiIsQ W (c + 1) c n (iV cur') ∧ Only [wc.heap.size, c] WL W)
          (fun cx _ W => cx = .exit 3 ∧ QiIsQ W (c + 1) c n (iV cur') ∧ Only [wc.heap.size, c] WL W)
          ((AbT.row (b := wc.heap.size) (fun (pre : List (Nat × Int)) => #[.int .i64 (pre.length : Nat)]) (by simp; omega)).and ((QiIsQ.abT (by simp) (.inl (by simp))).and (AbT.only (Nat.le_refl _) (by simp))))
          (fun cx => (AbT.pure _ _ (fun _ => cx = .exit 3)).and ((QiIsQ.abT (by simp) (.inl (by simp))).and (AbT.only (Nat.le_refl _) (by simp)))) ⟨hbn, hQL, Only.refl _ _⟩
          ?fr ?assign ?body ?done ?stop)
        case assign =>
          intro r pre x W K2 _ hI hK2
          have HK2 := Lib.hid hK2
          clear hK2
          unfold ixV
          gi_wp2
          exact HK2.out W (Only.refl _ _)
        case body =>
          rintro r pre x W hr _ ⟨hn, hQ, hO2⟩ hlen hsp
          have hcn2 := cell_of_one hn
          have hfn2 := free_of_one hn
          have hst2 := hO2.get hstL (by simp; omega)
          have hcs2 := cell_of_one hst2
          have HN2 := Lib.hid hn
          have HQ2 := Lib.hid hQ
          have HO2 := Lib.hid hO2
          have hp : pre.length < 4096 := by omega
          clear hn hQ hO2 hst2 hlen hsp
          by_cases hs : (pre.length : Int) + 1 = stop
          · have t7 : ((pre.length : Int) + 1 == stop) = true := by simpa using hs
            gi_wp2
            exact ⟨(Only.refl _ _).setCell (.inl (by simp)) _, rfl, HQ2.out.only ((Only.refl [wc.heap.size] W).setCell (.inl (by simp)) _) (by simp; omega) (by simp; omega), HO2.out.setCell (.inl (by simp)) _⟩
          · have t7 : ((pre.length : Int) + 1 == stop) = false := by simpa using hs
            gi_wp2
            exact ⟨(Only.refl _ _).setCell (.inl (by simp)) _, by rw [List.length_append, List.length_singleton]; exact one_setCell HN2.out, HQ2.out.only ((Only.refl [wc.heap.size] W).setCell (.inl (by simp)) _) (by simp; omega) (by simp; omega), HO2.out.setCell (.inl (by simp)) _⟩
        case done =>
          rintro D ys W hD hys ⟨-, hQ, hO2⟩ hKD
          have hOc : Only [c] wc W := (hOL.mono (by simp)).trans' hO2 (by simp)
          have zW := hO2.size
          clear hbn hbp hQL hstL hO2 hys
          have HVW := Lib.hid (HVC.out.chan HQC.out hOc)
          obtain ⟨a9, c9, rfl, hI9, -⟩ := HVW.out
          have HSM := Lib.hid (q_same W (c + 1) c n cur' a9 c9 hQ hcn' h2 hI9)
          have HQW := Lib.hid hQ
          have HKD := Lib.hid hKD
          clear hQ hKD hI9
          go_wp2_with fail
          refine HSM.out.mono ?_
          rintro e W3 ⟨rfl, hq3, hO3⟩
          have HR : Hid (IntsC W3 (.slice a9 cur'.length c9) cur' ∧ cur'.length ≤ n ∧ QiIsQ W3 (c + 1) c n (iV cur') ∧ Only [c] w1 W3 ∧ (D :: ds).Nodup ∧ ∀ E ∈ D :: ds, w1.heap.size ≤ E ∧ W3.heap[E]? = some (.deferred (some []))) := Lib.hid ⟨HVW.out.chan HQW.out hO3, hcn', hq3, ((hO.trans hO').trans hOc).trans hO3, List.nodup_cons.2 ⟨fun hm => by have := (Array.getElem?_eq_some_iff.1 (HDC.out D hm).2).1; omega, hnd⟩, fun E hE => by
            obtain ⟨sq, rq, hch⟩ := HQW.out.2
            have hne : ∀ X, W.heap[X]? = some (.deferred (some [])) → X ∉ [c] := fun X hX hm => by
              obtain rfl : X = c := by simpa using hm
              rw [hch] at hX
              simp at hX
            rcases List.mem_cons.1 hE with e | hm
            · rw [e]
              exact ⟨by have := hO'.size; have := hO.size; omega, hO3.get HKD.out (hne D HKD.out)⟩
            · have h4 := hOc.get (HDC.out E hm).2 (fun hx => by
                obtain rfl : E = c := by simpa using hx
                obtain ⟨s1, r1, h1⟩ := HQC.out.2
                rw [(HDC.out _ hm).2] at h1
                simp at h1)
              exact ⟨(HDC.out E hm).1, hO3.get h4 (hne E h4)⟩⟩
          clear hq3 hO3 HSM HQW HVW HKD
          go_wp2
          refine HK.out _ _ (Handed.intro (l.length - (k + 1)) (by omega) (HJ.out _ _ _ ?_))
          exact ⟨_, _, _, _, _, _, _, _, _, _, _, _, _, _, _, _, _, _, _, _, _, _, _, _, _, _, _, _, _, _, _, _, _, _, _, _, _, _, _, _, _, _, _, _, _, _, _, _, _, _, _, _, _, _, _, _, _, _, _, _, _, _, _, _, _, _, _, _, _, _, _, _, _, _, _, _, _, _, _, _, D :: ds, rfl, k + 1, cur', by omega, rfl, by go_num, HR.out⟩
        case stop =>
          rintro D cx pre W hD - ⟨rfl, hQ, hO2⟩ hKD
          have hOc : Only [c] wc W := (hOL.mono (by simp)).trans' hO2 (by simp)
          have zW := hO2.size
          clear hbn hbp hQL hstL hO2
          refine wpIn_wide.2 ?_
          have HVW := Lib.hid (HVC.out.chan HQC.out hOc)
          obtain ⟨a9, c9, rfl, hI9, -⟩ := HVW.out
          have HSM := Lib.hid (q_same W (c + 1) c n cur' a9 c9 hQ hcn' h2 hI9)
          have HQW := Lib.hid hQ
          have HKD := Lib.hid hKD
          clear hQ hKD hI9
          go_wp2_with fail
          refine HSM.out.mono ?_
          rintro e W3 ⟨rfl, hq3, hO3⟩
          have HR : Hid (IntsC W3 (.slice a9 cur'.length c9) cur' ∧ cur'.length ≤ n ∧ QiIsQ W3 (c + 1) c n (iV cur') ∧ Only [c] w1 W3 ∧ (D :: ds).Nodup ∧ ∀ E ∈ D :: ds, w1.heap.size ≤ E ∧ W3.heap[E]? = some (.deferred (some []))) := Lib.hid ⟨HVW.out.chan HQW.out hO3, hcn', hq3, ((hO.trans hO').trans hOc).trans hO3, List.nodup_cons.2 ⟨fun hm => by have := (Array.getElem?_eq_some_iff.1 (HDC.out D hm).2).1; omega, hnd⟩, fun E hE => by
            obtain ⟨sq, rq, hch⟩ := HQW.out.2
            have hne : ∀ X, W.heap[X]? = some (.deferred (some [])) → X ∉ [c] := fun X hX hm => by
              obtain rfl : X = c := by simpa using hm
              rw [hch] at hX
              simp at hX
            rcases List.mem_cons.1 hE with e | hm
            · rw [e]
              exact ⟨by have := hO'.size; have := hO.size; omega, hO3.get HKD.out (hne D HKD.out)⟩
            · have h4 := hOc.get (HDC.out E hm).2 (fun hx => by
                obtain rfl : E = c := by simpa using hx
                obtain ⟨s1, r1, h1⟩ := HQC.out.2
                rw [(HDC.out _ hm).2] at h1
                simp at h1)
              exact ⟨(HDC.out E hm).1, hO3.get h4 (hne E h4)⟩⟩
          clear hq3 hO3 HSM HQW HVW HKD
          go_wp2
          refine HK.out _ _ (Handed.intro (l.length - (k + 1)) (by omega) (HJ.out _ _ _ ?_))
          exact ⟨_, _, _, _, _, _, _, _, _, _, _, _, _, _, _, _, _, _, _, _, _, _, _, _, _, _, _, _, _, _, _, _, _, _, _, _, _, _, _, _, _, _, _, _, _, _, _, _, _, _, _, _, _, _, _, _, _, _, _, _, _, _, _, _, _, _, _, _, _, _, _, _, _, _, _, _, _, _, _, _, D :: ds, rfl, k + 1, cur', by omega, rfl, by go_num, HR.out⟩
    · obtain rfl : k = l.length := by omega
      go_wp2
      refine leave_marks (v := .bool true) ds _ hnd (fun D hD => (HDS.out D hD).2) ?_
      intro W' hO'
      have hz1 := hBW.size
      exact ⟨by simp [results, Try.results5, go_sem], rfl, hbx.trans (hO'.below (fun D hD => by have := (HDS.out D hD).1; omega) hbx.size)⟩
set_option maxRecDepth 100000 in
theorem steps2_of_fits {w : World} {a : Option Addr} {len cp : Nat} (h : Fits Try.prog w 6 41 [.slice a len cp]) : ∃ xs : List (Int × Int), xs.length = len ∧ Steps2 w a xs := by
  have k2 : Try.prog.cellsOf 43 = 2 := by kernel_rfl
  have k1 : Try.prog.cellsOf 3 = 1 := by kernel_rfl
  obtain ⟨-, -, -, hr⟩ := row_of_fits (d := 5) (e := 43) Try.underlying41 (by omega) h
  rcases hr with h0 | ⟨b, o, rfl, hlt, hi⟩
  · exact ⟨[], by simp [h0], .inl rfl⟩
  · obtain ⟨xs, hx1, hx2⟩ := list_of_forall (Q := fun i (x : Int × Int) => w.cell? ⟨b, o + i * 2, none⟩ = some (.int .i64 x.1) ∧ w.cell? ⟨b, o + i * 2 + 1, none⟩ = some (.int .i64 x.2) ∧ In64 x.1 ∧ In64 x.2) len fun i hil => by
      obtain ⟨cs, h1, h2, h3⟩ := hi i hil
      rw [k2] at h1 h2
      obtain ⟨-, h5⟩ := fits_struct Try.underlying43 h3
      have f0 := h5 _ (List.mem_cons_self ..)
      have f1 := h5 _ (List.mem_cons_of_mem _ (List.mem_cons_self ..))
      obtain ⟨n0, e0, w0⟩ := fits_int Try.underlying3 f0
      obtain ⟨n1, e1, w1⟩ := fits_int Try.underlying3 f1
      simp [Lit.wf, IntKind.min, IntKind.max, IntKind.signed, IntKind.bits] at w0 w1
      rw [k1] at e0 e1
      match cs, h1, e0, e1, h2 with
      | [u0, u1], _, e0, e1, h2 =>
        simp at e0 e1
        subst e0 e1
        have c0 := h2 0 (by omega)
        have c1 := h2 1 (by omega)
        exact ⟨(n0, n1), by simpa using c0, by simpa using c1, ⟨by omega, by omega⟩, by omega, by omega⟩
    exact ⟨xs, hx1, .inr ⟨b, o, rfl, hlt, hx2⟩⟩
set_option maxRecDepth 100000 in
set_option maxHeartbeats 2000000 in
theorem q_plays_walk (room : Int) (a : Option Addr) (l : List (Int × Int)) (cp : Nat) (stop : Int) (w : World) (hI : Steps2 w a l) :
    Calls Try.prog 5 #[.int .i64 room, .slice a l.length cp, .int .i64 stop] w fun e w' => e = .returned (.bool true) ∧ Below w.heap.size w w' := by
  have hbB := (Below.refl w.heap.size w).alloc (Nat.le_refl _) (.cells #[.int .i64 stop] 3)
  by_cases h1 : 1 ≤ room ∧ room ≤ 4096
  · obtain ⟨n, rfl⟩ : ∃ n : Nat, room = n := ⟨room.toNat, by omega⟩
    by_cases h2 : l.length ≤ 80
    · exact q_plays_core n (by omega) (by omega) a l cp stop w hI h2
    · have HA := Lib.hid (fun W => q_anchor W)
      have HN := Lib.hid (fun W => qi_new n W (by omega) (by omega))
      have t1 : decide ((n : Int) < 1) = false := decide_eq_false (by omega)
      have t2 : decide (4096 < (n : Int)) = false := decide_eq_false (by omega)
      have t0 : decide (80 < (l.length : Int)) = true := decide_eq_true (by omega)
      clear hI h1
      go_enter Try.func5, Try.ntmps5
      go_wp2_with fail
      refine (HA.out _).mono ?_
      rintro e w0 ⟨rfl, hB0⟩
      have hb0 := hbB.trans (hB0.mono hbB.size)
      go_wp2_with fail
      refine (HN.out _).mono ?_
      rintro e w1 ⟨rfl, -, hB1, -⟩
      have hBW := hb0.trans (hB1.mono hb0.size)
      go_wp2
      go_ret
      exact ⟨rfl, hBW⟩
  · have HA := Lib.hid (fun W => q_anchor W)
    have HN := Lib.hid (fun W => qi_new_no room W (by omega))
    clear hI
    by_cases h3 : room < 1
    · have t1 : decide (room < 1) = true := decide_eq_true h3
      clear h1
      go_enter Try.func5, Try.ntmps5
      go_wp2_with fail
      refine (HA.out _).mono ?_
      rintro e w0 ⟨rfl, hB0⟩
      have hb0 := hbB.trans (hB0.mono hbB.size)
      go_wp2_with fail
      refine (HN.out _).mono ?_
      rintro e w1 ⟨rfl, rfl⟩
      go_wp2
      go_ret
      exact ⟨rfl, hb0⟩
    · have t1 : decide (room < 1) = false := decide_eq_false h3
      have t2 : decide (4096 < room) = true := decide_eq_true (by omega)
      clear h1
      go_enter Try.func5, Try.ntmps5
      go_wp2_with fail
      refine (HA.out _).mono ?_
      rintro e w0 ⟨rfl, hB0⟩
      have hb0 := hbB.trans (hB0.mono hbB.size)
      go_wp2_with fail
      refine (HN.out _).mono ?_
      rintro e w1 ⟨rfl, rfl⟩
      go_wp2
      go_ret
      exact ⟨rfl, hb0⟩
end Go.Proofs.Ytogijlpclceanaa
