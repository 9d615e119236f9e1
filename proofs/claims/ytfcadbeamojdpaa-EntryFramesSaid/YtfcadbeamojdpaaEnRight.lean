/- Proved here: contracts of the entry's counts and Right. -/
import Derived.Test.YtfcadbeamojdpaaEn
import Derived.Test.YtfcadbeamojdpaaAsked
namespace Go.Proofs.Ytfcadbeamojdpaa
open Go.RowKit Go.Rv
set_option linter.unusedVariables false
set_option maxRecDepth 100000 in
set_option maxHeartbeats 4000000 in
theorem ecounts_core (e : En.E) (ib im bz r : Bool) (mx : Int) (w : World) (hl : e.bytes.length = 32)
    (HB' : ∀ W, Calls Try.prog 52 #[.int .i64 e.count, .int .i64 1, .int .i64 4] W fun x w' => x = .returned (.bool ib) ∧ W = w')
    (HM' : ∀ W, Calls Try.prog 52 #[.int .i64 e.many, .int .i64 1, .int .i64 mx] W fun x w' => x = .returned (.bool im) ∧ W = w')
    (hmx : mx = 256 - e.block) (hb0 : 0 ≤ e.block) (hb1 : e.block ≤ 255)
    (HZ' : ∀ W, (Op.equalIn 10000 53 (.agg (byteCells e.bytes)) (.agg (byteCells (List.replicate 32 0)))).run Try.prog W = .ok bz W)
    (hr : ((e.kind == 1) = true ∧ ib = false ∧ r = false) ∨ ((e.kind == 1) = true ∧ ib = true ∧ r = (e.many == 0)) ∨
      ((e.kind == 1) = false ∧ (e.kind == 2) = true ∧ (e.count == 1) = false ∧ r = false) ∨ ((e.kind == 1) = false ∧ (e.kind == 2) = true ∧ (e.count == 1) = true ∧ im = false ∧ r = false) ∨ ((e.kind == 1) = false ∧ (e.kind == 2) = true ∧ (e.count == 1) = true ∧ im = true ∧ r = bz) ∨
      ((e.kind == 1) = false ∧ (e.kind == 2) = false ∧ (e.kind == 3) = true ∧ (e.count == 1) = false ∧ r = false) ∨ ((e.kind == 1) = false ∧ (e.kind == 2) = false ∧ (e.kind == 3) = true ∧ (e.count == 1) = true ∧ r = (e.many == 0)) ∨ ((e.kind == 1) = false ∧ (e.kind == 2) = false ∧ (e.kind == 3) = false ∧ r = false)) :
    Calls Try.prog 53 #[.agg (EC e)] w fun x w' => x = .returned (.bool r) ∧ Below w.heap.size w w' := by
  have hg := heap_alloc_new w (.cells (EC e) 55)
  obtain ⟨c0, c1, c2, c3, c4, c5⟩ := ent_cells hg
  have hrg := ent_range hg
  have hB : Below w.heap.size w (w.alloc (.cells (EC e) 55)) := (Below.refl _ _).alloc (Nat.le_refl _) _
  have hib : (Try.prog.info? 53).map (·.size) = some (byteCells e.bytes).toList.length := by rw [Array.length_toList, size_byteCells, hl]; exact (zero_of_info Try.infoBlock).2
  have HIB := Lib.hid hib
  have HRG := Lib.hid hrg
  have hzb := (zero_of_info Try.infoBlock).1
  have HB := Lib.hid HB'
  have HM := Lib.hid HM'
  have HZ := Lib.hid HZ'
  have HR := Lib.hid hr
  have HX := Lib.hid hmx
  generalize EC e = C at *
  clear hg hr HB' HM' HZ' hmx hib hrg hl
  obtain ⟨BC, hBC⟩ : ∃ b, byteCells e.bytes = b := ⟨_, rfl⟩
  obtain ⟨ZC, hZC⟩ : ∃ b, byteCells (List.replicate 32 0) = b := ⟨_, rfl⟩
  rw [hBC] at HIB HRG HZ
  rw [hZC] at HZ hzb
  clear hBC hZC
  rcases HR.out with ⟨t1, rfl, rfl⟩ | ⟨t1, rfl, hr⟩ | ⟨t1, t2, t3, rfl⟩ | ⟨t1, t2, t3, rfl, rfl⟩ | ⟨t1, t2, t3, rfl, hr⟩ | ⟨t1, t2, t3, t4, rfl⟩ | ⟨t1, t2, t3, t4, hr⟩ | ⟨t1, t2, t3, rfl⟩
  · clear HR
    go_enter Try.func53, Try.ntmps53
    go_wp2_with fail
    refine (HB.out _).mono ?_
    rintro x w' ⟨rfl, rfl⟩
    go_wp2
    go_ret
    exact ⟨rfl, hB⟩
  · clear HR
    have HE := Lib.hid hr
    clear hr
    go_enter Try.func53, Try.ntmps53
    go_wp2_with fail
    refine (HB.out _).mono ?_
    rintro x w' ⟨rfl, rfl⟩
    go_wp2
    go_ret
    exact ⟨by rw [HE.out]; rfl, hB⟩
  · clear HR
    go_enter Try.func53, Try.ntmps53
    go_wp2
    go_ret
    exact ⟨rfl, hB⟩
  · clear HR
    go_enter Try.func53, Try.ntmps53
    go_wp2_with fail
    rw [← HX.out]
    refine (HM.out _).mono ?_
    rintro x w' ⟨rfl, rfl⟩
    go_wp2
    go_ret
    exact ⟨rfl, hB⟩
  · clear HR
    have HE := Lib.hid hr
    clear hr
    go_enter Try.func53, Try.ntmps53
    go_wp2_with fail
    rw [← HX.out]
    refine (HM.out _).mono ?_
    rintro x w' ⟨rfl, rfl⟩
    go_wp2_with (first | (refine wpList_load_mid_asked (by rfl) 53 _ rfl w.heap.size 6 rfl BC.toList _ HRG.out Try.underlying53 rfl HIB.out ?_) | (refine wpList_eql_asked (by rfl) 53 53 _ _ rfl BC ZC rfl rfl (by kernel_rfl) bz HZ.out ?_))
    go_ret
    exact ⟨by rw [HE.out]; rfl, hB⟩
  · clear HR
    go_enter Try.func53, Try.ntmps53
    go_wp2
    go_ret
    exact ⟨rfl, hB⟩
  · clear HR
    have HE := Lib.hid hr
    clear hr
    go_enter Try.func53, Try.ntmps53
    go_wp2
    go_ret
    exact ⟨by rw [HE.out]; rfl, hB⟩
  · clear HR
    go_enter Try.func53, Try.ntmps53
    go_wp2
    go_ret
    exact ⟨rfl, hB⟩
theorem ecounts_any (e : En.E) (w : World) (hb : EBody e) (hb0 : 0 ≤ e.block) (hb1 : e.block ≤ 255) :
    Calls Try.prog 53 #[.agg (EC e)] w fun x w' => x = .returned (.bool (En.counts e)) ∧ Below w.heap.size w w' := by
  refine ecounts_core e (En.inB e.count 1 4) (En.inB e.many 1 (256 - e.block)) (decide (e.bytes = List.replicate 32 0)) _ (256 - e.block) w hb.1 (fun W => ewithin_any _ _ _ W) (fun W => ewithin_any _ _ _ W) rfl hb0 hb1 (fun W => eq_block _ _ hb.1 (by simp) hb.2 (by simp) _ (by simp) W) ?_
  unfold En.counts
  cases h1 : (e.kind == 1)
  · cases h2 : (e.kind == 2)
    · cases h3 : (e.kind == 3)
      · exact .inr (.inr (.inr (.inr (.inr (.inr (.inr ⟨rfl, rfl, rfl, by simp⟩))))))
      · cases h4 : (e.count == 1)
        · exact .inr (.inr (.inr (.inr (.inr (.inl ⟨rfl, rfl, rfl, rfl, by simp⟩)))))
        · exact .inr (.inr (.inr (.inr (.inr (.inr (.inl ⟨rfl, rfl, rfl, rfl, by simp⟩))))))
    · cases h3 : (e.count == 1)
      · exact .inr (.inr (.inl ⟨rfl, rfl, rfl, by simp⟩))
      · cases h4 : En.inB e.many 1 (256 - e.block)
        · exact .inr (.inr (.inr (.inl ⟨rfl, rfl, rfl, rfl, by simp⟩)))
        · exact .inr (.inr (.inr (.inr (.inl ⟨rfl, rfl, rfl, rfl, by simp⟩))))
  · cases h2 : En.inB e.count 1 4
    · exact .inl ⟨rfl, rfl, by simp⟩
    · exact .inr (.inl ⟨rfl, rfl, by simp⟩)
set_option maxRecDepth 100000 in
set_option maxHeartbeats 4000000 in
theorem eright_any (e : En.E) (w : World) (hb : EBody e) :
    Calls Try.prog 29 #[.agg (EC e)] w fun x w' => x = .returned (.bool (En.right e)) ∧ Below w.heap.size w w' := by
  have hg := heap_alloc_new w (.cells (EC e) 55)
  obtain ⟨c0, c1, c2, c3, c4, c5⟩ := ent_cells hg
  have hB : Below w.heap.size w (w.alloc (.cells (EC e) 55)) := (Below.refl _ _).alloc (Nat.le_refl _) _
  have HRR : Hid (En.right e = (En.inB e.first 0 281474976710655 && (En.inB e.block 0 255 && (En.inB e.mate 0 65535 && En.counts e)))) := Lib.hid rfl
  have H0 := Lib.hid (fun W => ewithin_any e.first 0 281474976710655 W)
  have H1 := Lib.hid (fun W => ewithin_any e.block 0 255 W)
  have H2 := Lib.hid (fun W => ewithin_any e.mate 0 65535 W)
  have H3 := Lib.hid (fun W (h : En.inB e.block 0 255 = true) => ecounts_any e W hb (En.inB_iff.1 h).1 (En.inB_iff.1 h).2)
  have HIE := Lib.hid (size_ent hb.1)
  have HG := Lib.hid hg
  generalize En.inB e.first 0 281474976710655 = b0 at *
  generalize En.inB e.block 0 255 = b1 at *
  generalize En.inB e.mate 0 65535 = b2 at *
  generalize En.counts e = b3 at *
  generalize EC e = C at *
  clear hg
  go_enter Try.func29, Try.ntmps29
  go_wp2_with fail
  refine (H0.out _).mono ?_
  rintro x w' ⟨rfl, rfl⟩
  cases b0
  case false =>
    go_wp2
    go_ret
    exact ⟨by rw [HRR.out]; rfl, hB⟩
  go_wp2_with fail
  refine (H1.out _).mono ?_
  rintro x w' ⟨rfl, rfl⟩
  cases b1
  case false =>
    go_wp2
    go_ret
    exact ⟨by rw [HRR.out]; rfl, hB⟩
  go_wp2_with fail
  refine (H2.out _).mono ?_
  rintro x w' ⟨rfl, rfl⟩
  cases b2
  case false =>
    go_wp2
    go_ret
    exact ⟨by rw [HRR.out]; rfl, hB⟩
  go_wp2_with (refine wpList_load_row_asked (by rfl) 55 _ rfl w.heap.size rfl 55 _ _ _ HG.out Try.underlying55 rfl HIE.out ?_)
  refine (H3.out _ (by first | rfl | trivial)).mono ?_
  rintro x w' ⟨rfl, hB1⟩
  go_wp2
  go_ret
  exact ⟨by rw [HRR.out]; rfl, hB.trans (hB1.mono hB.size)⟩
end Go.Proofs.Ytfcadbeamojdpaa
