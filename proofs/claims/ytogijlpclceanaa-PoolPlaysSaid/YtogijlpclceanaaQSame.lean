/- Proved here: a queue that holds a list is told to be that list (the law's 'same'). -/
import Derived.Test.YtogijlpclceanaaQList
import Derived.Test.YtogijlpclceanaaKitI
import Derived.Test.YtogijlpclceanaaConf2
namespace Go.Proofs.Ytogijlpclceanaa
open Go.Conc Go.RowKit Go.Rv Go.Shelf
set_option linter.unusedVariables false
attribute [local go_sem] Oper.semAt_some
theorem q_len (w : World) (q c cap : Nat) (l : List Int) (h : QiIsQ w q c cap (iV l)) :
    Calls Try.prog 18 #[.pointer (some ⟨q, 0, none⟩)] w fun e w' => e = .returned (.int .i64 (l.length : Nat)) ∧ w = w' := by
  have := qi_len w q c cap (iV l) h
  rwa [iV_length] at this
theorem cell_ne_chan {w : World} {b o c cap s r : Nat} {buf : Array Value} {cl tm : Bool} {v : Value} (h : w.cell? ⟨b, o, none⟩ = some v) (hc : w.heap[c]? = some (.chan cap buf cl s r tm)) : b ≠ c := by
  rintro rfl
  unfold World.cell? at h
  rw [hc] at h
  simp at h
set_option maxRecDepth 100000 in
set_option maxHeartbeats 4000000 in
theorem q_same (w : World) (q c cap : Nat) (l : List Int) (a : Option Addr) (cp : Nat) (h : QiIsQ w q c cap (iV l)) (hl : l.length ≤ cap) (hc : cap ≤ 4096) (hI : Ints w a l) :
    Calls Try.prog 25 #[.pointer (some ⟨q, 0, none⟩), .slice a l.length cp, .int .i64 (cap : Nat)] w fun e w' => e = .returned (.bool true) ∧ QiIsQ w' q c cap (iV l) ∧ Only [c] w w' := by
  have HA := Lib.hid (fun W => q_all (some ⟨q, 0, none⟩) W)
  have hlt := h.lt
  have HQ := Lib.hid h
  have HI := Lib.hid hI
  clear h hI
  refine calls_of_marks Try.func25 rfl ?_
  simp only [Try.ntmps25, List.size_toArray, List.length_cons, List.length_nil, Nat.reduceAdd, Nat.reduceSub, Array.replicate_succ, Array.replicate_zero, List.push_toArray, List.append_toArray, List.nil_append, List.cons_append]
  go_wp2_with fail
  refine (HA.out _).mono ?_
  rintro e w1 ⟨rfl, rfl⟩
  obtain ⟨W0, hW0⟩ : ∃ W0, (((w.alloc (.cells #[.slice a l.length cp] 32)).alloc (.cells #[.bool false] 4)).alloc (.cells #[.int .i64 0] 3)).alloc (.cells #[.pointer (some ⟨q, 0, none⟩)] 33) = W0 := ⟨_, rfl⟩
  have hO0 : Only [] w W0 := by rw [← hW0]; exact ((((Only.refl [] w).alloc _).alloc _).alloc _).alloc _
  have z0 : W0.heap.size = w.heap.size + 1 + 1 + 1 + 1 := by rw [← hW0]; simp
  have hb0 : W0.heap[w.heap.size]? = some (.cells #[.slice a l.length cp] 32 (0, 0)) := by rw [← hW0]; (repeat (first | exact alloc_new _ _ (by simp) | refine (alloc_old _ _ (by (try simp only [World.size_alloc]); omega)).trans ?_))
  have hb1 : W0.heap[w.heap.size + 1]? = some (.cells #[.bool false] 4 (0, 0)) := by rw [← hW0]; (repeat (first | exact alloc_new _ _ (by simp) | refine (alloc_old _ _ (by (try simp only [World.size_alloc]); omega)).trans ?_))
  have hb2 : W0.heap[w.heap.size + 1 + 1]? = some (.cells #[.int .i64 0] 3 (0, 0)) := by rw [← hW0]; (repeat (first | exact alloc_new _ _ (by simp) | refine (alloc_old _ _ (by (try simp only [World.size_alloc]); omega)).trans ?_))
  have hb3 : W0.heap[w.heap.size + 1 + 1 + 1]? = some (.cells #[.pointer (some ⟨q, 0, none⟩)] 33 (0, 0)) := by rw [← hW0]; (repeat (first | exact alloc_new _ _ (by simp) | refine (alloc_old _ _ (by (try simp only [World.size_alloc]); omega)).trans ?_))
  have hsz : (((w.alloc (.cells #[.slice a l.length cp] 32)).alloc (.cells #[.bool false] 4)).alloc (.cells #[.int .i64 0] 3)).heap.size = w.heap.size + 1 + 1 + 1 := by simp
  rw [hW0, hsz]
  clear hW0 hsz
  obtain ⟨hq1, hc1, hqc⟩ := hlt
  have hQ0 : QiIsQ W0 q c cap (iV l) := HQ.out.only hO0 (by simp) (by simp)
  go_wp2
  refine (wpIn_wide (n := 8)).1 (wpIn_rangeT rfl (by omega) (gf := 42) (lb := #[.pointer (some ⟨w.heap.size + 1 + 1 + 1, 0, none⟩)]) rfl trivial (enters_of Try.func42 (by kernel_rfl) rfl)
    (qall1_stops 7 (by omega) (w.heap.size + 1 + 1 + 1) q c cap l W0 (cell_of_one hb3) hQ0 hl hc) (Below.refl _ _) (fun _ => rfl)
    [w.heap.size + 1 + 1] (by simp; omega) (by simp; omega)
    (fun pre W => W.heap[w.heap.size + 1 + 1]? = some (.cells #[.int .i64 (pre.length : Nat)] 3 (0, 0)) ∧ QiIsQ W q c cap (iV l) ∧ Only [w.heap.size + 1 + 1, c] W0 W)
    (fun _ _ _ => False)
    ((AbT.row (b := w.heap.size + 1 + 1) (fun (pre : List (Nat × Int)) => #[.int .i64 (pre.length : Nat)]) (by simp; omega)).and ((QiIsQ.abT (by simp; omega) (.inl (by simp))).and (AbT.only (Nat.le_refl _) (by simp))))
    (fun _ => AbT.pure _ _ _) ⟨hb2, hQ0, Only.refl _ _⟩
    (fun x a' _ => a' = { tmps := #[.pointer (some ⟨q, 0, none⟩), .slice a l.length cp, .int .i64 (cap : Nat), undef, .pointer (some ⟨w.heap.size, 0, none⟩), undef, .pointer (some ⟨w.heap.size + 1, 0, none⟩), .pointer (some ⟨w.heap.size + 1 + 1, 0, none⟩), .int .i64 (x.1 : Nat), .int .i64 x.2, .pointer (some ⟨q, 0, none⟩), .func (.func 42) #[] #[.pointer (some ⟨w.heap.size + 1 + 1 + 1, 0, none⟩)], .int .i64 (x.1 : Nat), .int .i64 x.2, undef, undef, undef, undef, undef, undef, undef, undef, undef, undef, undef, undef, undef, undef, undef, undef, undef, undef, undef, undef, undef, undef, undef, undef, undef, undef, undef, undef, undef, undef, undef, undef, undef, undef, undef], defers := [] })
    (fun _ _ => AbT.pure _ _ _) ?assign ?body ?done ?stop)
  case assign =>
    intro r pre x W K _ hI hK
    have hK' := hK _ W (Only.refl _ _) rfl
    unfold ixV
    gi_wp2
    exact hK'
  case body =>
    rintro r pre ⟨k, y⟩ a' W hr _ ⟨hn, hQ, hO⟩ rfl hlen hsp
    obtain ⟨e1, hy, hlt⟩ := en_next hsp
    simp only at e1 hy
    subst e1
    have hc2 := cell_of_one hn
    have hf2 := free_of_one hn
    have hbox := hO.get hb0 (by simp; omega)
    have hc0 := cell_of_one hbox
    obtain ⟨b, o, z, rfl, hbl, hcz, -, -, hz⟩ := HI.out.at hlt
    rw [hz] at hy
    obtain rfl : z = y := by simpa using hy
    obtain ⟨sq, rq, hch⟩ := HQ.out.2
    have hbc := cell_ne_chan hcz hch
    have hcW := (World.cell?_of_block (a := ⟨b, o + pre.length, none⟩) ((hO.block b (by omega) (by simp; omega)).trans (hO0.block b hbl (by simp)))).trans hcz
    have HN := Lib.hid hn
    have HQ := Lib.hid hQ
    have HO := Lib.hid hO
    clear hn hQ hO hbox hz hy hcz hch
    gi_wp2
    exact ⟨(Only.refl _ _).setCell (.inl (by simp)) _, by rw [List.length_append, List.length_singleton]; exact one_setCell HN.out, HQ.out.only ((Only.refl [w.heap.size + 1 + 1] W).setCell (.inl (by simp)) _) (by simp; omega) (by simp; omega), HO.out.setCell (.inl (by simp)) _⟩
  case done =>
    rintro D ys W hD rfl ⟨hn, hQ, hO⟩ hK
    rw [en_length] at hn
    have HBX := Lib.hid (hO.get hb0 (by simp; omega))
    have HBR := Lib.hid (hO.get hb1 (by simp; omega))
    have hOw : Only [c] w W := (hO0.mono (by simp)).trans' hO (by simp; omega)
    have HN := Lib.hid hn
    have HQ := Lib.hid hQ
    have HK := Lib.hid hK
    have zW := hO.size
    have hDW : D < W.heap.size := (Array.getElem?_eq_some_iff.1 hK).1
    clear hn hQ hO hK hb0 hb1 hb2 hb3 hQ0 HI hO0
    go_wp2
    refine wp_region_conf2 16 [Fact.eq ?rax0, Fact.eq ?rax1, Fact.eq ?rax2, Fact.eq ?rax3, Fact.eq ?rax4, Fact.eq ?rax5, Fact.eq ?rax6, Fact.eq ?rax7, Fact.eq ?rax8, Fact.eq ?rax9, Fact.eq ?rax10, Fact.eq ?rax11, Fact.eq ?rax12, Fact.eq ?rax13, Fact.eq ?rax14, Fact.eq ?rax15] ?raA (by kernel_rfl) (by kernel_rfl) ?rahA ?raho ?rahend
    case rahA =>
      intro vv
      simp only [putRules, Nat.reduceAdd]
      rfl
    case raho =>
      refine ⟨?_, ?_, ?_, ?_, ?_, ?_, ?_, ?_, ?_, ?_, ?_, ?_, ?_, ?_, ?_, ?_, trivial⟩
      · intro vv W K hB hd HK
        simp only [confRules] at HK
        clear hd
        have hT := cell_of_one ((hB.block (w.heap.size + 1 + 1) (by omega)).trans HN.out)
        go_wp2
        refine HK.out _ _ (Below.refl _ _) ?_
        rfl
      · intro vv W K hB hd HK
        simp only [confRules] at HK
        clear hd
        have hT := cell_of_one ((hB.block (w.heap.size) (by omega)).trans HBX.out)
        go_wp2
        refine HK.out _ _ (Below.refl _ _) ?_
        rfl
      · intro vv W K hB hd HK
        simp only [confRules] at hd HK
        have h1 := hd
        clear hd
        simp only [h1] at HK ⊢
        clear h1
        go_wp2
        refine HK.out _ _ (Below.refl _ _) ?_
        rfl
      · intro vv W K hB hd HK
        simp only [confRules] at hd HK
        obtain ⟨h0, h2⟩ := hd
        simp only [h0, h2] at HK ⊢
        clear h0 h2
        go_wp2
        refine HK.out _ _ (Below.refl _ _) ?_
        rfl
      · intro vv W K hB hd HK
        simp only [confRules] at hd HK
        have h3 := hd
        clear hd
        simp only [h3] at HK ⊢
        clear h3
        go_wp2
        refine HK.out _ _ (Below.refl _ _) ?_
        rfl
      · intro vv W K hB hd HK
        simp only [confRules] at hd HK
        have h4 := hd
        clear hd
        simp only [h4] at HK ⊢
        clear h4
        refine wpList_guard_yes (by rfl) ?_
        go_wp2
        refine HK.out _ _ (Below.refl _ _) ?_
        rfl
      · intro vv W K hB hd HK
        simp only [confRules] at hd HK
        obtain ⟨h5, h4, _⟩ := hd
        simp only [h5, h4] at HK ⊢
        clear h5 h4
        refine wpList_guard_yes (by rfl) ?_
        have hQ' := HQ.out.only (Only.of_below (S := []) hB) (by simp) (by simp)
        go_wp2_with (refine (q_len _ q c cap _ hQ').mono ?_; rintro e w9 ⟨rfl, rfl⟩)
        refine HK.out _ _ (Below.refl _ _) ?_
        rfl
      · intro vv W K hB hd HK
        simp only [confRules] at hd HK
        have h4 := hd
        clear hd
        simp only [h4] at HK ⊢
        clear h4
        refine wpList_guard_yes (by rfl) ?_
        have hT := cell_of_one ((hB.block (w.heap.size + 1 + 1) (by omega)).trans HN.out)
        go_wp2
        refine HK.out _ _ (Below.refl _ _) ?_
        rfl
      · intro vv W K hB hd HK
        simp only [confRules] at hd HK
        obtain ⟨h6, h7, h4⟩ := hd
        simp only [h6, h7, h4] at HK ⊢
        clear h6 h7 h4
        refine wpList_guard_yes (by rfl) ?_
        go_wp2
        refine HK.out _ _ (Below.refl _ _) ?_
        rfl
      · intro vv W K hB hd HK
        simp only [confRules] at hd HK
        obtain ⟨h4, h8⟩ := hd
        simp only [h4, h8] at HK ⊢
        clear h4 h8
        go_wp2
        refine HK.out _ _ (Below.refl _ _) ?_
        rfl
      · intro vv W K hB hd HK
        simp only [confRules] at hd HK
        obtain ⟨h9, h6⟩ := hd
        simp only [h9, h6] at HK ⊢
        clear h9 h6
        go_wp2
        refine HK.out _ _ (Below.refl _ _) ?_
        rfl
      · intro vv W K hB hd HK
        simp only [confRules] at hd HK
        have h10 := hd
        clear hd
        simp only [h10] at HK ⊢
        clear h10
        refine wpList_guard_yes (by rfl) ?_
        go_wp2
        refine HK.out _ _ (Below.refl _ _) ?_
        rfl
      · intro vv W K hB hd HK
        simp only [confRules] at hd HK
        obtain ⟨h11, h10, _⟩ := hd
        simp only [h11, h10] at HK ⊢
        clear h11 h10
        refine wpList_guard_yes (by rfl) ?_
        have hQ' := HQ.out.only (Only.of_below (S := []) hB) (by simp) (by simp)
        go_wp2_with (refine (q_room _ q c cap _ hQ').mono ?_; rintro e w9 ⟨rfl, rfl⟩)
        refine HK.out _ _ (Below.refl _ _) ?_
        rfl
      · intro vv W K hB hd HK
        simp only [confRules] at hd HK
        have h10 := hd
        clear hd
        simp only [h10] at HK ⊢
        clear h10
        refine wpList_guard_yes (by rfl) ?_
        go_wp2
        refine HK.out _ _ (Below.refl _ _) ?_
        rfl
      · intro vv W K hB hd HK
        simp only [confRules] at hd HK
        obtain ⟨h12, h13, h10⟩ := hd
        simp only [h12, h13, h10] at HK ⊢
        clear h12 h13 h10
        refine wpList_guard_yes (by rfl) ?_
        go_wp2
        refine HK.out _ _ (Below.refl _ _) ?_
        rfl
      · intro vv W K hB hd HK
        simp only [confRules] at hd HK
        obtain ⟨h10, h14⟩ := hd
        simp only [h10, h14] at HK ⊢
        clear h10 h14
        go_wp2
        refine HK.out _ _ (Below.refl _ _) ?_
        rfl
    case rahend =>
      intro vv W hB hf
      have e15 := hf 15 (by decide)
      simp only [endRules] at e15
      simp only [e15, dropRules]
      clear hf e15
      have hr := (hB.block (w.heap.size + 1) (by omega)).trans HBR.out
      have hc1' := cell_of_one hr
      have hf1' := free_of_one hr
      have HR := Lib.hid hr
      have HQ2 := Lib.hid (HQ.out.only (Only.of_below (S := []) hB) (by simp) (by simp))
      have HK2 := Lib.hid ((hB.block D hDW).trans HK.out)
      have hO2 := hOw.trans (Only.of_below hB)
      have z2 := hB.size
      clear hr
      go_wp2
      refine leave_marks (v := .bool true) [D] _ (by simp) ?_ ?_
      · intro E hE
        obtain rfl : E = D := by simpa using hE
        exact ((Only.refl [w.heap.size + 1] _).setCell (.inl (by simp)) _).get HK2.out (by simp; omega)
      · intro W' hO'
        have hr' := hO'.get (one_setCell HR.out) (by simp; omega)
        have hc' := cell_of_one hr'
        refine ⟨by simp [results, Try.results25, go_sem, hc'], rfl, ?_, ?_⟩
        · exact (HQ2.out.only ((Only.refl [w.heap.size + 1] _).setCell (.inl (by simp)) _) (by simp; omega) (by simp; omega)).only hO' (by simp; omega) (by simp; omega)
        · exact (hO2.setCell (.inr (by simp)) _).trans' hO' (by simp; omega)
  case stop =>
    rintro D c pre W _ _ h _
    exact h.elim
end Go.Proofs.Ytogijlpclceanaa
