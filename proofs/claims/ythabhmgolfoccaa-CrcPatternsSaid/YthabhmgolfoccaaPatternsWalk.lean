/- Proved here: what the text of the law CrcPatterns does: it answers true. -/
import Derived.Test.YthabhmgolfoccaaOpensWalk
import Derived.Test.YthabhmgolfoccaaMathE
import Derived.Test.YthabhmgolfoccaaDiv
import Derived.StillTailTactics
namespace Go.Proofs.Ythabhmgolfoccaa
open Go.RowKit Go.Rv
set_option linter.unusedVariables false
theorem open_two (g c : Nat) (X : List Nat) (W : World) (hb : Bytes W (some ⟨g, 0, none⟩) X) (hc : X.length ≤ c) (h4 : 4 ≤ X.length) (hlen : X.length ≤ 1000) (d : Bool) (hP : X.drop (X.length - 4) = Crc.le4 (Crc.sum (X.take (X.length - 4))) ↔ d = true) :
    Calls Try.prog 20 #[.agg Tb.tabV, .slice (some ⟨g, 0, none⟩) X.length c] W fun e w' => (∃ v, e = .returned (.tuple #[v, .int .i64 (if d then 0 else 11)])) ∧ Below W.heap.size W w' := by
  have h := open_at (some ⟨g, 0, none⟩) X c W hb (fun e => by cases e) hc h4 (by omega)
  cases d
  · rw [if_neg (by rw [hP]; simp)] at h
    refine h.mono ?_
    rintro e w' ⟨⟨v, rfl, _⟩, hB⟩
    exact ⟨⟨v, rfl⟩, hB⟩
  · rw [if_pos (by rw [hP])] at h
    refine h.mono ?_
    rintro e w' ⟨⟨v, rfl, _⟩, hB⟩
    exact ⟨⟨v, rfl⟩, hB⟩
/-- the pattern, as long as what is sealed -/
def padTo (m : List Nat) (n : Nat) : List Nat := m.take n ++ List.replicate (n - m.length) 0
theorem padTo_length (m : List Nat) (n : Nat) : (padTo m n).length = n := by simp [padTo]; omega
theorem padTo_lt {m : List Nat} (hm : ∀ c ∈ m, c < 256) (n : Nat) : ∀ c ∈ padTo m n, c < 256 := by
  intro c hc
  simp only [padTo, List.mem_append, List.mem_replicate] at hc
  rcases hc with h | h
  · exact hm c (List.mem_of_mem_take h)
  · omega
theorem splice_pad (m : List Nat) (N : Nat) (f : Nat → Value) : splice (List.replicate N (f 0)) 0 (List.take N (List.map f m)) = (padTo m N).map f := by
  have h : N - min N m.length = N - m.length := by omega
  simp [splice, padTo, h, List.map_take]
theorem src_cells {w : World} {b : Option Addr} {m : List Nat} (hb : Bytes w b m) (N : Nat) (h0 : 0 < ((m.take N).map bv).length) : ∃ ad, b = some ad ∧ ∀ (j : Nat) (v : Value), ((m.take N).map bv)[j]? = some v → w.cell? (ad.add j) = some v := by
  simp at h0
  obtain ⟨b1, o1, c1, rfl, _⟩ := hb.at (k := 0) (by omega)
  refine ⟨_, rfl, fun j v hv => ?_⟩
  simp only [List.getElem?_map, Option.map_eq_some_iff] at hv
  obtain ⟨x, hx, rfl⟩ := hv
  have hj : j < m.length := by have := (List.getElem?_eq_some_iff.1 hx).1; simp at this; omega
  obtain ⟨b2, o2, c2, e, _, hc, _, hl⟩ := hb.at hj
  cases e
  have hadd : (⟨b1, o1, none⟩ : Addr).add j = ⟨b1, o1 + j, none⟩ := by unfold Addr.add; split <;> simp_all
  rw [hadd, hc]
  rw [List.getElem?_take] at hx
  split at hx
  · rw [hl] at hx; cases hx; rfl
  · cases hx
set_option maxRecDepth 100000 in
set_option maxHeartbeats 1000000 in
theorem patterns_walk (a b : Option Addr) (l m : List Nat) (ca cb : Nat) (w : World) (ha : Bytes w a l) (hb : Bytes w b m) (hca : a = none → ca = 0) (hcb : b = none → cb = 0) (h100 : l.length ≤ 100) (hm104 : m.length ≤ 104) :
    Calls Try.prog 10 #[.slice a l.length ca, .slice b m.length cb] w fun e w' => e = .returned (.bool true) ∧ Below w.heap.size w w' := by
  have hz := (zero_of_info Try.infoTab).1
  have hi : (Try.prog.info? 25).map (·.size) = some Tb.tabV.size := by rw [Tb.size_tabV]; exact (zero_of_info Try.infoTab).2
  have hI := Lib.hid hi
  clear hi
  obtain ⟨N, hN⟩ : ∃ N, N = l.length + 4 := ⟨_, rfl⟩
  obtain ⟨S, hS⟩ : ∃ S, S = l ++ Crc.le4 (Crc.sum l) := ⟨_, rfl⟩
  have hSl : S.length = N := by rw [hS, hN]; simp [Crc.le4]
  have hSb : ∀ c ∈ S, c < 256 := by
    intro c hc
    rw [hS] at hc
    rcases List.mem_append.1 hc with h | h
    · exact ha.1 c h
    · exact Crc.le4_lt _ c h
  have hseal := fun W hb => seal_any a l ca W hb hca (by omega)
  rw [← hS] at hseal
  have HSE := Lib.hid hseal
  have hmk := run_make_bytes (P := Try.prog) 28 5 Try.underlying28 Try.info5 N (by omega)
  have hpat := Crc.patterns l (padTo m N) ha.1 (padTo_lt hb.1 N) (by rw [padTo_length, hN]) (Crc.xorTo S (padTo m N) N) (by rw [hS, padTo_length])
  have HSB := Lib.hid hSb
  have HSL := Lib.hid hSl
  have HM := Lib.hid (fun (W : World) hb => multiple_any b m cb W hb (by omega))
  have HD := Lib.hid (fun (W : World) hb => divides_any b m cb W hb (by omega))
  generalize decide (Crc.over 0 m = 0) = d at *
  have hdd : (d != d) = false := by cases d <;> rfl
  have hN4 : 4 ≤ N ∧ N ≤ 104 := by omega
  clear hseal hS hSb hN hSl
  go_enter Try.func10, Try.ntmps10
  go_wp2_with (first | (go_at_call 11; refine (anchor_any _).mono ?_; rintro e w1 ⟨rfl, hB1⟩) | (go_at_call 12; refine (new_any _).mono ?_; rintro e w2 ⟨rfl, hB2⟩) | (refine wpList_store_row rfl 25 _ _ rfl w2.heap.size Tb.tabV rfl rfl 25 Tb.zero (heap_alloc_new w2 _) hI.out (by rw [Tb.size_zero, Tb.size_tabV]) Tb.one_tabV ?_; rw [World.setRow_alloc_new]; have z1 := hB1.size; have z2 := hB2.size; have hBa := (hB1.trans (hB2.mono z1)).alloc (by omega) (.cells Tb.tabV 25); have hTa := heap_alloc_new w2 (.cells Tb.tabV 25); have hla : w2.heap.size < (w2.alloc (.cells Tb.tabV 25)).heap.size := by simp) | (refine wpList_load_row rfl 25 _ rfl w2.heap.size rfl 25 _ _ _ hTa Try.underlying25 rfl hI.out ?_) | (go_at_call 18; refine (HM.out _ (hb.below hBa)).mono ?_; rintro e w3 ⟨rfl, hB3⟩; have hl3 := Nat.lt_of_lt_of_le hla hB3.size; have hT3 := (hB3.block _ hla).trans hTa; have hB3' := hBa.trans (hB3.mono hBa.size)) | (go_at_call 22; refine (HD.out _ (hb.below hB3')).mono ?_; rintro e w4 ⟨rfl, hB4⟩; have hl4 := Nat.lt_of_lt_of_le hl3 hB4.size; have hT4 := (hB4.block _ hl3).trans hT3; have hB4' := hB3'.trans (hB4.mono hB3'.size)) | (refine wpList_load_row rfl 25 _ rfl w2.heap.size rfl 25 _ _ _ hT4 Try.underlying25 rfl hI.out ?_) | (go_at_call 19; refine (HSE.out _ (ha.below hB4')).mono ?_; rintro e w5 ⟨v5, rfl, hown5, hB5⟩; obtain ⟨g5, c5, rfl, hbg5, hlt5, hlc5, hcm5, hc5, hf5⟩ := hown5.open (by have := HSL.out; omega); clear hc5 hf5; rw [HSL.out] at hlc5 hown5; rw [HSL.out]; have hl5 := Nat.lt_of_lt_of_le hl4 hB5.size; have hT5 := (hB5.block _ hl4).trans hT4; have hB5' := hB4'.trans (hB5.mono hB4'.size)) | (with_reducible refine wpList_copy_splice rfl (.tmp 34) (.tmp 35) 28 28 rfl 5 Try.underlying28 ?c1 (some ⟨w5.heap.size, 0, none⟩) b N N m.length cb rfl rfl w5.heap.size 0 ((List.replicate N 0).map bv) 5 ?c2 ((m.take N).map bv) ?c3 ?c4 ?c5 ?c6 w5.heap.size _ (Below.refl _ _) (Nat.le_refl _) ?c7))
  case c1 => kernel_rfl
  case c2 => exact heap_alloc_new w5 _
  case c3 => show _ = min m.length N; simp; omega
  case c4 =>
    intro hp
    obtain ⟨ad, e, h⟩ := src_cells (hb.below (hB5'.alloc hB5'.size (.cells (byteCells (List.replicate N 0)) 5))) N (by simpa using hp)
    exact ⟨ad, e, by simpa [List.map_take] using h⟩
  case c5 => simp; omega
  case c6 =>
    intro v hv
    simp only [List.mem_map] at hv
    obtain ⟨x, _, rfl⟩ := hv
    rfl
  case c7 =>
    intro w6 HG6 hB6
    rw [splice_pad] at HG6
    have hq : Hid (w6.heap[w5.heap.size]? = some (.cells (byteCells (padTo m N)) 5 (0, 0))) := HG6
    have hql := Lib.hid (padTo_length m N)
    have hqb := Lib.hid (padTo_lt hb.1 N)
    have hdv : ∀ (W : World) (g : Nat) hb, _ := fun W g hb => divides_any (some ⟨g, 0, none⟩) (padTo m N) N W hb (by rw [padTo_length]; omega)
    rw [padTo_length] at hdv
    have HDV := Lib.hid hdv
    rw [← decide_eq_true_iff (p := Crc.over 0 (padTo m N) = 0)] at hpat
    have HPT := Lib.hid hpat
    generalize decide (Crc.over 0 (padTo m N) = 0) = dq at *
    generalize padTo m N = q at *
    have hown6 : OwnB w6 5 w4.heap.size (.slice (some ⟨g5, 0, none⟩) N c5) S := by
      have h1 := hown5.below ((Below.refl _ _).alloc (Nat.le_refl _) (.cells (byteCells (List.replicate N 0)) 5))
      refine h1.kept ⟨hB6.os, hB6.tape, hB6.output, hB6.size, fun i hi hne => hB6.block i ?_⟩ (row := some w5.heap.size) (.inr (by simp [Value.ownBlock]; omega))
      simp at hi
      have : i ≠ w5.heap.size := fun e => hne (by rw [e])
      omega
    have hT6 : w6.heap[w2.heap.size]? = some (.cells Tb.tabV 25 (0, 0)) := (hB6.block _ hl5).trans (((Below.refl _ _).alloc (Nat.le_refl _) _ : Below w5.heap.size w5 _).block _ hl5 |>.trans hT5)
    have hl6 : w5.heap.size < w6.heap.size := by have := hB6.size; simp at this; omega
    have hB6' : Below w.heap.size w w6 := (hB5'.alloc hB5'.size _).trans (hB6.mono hB5'.size)
    clear hpat HG6 hdv hown5 hT5 HM HD HSE hmk hz hb ha hB1 hB2 hBa hTa hB3 hB3' hT3 hT4 hB4 hB4' hB5 hB6
    go_wp2
    go_loopw [39] (fun i wr => ∃ k : Nat, k ≤ N ∧ i = .int .i64 k ∧ OwnB wr 5 w4.heap.size (.slice (some ⟨g5, 0, none⟩) N c5) (Crc.xorTo S q k) ∧ wr.heap[w2.heap.size]? = some (.cells Tb.tabV 25 (0, 0)) ∧ wr.heap[w5.heap.size]? = some (.cells (byteCells q) 5 (0, 0)) ∧ Below w.heap.size w wr ∧ w5.heap.size < wr.heap.size) (fun i _ => N - (intOf i).toNat)
    case atStart => exact ⟨0, by omega, rfl, hown6, hT6, hq.out, hB6', hl6⟩
    case round =>
      obtain ⟨k, hk, rfl, ho, hT, hQ, hBw, hls⟩ := hrel
      by_cases hlt : k < N
      · have hxq := Lib.hid (Crc.xorTo_lt HSB.out hqb.out k)
        have hxl := Crc.xorTo_length S q k
        rw [HSL.out] at hxl
        obtain ⟨g', c', hv, -, hgl, -, -, hcell, hfr⟩ := OwnB.open (l := Crc.xorTo S q k) (v := .slice (some ⟨g5, 0, none⟩) (Crc.xorTo S q k).length c5) (by rw [hxl]; exact ho) (by omega)
        cases hv
        have hx := hcell k (by omega)
        have hfz := hfr k
        have hx8 := Crc.getD_lt hxq.out k
        have hy : wr.cell? ⟨w5.heap.size, k, none⟩ = some (.int .u8 (q.getD k 0 : Nat)) := (cell_of_row _ _ _ _ _ _ hQ).trans (byteCells_at _ _ (by rw [hql.out]; exact hlt))
        have hy8 := Crc.getD_lt hqb.out k
        have hst := Lib.hid (show Crc.xorTo S q (k + 1) = (Crc.xorTo S q k).set k ((Crc.xorTo S q k).getD k 0 ^^^ q.getD k 0) from rfl)
        generalize (Crc.xorTo S q k).getD k 0 = x at *
        generalize q.getD k 0 = y at *
        have hxy : bits .xor .u8 (x : Int) (y : Int) = ((x ^^^ y : Nat) : Int) := u8_xor_nat x y hx8 hy8
        have hxy8 : x ^^^ y < 256 := Nat.xor_lt_two_pow (n := 8) hx8 hy8
        generalize x ^^^ y = z at *
        have HXL := Lib.hid hxl
        have hset := fun (W : World) h => Lib.hid (OwnB.set (w := W) (e := 5) (base := w4.heap.size) (g := g5) (cap := c5) (l := Crc.xorTo S q k) h k z hxy8)
        rw [hxl] at hset
        have HSET := Lib.hid hset
        have i0 : (0 : Int) ≤ (k : Int) := by omega
        have i1 : (k : Int) < (N : Int) := by omega
        clear hxl hset hcell hfr
        go_wp2
        go_still_tail 10, (by kernel_rfl)
        change wpList _ _ _ _ _ wr.drew
        have ho2 : OwnB wr.drew 5 w4.heap.size (.slice (some ⟨g5, 0, none⟩) N c5) (Crc.xorTo S q k) := ho
        have hT2 : wr.drew.heap[w2.heap.size]? = some (.cells Tb.tabV 25 (0, 0)) := hT
        have hQ2 : wr.drew.heap[w5.heap.size]? = some (.cells (byteCells q) 5 (0, 0)) := hQ
        have hx2 : wr.drew.cell? ⟨g5, k, none⟩ = some (.int .u8 x) := hx
        have hy2 : wr.drew.cell? ⟨w5.heap.size, k, none⟩ = some (.int .u8 y) := hy
        have hf2 : wr.drew.frozen? ⟨g5, k, none⟩ = false := hfz
        have hB2 : Below w.heap.size w wr.drew := hBw.drew
        have hl2 : w5.heap.size < wr.drew.heap.size := hls
        clear ho hT hQ hx hy hfz hBw hls hgl
        generalize wr.drew = wd at *
        have hnT := (Below.heap_setCell wd ⟨g5, k, none⟩ (.int .u8 (z : Nat)) w2.heap.size (by simp; omega)).trans hT2
        have hnQ := (Below.heap_setCell wd ⟨g5, k, none⟩ (.int .u8 (z : Nat)) w5.heap.size (by simp; omega)).trans hQ2
        have hnO := (HSET.out wd ho2).out
        rw [← hst.out] at hnO
        have hnB := hB2.setCell (p := ⟨g5, k, none⟩) (show w.heap.size ≤ g5 by omega) (.int .u8 (z : Nat))
        have HN := Lib.hid (And.intro hnO (And.intro hnT (And.intro hnQ hnB)))
        clear ho2 hT2 hQ2 hB2 hnT hnQ hnO hnB
        go_wp2
        go_roundw
        case rel => exact ⟨k + 1, by omega, by go_num, HN.out.1, HN.out.2.1, HN.out.2.2.1, HN.out.2.2.2, by simp [World.setCell]; omega⟩
        case measure => simp [intOf]; omega
      · obtain rfl : k = N := by omega
        have hxl := Crc.xorTo_length S q k
        rw [HSL.out] at hxl
        have hpt := HPT.out
        have hX8 := Crc.xorTo_lt HSB.out hqb.out k
        have hXb : Bytes wr (some ⟨g5, 0, none⟩) (Crc.xorTo S q k) := own_read (by rw [hxl]; exact ho)
        have hQb : Bytes wr (some ⟨w5.heap.size, 0, none⟩) q := byteCells_row hQ hqb.out
        generalize Crc.xorTo S q k = X at *
        have HO := fun (W : World) hb => open_two g5 c5 X W hb (by omega) (by omega) (by omega) dq hpt
        rw [hxl] at HO
        have HOP := Lib.hid HO
        clear HO HPT hpt hX8 hxl hq hT6 hown6 ho hQ
        have hres : ((if dq = true then (0 : Int) else 11) == 0) = dq := by cases dq <;> rfl
        have hdq : (dq == dq) = true := by cases dq <;> rfl
        generalize (if dq = true then (0 : Int) else 11) = er at *
        go_wp2_with (first | (refine wpList_load_row rfl 25 _ rfl w2.heap.size rfl 25 _ _ _ hT Try.underlying25 rfl hI.out ?_) | (go_at_call 20; refine (HOP.out _ hXb).mono ?_; rintro e w7 ⟨⟨v7, rfl⟩, hB7⟩) | (go_at_call 22; refine (HDV.out _ _ (hQb.below hB7)).mono ?_; rintro e w8 ⟨rfl, hB8⟩))
        go_ret
        refine ⟨rfl, ?_⟩
        have hB9 := hBw.trans (hB7.mono hBw.size)
        exact hB9.trans (hB8.mono hB9.size)
end Go.Proofs.Ythabhmgolfoccaa
