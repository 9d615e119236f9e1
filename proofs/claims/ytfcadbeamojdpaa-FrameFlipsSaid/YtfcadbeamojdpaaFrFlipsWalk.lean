/- Proved here: the walk of the law on turned bits. -/
import Derived.Test.YtfcadbeamojdpaaFrUnlikeWalk
import Derived.Test.YtfcadbeamojdpaaFlipMath
namespace Go.Proofs.Ytfcadbeamojdpaa
open Go.RowKit Go.Rv Frm
set_option linter.unusedVariables false
theorem bit_and1 (v k : Nat) (hv : v < 2 ^ 32) : (bits .and .u32 ((v : Int) / 2 ^ k) 1 == 1) = v.testBit k := by
  have e : ((v : Int) / 2 ^ k) = ((v / 2 ^ k : Nat) : Int) := by rw [Int.natCast_ediv, Int.natCast_pow]; rfl
  rw [e, and1 _ (Nat.lt_of_le_of_lt (Nat.div_le_self _ _) hv)]
  rw [← Nat.shiftRight_eq_div_pow, Nat.testBit]
  rw [Nat.one_and_eq_mod_two]
  rcases Nat.mod_two_eq_zero_or_one (v >>> k) with h | h <;> rw [h] <;> rfl
theorem xor_bit (x i : Nat) (hx : x < 256) : bits .xor .u8 (x : Int) ((2 : Int) ^ (i % 8) % 256) = ((x ^^^ 2 ^ (i % 8) : Nat) : Int) := by
  have h8 : 2 ^ (i % 8) < 256 := Crc.two_pow_lt i
  have e : ((2 : Int) ^ (i % 8)) % 256 = ((2 ^ (i % 8) : Nat) : Int) := by
    have : ((2 ^ (i % 8) : Nat) : Int) = (2 : Int) ^ (i % 8) := by rw [Int.natCast_pow]; rfl
    rw [← this]
    exact Int.emod_eq_of_lt (Int.natCast_nonneg _) (Int.ofNat_lt.2 h8)
  rw [e]
  exact u8_xor_nat x _ hx h8
theorem xor_step (L : List Nat) (i : Nat) (hL : ∀ c ∈ L, c < 256) (hi : i < 8 * L.length) : ∃ x v : Nat, x = L.getD (i / 8) 0 ∧ (byteCells L)[i / 8]? = some (.int .u8 (x : Nat)) ∧ bits .xor .u8 (x : Int) ((2 : Int) ^ (i % 8) % 256) = (v : Int) ∧
    (byteCells L).setIfInBounds (i / 8) (.int .u8 (v : Nat)) = byteCells (Crc.xorAt L i) :=
  ⟨_, _, rfl, byteCells_at _ _ (by omega), xor_bit _ i (Crc.getD_lt hL _), byteCells_set _ _ _⟩
set_option maxRecDepth 100000 in
set_option maxHeartbeats 1000000 in
theorem fr_flips_core (A ZF : Array Value) (L : List Nat) (ea : Int) (v : Nat) (at_ : Int) (w : World) (hL : L.length = 64) (hLb : ∀ c ∈ L, c < 256) (hv : v < 2 ^ 32)
    (hIA : (Try.prog.info? 24).map (·.size) = some A.size) (hIZ : (Try.prog.info? 24).map (·.size) = some ZF.size)
    (h1X : ZF.all (·.oneCell') = true)
    (hzF : ∀ w : World, (zeroValue 24).run Try.prog w = .ok (.agg ZF) w)
    (HEA : ∀ W, Calls Try.prog 17 #[.agg Tb.tabV, .agg A] W fun e w' => e = .returned (.tuple #[.agg (byteCells L), .int .i64 ea]) ∧ Below W.heap.size W w')
    (hfin : ea = 10 ∨ (ea = 0 ∧ (((v : Int) == 0) = true ∨ (((v : Int) == 0) = false ∧ (decide (at_ < 0) = true ∨ (decide (at_ < 0) = false ∧ (decide (at_ > 480) = true ∨ (decide (at_ > 480) = false ∧ ∃ p : Nat, at_ = p ∧ p ≤ 480 ∧ ∀ W, Calls Try.prog 18 #[.agg Tb.tabV, .agg (byteCells (Crc.turned L p v 32))] W fun e w' => e = .returned (.tuple #[.agg ZF, .int .i64 11]) ∧ Below W.heap.size W w')))))))) :
    Calls Try.prog 4 #[.agg A, .int .u32 v, .int .i64 at_] w fun e w' => e = .returned (.bool true) ∧ Below w.heap.size w w' := by
  have hIS := size_sec hL
  have h1S := one_byteCells L
  have hzT := (zero_of_info Try.infoTab).1
  have hzS := (zero_of_info Try.infoSector).1
  have HIT := Lib.hid size_tab
  have HST := Lib.hid (show Tb.zero.size = Tb.tabV.size by rw [Tb.size_zero, Tb.size_tabV])
  have H1T := Lib.hid Tb.one_tabV
  have HN := Lib.hid (fun W => new_any W)
  have hZ0 := (zero_of_info Try.infoSector).2
  have HZA := Lib.hid (show (byteCells (List.replicate 64 0)).size = (byteCells L).size by rw [size_byteCells]; rw [hZ0] at hIS; simpa using hIS)
  have HIA := Lib.hid hIA
  have HIZ := Lib.hid hIZ
  have HIS := Lib.hid hIS
  have HEA := Lib.hid HEA
  have H1S := Lib.hid h1S
  have H1X := Lib.hid h1X
  have HFIN := Lib.hid hfin
  clear hIA hIZ hIS h1S h1X hfin hZ0
  have HLL := Lib.hid hL
  have HLB := Lib.hid hLb
  clear hL hLb
  generalize byteCells (List.replicate 64 0) = ZS at *
  obtain ⟨SA, hSA⟩ : ∃ SA, byteCells L = SA := ⟨_, rfl⟩
  have HSA := Lib.hid hSA
  rw [hSA] at HZA HIS HEA H1S
  clear hSA
  generalize Tb.tabV = TV at *
  generalize Tb.zero = TZ at *
  have hB0 := (Below.refl w.heap.size w).alloc (Nat.le_refl _) (.cells A 24)
  have hA0 := heap_alloc_new w (.cells A 24)
  go_enter Try.func4, Try.ntmps4
  go_wp2_with (first | (go_at_call 15; refine (fr_anchor _).mono ?_; rintro e w1 ⟨rfl, hB1⟩))
  have s0 : (w.alloc (.cells A 24)).heap.size = w.heap.size + 1 := by simp
  have hA1 := (hB1.block w.heap.size (by rw [s0]; omega)).trans hA0
  have hB1' := hB0.trans (hB1.mono hB0.size)
  have z1 := hB1.size
  rw [s0] at z1
  go_wp2_with fail
  refine (HN.out _).mono ?_
  rintro e w2 ⟨rfl, hB2⟩
  have hA2 := (hB2.block w.heap.size (by omega)).trans hA1
  have hB2' := hB1'.trans (hB2.mono hB1'.size)
  have z2 := hB2.size
  have hB3 := hB2'.alloc hB2'.size (.cells TV 28)
  have hA3 := (((Below.refl w2.heap.size w2).alloc (Nat.le_refl _) (.cells TV 28)).block w.heap.size (by omega)).trans hA2
  have hT3 := heap_alloc_new w2 (.cells TV 28)
  have z3 : (w2.alloc (.cells TV 28)).heap.size = w2.heap.size + 1 := by simp
  go_wp2_with (first | (refine wpList_store_row rfl 28 _ _ rfl w2.heap.size TV rfl rfl 28 TZ (heap_alloc_new w2 _) HIT.out HST.out H1T.out ?_; rw [World.setRow_alloc_new]) | (refine wpList_load_row rfl 28 _ rfl (w2.heap.size) rfl 28 _ _ _ hT3 Try.underlying28 rfl HIT.out ?_) | (refine wpList_load_row rfl 24 _ rfl (w.heap.size) rfl 24 _ _ _ hA3 Try.underlying24 rfl HIA.out ?_))
  refine (HEA.out _).mono ?_
  rintro e w4 ⟨rfl, hB4⟩
  have hA4 := (hB4.block w.heap.size (by omega)).trans hA3
  have hT4 := (hB4.block w2.heap.size (by omega)).trans hT3
  have hB4' := hB3.trans (hB4.mono hB3.size)
  have z4 := hB4.size
  rw [z3] at z4
  have hB5 := hB4'.alloc hB4'.size (.cells SA 31)
  have hbw := (Below.refl w4.heap.size w4).alloc (Nat.le_refl _) (.cells SA 31)
  have hA5 := (hbw.block w.heap.size (by omega)).trans hA4
  have hT5 := (hbw.block w2.heap.size (by omega)).trans hT4
  have hS5 := heap_alloc_new w4 (.cells SA 31)
  have z5 : (w4.alloc (.cells SA 31)).heap.size = w4.heap.size + 1 := by simp
  clear hA0 hA1 hA2 hA3 hT3 hA4 hT4 hbw hB0 hB1 hB1' hB2 hB2' hB3 hB4 hB4'
  rcases HFIN.out with rfl | ⟨rfl, t1 | ⟨t1, t2 | ⟨t2, t3 | ⟨t3, p, rfl, hp, HD⟩⟩⟩⟩
  · clear HFIN
    go_wp2_with (first | (refine wpList_store_row rfl 31 _ _ rfl w4.heap.size SA rfl rfl 31 ZS (heap_alloc_new w4 _) HIS.out HZA.out H1S.out ?_; rw [World.setRow_alloc_new]))
    go_ret
    exact ⟨rfl, hB5⟩
  · clear HFIN
    go_wp2_with (first | (refine wpList_store_row rfl 31 _ _ rfl w4.heap.size SA rfl rfl 31 ZS (heap_alloc_new w4 _) HIS.out HZA.out H1S.out ?_; rw [World.setRow_alloc_new]))
    go_ret
    exact ⟨rfl, hB5⟩
  · clear HFIN
    go_wp2_with (first | (refine wpList_store_row rfl 31 _ _ rfl w4.heap.size SA rfl rfl 31 ZS (heap_alloc_new w4 _) HIS.out HZA.out H1S.out ?_; rw [World.setRow_alloc_new]))
    go_ret
    exact ⟨rfl, hB5⟩
  · clear HFIN
    go_wp2_with (first | (refine wpList_store_row rfl 31 _ _ rfl w4.heap.size SA rfl rfl 31 ZS (heap_alloc_new w4 _) HIS.out HZA.out H1S.out ?_; rw [World.setRow_alloc_new]))
    go_ret
    exact ⟨rfl, hB5⟩
  · have HD := Lib.hid HD
    clear HFIN
    go_wp2_with (first | (refine wpList_store_row rfl 31 _ _ rfl w4.heap.size SA rfl rfl 31 ZS (heap_alloc_new w4 _) HIS.out HZA.out H1S.out ?_; rw [World.setRow_alloc_new]))
    go_loopw [36] (fun i wr => ∃ k : Nat, k ≤ 32 ∧ i = .int .i64 k ∧ wr.heap[w4.heap.size]? = some (.cells (byteCells (Crc.turned L p v k)) 31 (0, 0)) ∧ wr.heap[w2.heap.size]? = some (.cells TV 28 (0, 0)) ∧ Below w.heap.size w wr ∧ w4.heap.size < wr.heap.size) (fun i _ => 32 - (intOf i).toNat)
    case atStart =>
      exact ⟨0, by omega, rfl, by rw [show Crc.turned L p v 0 = L from rfl, HSA.out]; exact hS5, hT5, hB5, by simp⟩
    case round =>
      obtain ⟨k, hk, rfl, hg, hT, hB, hsz⟩ := hrel
      clear hA5 hT5 hS5 hB5 z5 z3
      by_cases hlt : k < 32
      · by_cases hb : v.testBit k = true
        · have e1 := bit_and1 v k hv
          rw [hb] at e1
          have hlb := Crc.turned_lt HLB.out p v k
          have hll := Crc.length_turned L p v k
          rw [HLL.out] at hll
          obtain ⟨x0, v0, hx0, h0, e0, s0⟩ := xor_step (Crc.turned L p v k) (p + k) hlb (by omega)
          have hc : wr.cell? ⟨w4.heap.size, (p + k) / 8, none⟩ = some (.int .u8 (x0 : Nat)) := (cell_of_row _ _ _ _ _ _ hg).trans h0
          have hf : wr.frozen? ⟨w4.heap.size, (p + k) / 8, none⟩ = false := frozen_of_row _ _ _ _ _ hg
          have H := Lib.hid (show (wr.setCell ⟨w4.heap.size, (p + k) / 8, none⟩ (.int .u8 (v0 : Nat))).heap[w4.heap.size]? = some (.cells (byteCells (Crc.turned L p v (k + 1))) 31 (0, 0)) by
            rw [heap_setCell_same _ _ _ _ _ _ hg, s0]; simp only [Crc.turned, hb, if_true])
          have HT := Lib.hid (show (wr.setCell ⟨w4.heap.size, (p + k) / 8, none⟩ (.int .u8 (v0 : Nat))).heap[w2.heap.size]? = some (.cells TV 28 (0, 0)) by
            exact (((Only.refl [w4.heap.size] wr).setCell (p := ⟨w4.heap.size, (p + k) / 8, none⟩) (by simp) _).block w2.heap.size (by omega) (by simp; omega)).trans hT)
          clear h0 s0 hx0 hg hll hlb hb hT
          go_wp2
          go_roundw
          case rel => exact ⟨k + 1, by omega, by go_num, H.out, HT.out, hB.setCell (p := ⟨w4.heap.size, (p + k) / 8, none⟩) (by show w.heap.size ≤ w4.heap.size; omega) _, by simp [World.setCell]; exact hsz⟩
          case measure => simp [intOf]; omega
        · have hb' : v.testBit k = false := by simpa using hb
          have e1 := bit_and1 v k hv
          rw [hb'] at e1
          have H := Lib.hid (show Crc.turned L p v (k + 1) = Crc.turned L p v k by simp [Crc.turned, hb'])
          clear hb hb'
          go_wp2
          go_roundw
          case rel => exact ⟨k + 1, by omega, by go_num, by rw [H.out]; exact hg, hT, hB, hsz⟩
          case measure => simp [intOf]; omega
      · obtain rfl : k = 32 := by omega
        clear hlt
        have HIX := Lib.hid (size_sec (l := Crc.turned L p v 32) (by rw [Crc.length_turned, HLL.out]))
        generalize byteCells (Crc.turned L p v 32) = XA at *
        go_wp2_with (first | (refine wpList_load_row rfl 28 _ rfl (w2.heap.size) rfl 28 _ _ _ hT Try.underlying28 rfl HIT.out ?_) | (refine wpList_load_row rfl 31 _ rfl (w4.heap.size) rfl 31 _ _ _ hg Try.underlying31 rfl HIX.out ?_) | (go_at_call 18; refine (HD.out _).mono ?_; rintro e w6 ⟨rfl, hB6⟩) | (refine wpList_store_row rfl 24 _ _ rfl w6.heap.size ZF rfl rfl 24 ZF (heap_alloc_new w6 _) HIZ.out rfl H1X.out ?_; rw [World.setRow_alloc_new]))
        go_ret
        exact ⟨rfl, (hB.trans (hB6.mono hB.size)).alloc (by have := hB.size; have := hB6.size; omega) _⟩
theorem fr_flips_walk (f : Fr) (v : Nat) (at_ : Int) (hb : Body f.body) (hv : v < 2 ^ 32) (w : World) :
    Calls Try.prog 4 #[.agg (FC f), .int .u32 v, .int .i64 at_] w fun e w' => e = .returned (.bool true) ∧ Below w.heap.size w w' := by
  obtain ⟨hlA, hcA⟩ := enc_len f hb
  refine fr_flips_core (FC f) (FC Fr.zero) _ _ v at_ w hlA hcA hv (size_frm hb.1) (size_frm body_zeros.1) (FC_one _) (zero_of_info Try.infoFrame).1 (fun W => encode_any f W hb) ?_
  cases hra : rightF f
  · exact .inl (by simp)
  · refine .inr ⟨by simp, ?_⟩
    simp only [if_true]
    by_cases h0 : v = 0
    · exact .inl (by rw [h0]; rfl)
    · refine .inr ⟨by rw [beq_eq_false_iff_ne]; omega, ?_⟩
      by_cases h1 : at_ < 0
      · exact .inl (decide_eq_true h1)
      · refine .inr ⟨decide_eq_false h1, ?_⟩
        by_cases h2 : at_ > 480
        · exact .inl (decide_eq_true h2)
        · refine .inr ⟨decide_eq_false h2, at_.toNat, by omega, by omega, fun W => ?_⟩
          have h := decode_any (Crc.turned (sectorOf f) at_.toNat v 32) W (by rw [Crc.length_turned, sector_length hb]) (Crc.turned_lt (sector_lt hb) _ _ _)
          rw [turned_dec hb at_.toNat v hv h0 (by omega)] at h
          exact h
end Go.Proofs.Ytfcadbeamojdpaa
